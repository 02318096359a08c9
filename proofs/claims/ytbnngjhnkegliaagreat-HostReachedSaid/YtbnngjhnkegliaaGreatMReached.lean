/-
  PROVED: 'HostReachedSaid': for every number of frames, tax, list of claims, list of operations and numbers, HostReached hands back true and leaves all memory as it was. Conditions: none.
-/
import Derived.Test.YtbnngjhnkegliaaGreatB35
namespace Go.Proofs.YtbnngjhnkegliaaGreat
open Go.ChangeShapes Go.WideShapes Go.ChangeAt Go.RowKit
theorem sz6 {p : Prop} (h : p := by first|with_reducible rfl|omega|(simp only[sizes];done)|(simp only[sizes];omega)) : p := h
theorem open_intRow {H:Type} {enc:TypeId×Value→H} {P:Program} {W:World} {r:Reach} {b0:Nat} {base:Nat} {held:Bool} {t e:TypeId} {v:Value} {d:DataW H} {p:List MemPlace} (ht:P.underlying t=some (.slice e)) (he:P.underlying e=some (.int .i64)) (hc:P.cellsOf e=1)
    (hv:Value.okWide P W r b0 t v) (h:DataW.Trod enc P W base (fun _=>true) held t v d p) :
    ∃ (ao:Option Addr) (xs:List Int) (cap:Nat),v=.slice ao xs.length cap∧IntRow W v xs∧xs.length≤9223372036854775807∧(∀ x∈xs,(Lit.int .i64 x).wf=true):=by
 obtain⟨a0,len,cap,rfl⟩:=okWide_slice ht hv
 obtain⟨fuel,hf⟩:=h
 rcases open_ints ht he hc hf with ⟨hcs,hx⟩|⟨a,len',cap',zs,hcs,_,hl,hm,hz,hx,hcell,hwz⟩
 · simp [Value.cells] at hcs
   obtain⟨rfl,rfl,rfl⟩:=hcs
   exact⟨none,[],0,rfl,IntRow.nil W,by simp,by simp⟩
 · simp [Value.cells] at hcs
   obtain⟨rfl,rfl,rfl⟩:=hcs
   simp only[if_true] at hz
   have hlen:(zs.take len).length=len:=by rw[List.length_take,hz];omega
   refine ⟨some a,zs.take len,cap,by rw[hlen],?_,by rw[hlen];unfold maxLen at hm;omega,fun x hx=>hwz x (List.mem_of_mem_take hx)⟩
   unfold IntRow
   rw[hlen]
   refine ⟨some a,cap,rfl,hl,hm,?_⟩
   by_cases h0:len=0
   · left;subst h0;simp
   · right
     obtain⟨b,off,rfl,hcc⟩:=ints_at hcell (by omega)
     refine ⟨b,off,rfl,World.block_lt_of_cell? W _ (hcc 0 (by omega)),fun i u hu=>?_⟩
     rw[List.getElem?_map] at hu
     cases hi:(zs.take len)[i]? with
     | none=>rw[hi] at hu;simp at hu
     | some x =>
       rw[hi] at hu
       simp at hu
       subst hu
       rw[List.getElem?_take] at hi
       split at hi
       · have:=hcc i (by omega)
         rw[this,List.getD_eq_getElem?_getD,hi];rfl
       · simp at hi
end Go.Proofs.YtbnngjhnkegliaaGreat
namespace Go.Proofs.YtbnngjhnkegliaaGreat
open Go.RowKit
def ActTo (H H':Ho) (g p:Nat) (s:ByteArray):Prop :=
 (g<3∧p<6∧((∃ n,s=pageS n∧WriteTo H g p s H')∨(s=⟨#[]⟩∧ReadTo H g p H')))∨(g=0∧p=0∧s=⟨#[]⟩∧((∃ n,H'=H.scan n)∨∃ i k,H'=H.sample i k))
theorem act_kept {n:Nat} {ls:List Int} {H H':Ho} {g p:Nat} {s:ByteArray} (h:HShape n ls H) (ha:ActTo H H' g p s):HShape n ls H'∧(∀ a b,H.P.at a b→H'.text a b=if s.size≠0∧g=a∧p=b then s else H.text a b)∧(s.size=0∨(g<3∧p<6∧s.size=128)):=by
 rcases ha with ⟨hg,hp,⟨m,rfl,hw⟩|⟨rfl,hr⟩⟩|⟨rfl,rfl,rfl,⟨m,rfl⟩|⟨i,k,rfl⟩⟩
 · have hat:=(h.at_ g p).2 ⟨hg,hp⟩
   have hs:=pageS_size m
   have W:=write_keeps h.ok hat hs hw
   refine ⟨h.kept W.k,fun a b hab=>?_,.inr ⟨hg,hp,hs⟩⟩
   rw[W.text a b hab]
   by_cases e:g=a∧p=b
   · rw[if_pos e,if_pos ⟨by omega,e⟩]
   · rw[if_neg e,if_neg (fun h=>e h.2)]
 · have hat:=(h.at_ g p).2 ⟨hg,hp⟩
   obtain⟨k1,k2,_⟩:=read_keeps h.ok hat hr
   exact⟨h.kept k1,fun a b hab=>by rw[k2 a b hab,if_neg (fun h=>h.1 rfl)],.inl rfl⟩
 · have S:=scan_scanned h.ok m
   exact⟨h.kept S.k,fun a b hab=>by rw[S.text hab,if_neg (fun h=>h.1 rfl)],.inl rfl⟩
 · obtain⟨_,_,_,_,_,h6,_⟩:=sample_keeps h.ok i k
   exact⟨h.kept (sample_kept h.ok i k),fun a b hab=>by rw[h6,if_neg (fun h=>h.1 rfl)],.inl rfl⟩
def RetAct (H:Ho) (w:World) (e:Ending) (w':World):Prop:=∃ (H':Ho) (g p:Nat) (s:ByteArray),ActTo H H' g p s∧RetHoB (fun v=>.tuple #[v,.int .i64 g,.int .i64 p,.string s,.bool true]) H' w e w'
set_option maxRecDepth 100000 in
set_option maxHeartbeats 8000000 in
theorem act_any (v:Value) (n:Nat) (ls:List Int) (H:Ho) (x:Int) (w:World) (ha:HoAt w v H) (hsh:HShape n ls H):Calls Tryz.prog 12 #[v,.int .i64 x] w (RetAct H w):=by
 obtain⟨V,hV⟩:∃ v,mixI x 42=v:=⟨_,rfl⟩
 have hb:=mixI_bd x 42
 have hm:=mix_any x 42
 rw[hV] at hb hm
 clear hV
 have HMX:=lh hm;clear hm
 obtain⟨g,hg⟩:∃ g:Nat,V % 3=g:=⟨(V % 3).toNat,by omega⟩
 obtain⟨p,hp⟩:∃ p:Nat,V / 16 % 6=p:=⟨(V / 16 % 6).toNat,by omega⟩
 obtain⟨k,hk⟩:∃ k:Nat,V / 256 % 8=k:=⟨(V / 256 % 8).toNat,by omega⟩
 have hg3:g<3:=by omega
 have hp6:p<6:=by omega
 have hk8:k<8:=by omega
 have hat:=(hsh.at_ g p).2 ⟨hg3,hp6⟩
 have hgl:g<H.G.length:=by rw[hsh.g];exact hg3
 have PG:=fun w=>page_any (V / 4096) w (by omega)
 have WR:=fun v w h=>hwrite_ok v H g p (pageS (V / 4096)) w h hsh.ok hat (pageS_size _)
 have RD:=fun v w h=>hread_ok v H g p w h hsh.ok hat
 have hpg:pageS (V / 4096)=pageS (V / 4096):=rfl
 obtain⟨d,hd⟩:∃ d,pageS (V / 4096)=d:=⟨_,rfl⟩
 have hdd:∃ n,d=pageS n:=⟨_,hd.symm⟩
 rw[hd] at PG WR
 have HDD:=lh hdd;clear hdd hd hpg
 have HPG:=lh PG;clear PG
 have HWR:=lh WR;clear WR
 have HRD:=lh RD;clear RD
 have HSH:=lh hsh;clear hsh hat hgl
 obtain⟨of,or',om,og,kf,kr,km,kg,n,r,m,q,tx,dx,sx,HN,HR,HM,HQ,HT,HD,HS,rfl,kf1,kf2,kr1,kr2,km1,km2,kg1,kg2,h⟩:=HoAt.opened ha
 have h0:=h
 have HVA:Hid (∀ w':World,Below w.heap.size w w'→HoAt w' (.agg #[.slice of n kf,.slice or' r kr,.slice om m km,.slice og q kg,.int .i64 tx,.int .u64 dx,.int .i64 sx]) H):=lh (fun w' hb=>by
  have:=(h0.below hb).at_
  rwa[HT.out,HD.out,HS.out] at this)
 clear h h0
 have D1:=(HasBlock.made w #[.slice of n kf,.slice or' r kr,.slice om m km,.slice og q kg,.int .i64 tx,.int .u64 dx,.int .i64 sx] 30).alloc (.cells #[.slice none 0 0,.slice none 0 0,.slice none 0 0,.slice none 0 0,.int .i64 0,.int .u64 0,.int .i64 0] 30)
 have D2:=HasBlock.made (w.alloc (.cells #[.slice of n kf,.slice or' r kr,.slice om m km,.slice og q kg,.int .i64 tx,.int .u64 dx,.int .i64 sx] 30)) #[.slice none 0 0,.slice none 0 0,.slice none 0 0,.slice none 0 0,.int .i64 0,.int .u64 0,.int .i64 0] 30
 rw[World.size_alloc] at D2
 have hbw:Below w.heap.size w ((w.alloc (.cells #[.slice of n kf,.slice or' r kr,.slice om m km,.slice og q kg,.int .i64 tx,.int .u64 dx,.int .i64 sx] 30)).alloc (.cells #[.slice none 0 0,.slice none 0 0,.slice none 0 0,.slice none 0 0,.int .i64 0,.int .u64 0,.int .i64 0] 30)):=bel
 have hz0:w.heap.size+1+1=((w.alloc (.cells #[.slice of n kf,.slice or' r kr,.slice om m km,.slice og q kg,.int .i64 tx,.int .u64 dx,.int .i64 sx] 30)).alloc (.cells #[.slice none 0 0,.slice none 0 0,.slice none 0 0,.slice none 0 0,.int .i64 0,.int .u64 0,.int .i64 0] 30)).heap.size:=by simp only[sizes]
 go_enter Tryz.func12,Tryz.ntmps12
 obtain⟨D1_c,D1_f,D1_z⟩:=D1.all
 go_wp2_with fail
 clear D1_c D1_f D1_z
 with_reducible refine (HMX.out _).mono ?_
 rintro e w1 ⟨rfl,hb1⟩
 replace D1:=D1.below hb1
 replace D2:=D2.below hb1
 have hz1:w.heap.size+1+1≤w1.heap.size:=by rw[hz0];exact hb1.size
 replace hbw:=hbw.trans (hb1.mono hbw.size)
 clear hb1 hz0
 have q1:(V.tmod 3)=(g:Int):=by rw[Int.tmod_eq_emod_of_nonneg hb.1];exact hg
 have q2:((V / 16).tmod 6)=(p:Int):=by rw[Int.tmod_eq_emod_of_nonneg (by omega)];exact hp
 have q3:((V / 256).tmod 8)=(k:Int):=by rw[Int.tmod_eq_emod_of_nonneg (by omega)];exact hk
 have hk7:k=0∨k=1∨k=2∨k=3∨k=4∨k=5∨k=6∨k=7:=by omega
 rcases hk7 with rfl|rfl|rfl|rfl|rfl|rfl|rfl|rfl
 · obtain⟨D1_c,D1_f,D1_z⟩:=D1.all
   go_wp2_with fail
   clear D1_c D1_f D1_z
   with_reducible refine (HPG.out _).mono ?_
   rintro e w2 ⟨rfl,hb2⟩
   replace D1:=D1.below hb2
   replace D2:=D2.below hb2
   replace hbw:=hbw.trans (hb2.mono hbw.size)
   replace hz1:=Nat.le_trans hz1 hb2.size
   clear hb2
   obtain⟨D1_c,D1_f,D1_z⟩:=D1.all
   go_wp2_with fail
   clear D1_c D1_f D1_z
   with_reducible refine (HWR.out _ _ (HVA.out _ hbw)).mono ?_
   rintro e w3 ⟨H2,hw2,of3,or3,om3,og3,kf3,kr3,km3,kg3,us3,gs3,rfl,O3,hb3⟩
   obtain⟨n3,hln⟩:∃ n,(Pl.F (Ho.P H2)).length=n:=⟨_,rfl⟩
   obtain⟨r3,hlr⟩:∃ n,(Pl.R (Ho.P H2)).length=n:=⟨_,rfl⟩
   obtain⟨m3,hlm⟩:∃ n,(Pl.M (Ho.P H2)).length=n:=⟨_,rfl⟩
   obtain⟨q3,hlq⟩:∃ n,(Ho.G H2).length=n:=⟨_,rfl⟩
   obtain⟨t3,hlt3⟩:∃ n,Ho.t H2=n:=⟨_,rfl⟩
   obtain⟨d3,hld⟩:∃ n,Ho.d H2=n:=⟨_,rfl⟩
   obtain⟨s3,hls⟩:∃ n,Ho.n H2=n:=⟨_,rfl⟩
   rw[hln,hlr,hlm,hlq] at O3 ⊢
   rw[hlt3,hld,hls]
   have HG3:=lh (And.intro hln (And.intro hlr (And.intro hlm (And.intro hlq (And.intro hlt3 (And.intro hld hls))))))
   clear hln hlr hlm hlq hlt3 hld hls
   have HWT:=lh hw2;clear hw2
   replace O3:=O3.lower hz1
   replace D2:=D2.below hb3
   replace hbw:=hbw.trans (hb3.mono hbw.size)
   clear hb3 D1
   obtain⟨D2_c,D2_f,D2_z⟩:=D2.all
   go_wp2_with fail
   refine bodyPost_ret (v:=.tuple #[.agg #[.slice of3 n3 kf3,.slice or3 r3 kr3,.slice om3 m3 km3,.slice og3 q3 kg3,.int .i64 t3,.int .u64 d3,.int .i64 s3],.int .i64 g,.int .i64 p,.string d,.bool true]) (by simp [results,Tryz.results12,go_sem,D2_c,D2_z]) rfl ?_
   refine ⟨H2,g,p,d,.inl ⟨hg3,hp6,.inl ⟨HDD.out.choose,HDD.out.choose_spec,HWT.out⟩⟩,hoRet' (k:=fun v=>.tuple #[v,.int .i64 g,.int .i64 p,.string d,.bool true]) (base:=w.heap.size+1+1) HG3.out.1 HG3.out.2.1 HG3.out.2.2.1 HG3.out.2.2.2.1 HG3.out.2.2.2.2.1 HG3.out.2.2.2.2.2.1 HG3.out.2.2.2.2.2.2 (gs:=gs3) (us:=us3) ?hO ?hB⟩
   case hO=>(repeat' (first|with_reducible assumption|(with_reducible refine OwnH.fillz (x0:=.slice none 0 0) (x1:=.slice none 0 0) (x2:=.slice none 0 0) (x3:=.slice none 0 0) (x4:=.int .i64 0) (x5:=.int .u64 0) (x6:=.int .i64 0) ?_ ?_ _ _ _ _ _ _ _)|(with_reducible refine OwnH.drew ?_)|(with_reducible refine OwnH.alloc ?_ _)|(with_reducible refine OwnH.below ?_ (by with_reducible assumption))|(with_reducible refine HasBlock.drew ?_)|(with_reducible refine HasBlock.made' sz6)|(with_reducible refine HasBlock.alloc ?_ _)|(with_reducible refine HasBlock.below ?_ (by with_reducible assumption))))
   case hB=>(repeat (first|with_reducible assumption|with_reducible exact Below.refl _ _|(with_reducible refine Below.drew ?_)|(with_reducible refine Below.alloc' ?_ (nlr _) _)|(with_reducible refine Below.setCell ?_ sz6 _)|(with_reducible refine Below.trans ?_ (Below.mono (by with_reducible assumption) sz6))))
 · obtain⟨D1_c,D1_f,D1_z⟩:=D1.all
   go_wp2_with fail
   clear D1_c D1_f D1_z
   with_reducible refine (HPG.out _).mono ?_
   rintro e w2 ⟨rfl,hb2⟩
   replace D1:=D1.below hb2
   replace D2:=D2.below hb2
   replace hbw:=hbw.trans (hb2.mono hbw.size)
   replace hz1:=Nat.le_trans hz1 hb2.size
   clear hb2
   obtain⟨D1_c,D1_f,D1_z⟩:=D1.all
   go_wp2_with fail
   clear D1_c D1_f D1_z
   with_reducible refine (HWR.out _ _ (HVA.out _ hbw)).mono ?_
   rintro e w3 ⟨H2,hw2,of3,or3,om3,og3,kf3,kr3,km3,kg3,us3,gs3,rfl,O3,hb3⟩
   obtain⟨n3,hln⟩:∃ n,(Pl.F (Ho.P H2)).length=n:=⟨_,rfl⟩
   obtain⟨r3,hlr⟩:∃ n,(Pl.R (Ho.P H2)).length=n:=⟨_,rfl⟩
   obtain⟨m3,hlm⟩:∃ n,(Pl.M (Ho.P H2)).length=n:=⟨_,rfl⟩
   obtain⟨q3,hlq⟩:∃ n,(Ho.G H2).length=n:=⟨_,rfl⟩
   obtain⟨t3,hlt3⟩:∃ n,Ho.t H2=n:=⟨_,rfl⟩
   obtain⟨d3,hld⟩:∃ n,Ho.d H2=n:=⟨_,rfl⟩
   obtain⟨s3,hls⟩:∃ n,Ho.n H2=n:=⟨_,rfl⟩
   rw[hln,hlr,hlm,hlq] at O3 ⊢
   rw[hlt3,hld,hls]
   have HG3:=lh (And.intro hln (And.intro hlr (And.intro hlm (And.intro hlq (And.intro hlt3 (And.intro hld hls))))))
   clear hln hlr hlm hlq hlt3 hld hls
   have HWT:=lh hw2;clear hw2
   replace O3:=O3.lower hz1
   replace D2:=D2.below hb3
   replace hbw:=hbw.trans (hb3.mono hbw.size)
   clear hb3 D1
   obtain⟨D2_c,D2_f,D2_z⟩:=D2.all
   go_wp2_with fail
   refine bodyPost_ret (v:=.tuple #[.agg #[.slice of3 n3 kf3,.slice or3 r3 kr3,.slice om3 m3 km3,.slice og3 q3 kg3,.int .i64 t3,.int .u64 d3,.int .i64 s3],.int .i64 g,.int .i64 p,.string d,.bool true]) (by simp [results,Tryz.results12,go_sem,D2_c,D2_z]) rfl ?_
   refine ⟨H2,g,p,d,.inl ⟨hg3,hp6,.inl ⟨HDD.out.choose,HDD.out.choose_spec,HWT.out⟩⟩,hoRet' (k:=fun v=>.tuple #[v,.int .i64 g,.int .i64 p,.string d,.bool true]) (base:=w.heap.size+1+1) HG3.out.1 HG3.out.2.1 HG3.out.2.2.1 HG3.out.2.2.2.1 HG3.out.2.2.2.2.1 HG3.out.2.2.2.2.2.1 HG3.out.2.2.2.2.2.2 (gs:=gs3) (us:=us3) ?hO ?hB⟩
   case hO=>(repeat' (first|with_reducible assumption|(with_reducible refine OwnH.fillz (x0:=.slice none 0 0) (x1:=.slice none 0 0) (x2:=.slice none 0 0) (x3:=.slice none 0 0) (x4:=.int .i64 0) (x5:=.int .u64 0) (x6:=.int .i64 0) ?_ ?_ _ _ _ _ _ _ _)|(with_reducible refine OwnH.drew ?_)|(with_reducible refine OwnH.alloc ?_ _)|(with_reducible refine OwnH.below ?_ (by with_reducible assumption))|(with_reducible refine HasBlock.drew ?_)|(with_reducible refine HasBlock.made' sz6)|(with_reducible refine HasBlock.alloc ?_ _)|(with_reducible refine HasBlock.below ?_ (by with_reducible assumption))))
   case hB=>(repeat (first|with_reducible assumption|with_reducible exact Below.refl _ _|(with_reducible refine Below.drew ?_)|(with_reducible refine Below.alloc' ?_ (nlr _) _)|(with_reducible refine Below.setCell ?_ sz6 _)|(with_reducible refine Below.trans ?_ (Below.mono (by with_reducible assumption) sz6))))
 · obtain⟨D1_c,D1_f,D1_z⟩:=D1.all
   go_wp2_with fail
   clear D1_c D1_f D1_z
   with_reducible refine (HPG.out _).mono ?_
   rintro e w2 ⟨rfl,hb2⟩
   replace D1:=D1.below hb2
   replace D2:=D2.below hb2
   replace hbw:=hbw.trans (hb2.mono hbw.size)
   replace hz1:=Nat.le_trans hz1 hb2.size
   clear hb2
   obtain⟨D1_c,D1_f,D1_z⟩:=D1.all
   go_wp2_with fail
   clear D1_c D1_f D1_z
   with_reducible refine (HWR.out _ _ (HVA.out _ hbw)).mono ?_
   rintro e w3 ⟨H2,hw2,of3,or3,om3,og3,kf3,kr3,km3,kg3,us3,gs3,rfl,O3,hb3⟩
   obtain⟨n3,hln⟩:∃ n,(Pl.F (Ho.P H2)).length=n:=⟨_,rfl⟩
   obtain⟨r3,hlr⟩:∃ n,(Pl.R (Ho.P H2)).length=n:=⟨_,rfl⟩
   obtain⟨m3,hlm⟩:∃ n,(Pl.M (Ho.P H2)).length=n:=⟨_,rfl⟩
   obtain⟨q3,hlq⟩:∃ n,(Ho.G H2).length=n:=⟨_,rfl⟩
   obtain⟨t3,hlt3⟩:∃ n,Ho.t H2=n:=⟨_,rfl⟩
   obtain⟨d3,hld⟩:∃ n,Ho.d H2=n:=⟨_,rfl⟩
   obtain⟨s3,hls⟩:∃ n,Ho.n H2=n:=⟨_,rfl⟩
   rw[hln,hlr,hlm,hlq] at O3 ⊢
   rw[hlt3,hld,hls]
   have HG3:=lh (And.intro hln (And.intro hlr (And.intro hlm (And.intro hlq (And.intro hlt3 (And.intro hld hls))))))
   clear hln hlr hlm hlq hlt3 hld hls
   have HWT:=lh hw2;clear hw2
   replace O3:=O3.lower hz1
   replace D2:=D2.below hb3
   replace hbw:=hbw.trans (hb3.mono hbw.size)
   clear hb3 D1
   obtain⟨D2_c,D2_f,D2_z⟩:=D2.all
   go_wp2_with fail
   refine bodyPost_ret (v:=.tuple #[.agg #[.slice of3 n3 kf3,.slice or3 r3 kr3,.slice om3 m3 km3,.slice og3 q3 kg3,.int .i64 t3,.int .u64 d3,.int .i64 s3],.int .i64 g,.int .i64 p,.string d,.bool true]) (by simp [results,Tryz.results12,go_sem,D2_c,D2_z]) rfl ?_
   refine ⟨H2,g,p,d,.inl ⟨hg3,hp6,.inl ⟨HDD.out.choose,HDD.out.choose_spec,HWT.out⟩⟩,hoRet' (k:=fun v=>.tuple #[v,.int .i64 g,.int .i64 p,.string d,.bool true]) (base:=w.heap.size+1+1) HG3.out.1 HG3.out.2.1 HG3.out.2.2.1 HG3.out.2.2.2.1 HG3.out.2.2.2.2.1 HG3.out.2.2.2.2.2.1 HG3.out.2.2.2.2.2.2 (gs:=gs3) (us:=us3) ?hO ?hB⟩
   case hO=>(repeat' (first|with_reducible assumption|(with_reducible refine OwnH.fillz (x0:=.slice none 0 0) (x1:=.slice none 0 0) (x2:=.slice none 0 0) (x3:=.slice none 0 0) (x4:=.int .i64 0) (x5:=.int .u64 0) (x6:=.int .i64 0) ?_ ?_ _ _ _ _ _ _ _)|(with_reducible refine OwnH.drew ?_)|(with_reducible refine OwnH.alloc ?_ _)|(with_reducible refine OwnH.below ?_ (by with_reducible assumption))|(with_reducible refine HasBlock.drew ?_)|(with_reducible refine HasBlock.made' sz6)|(with_reducible refine HasBlock.alloc ?_ _)|(with_reducible refine HasBlock.below ?_ (by with_reducible assumption))))
   case hB=>(repeat (first|with_reducible assumption|with_reducible exact Below.refl _ _|(with_reducible refine Below.drew ?_)|(with_reducible refine Below.alloc' ?_ (nlr _) _)|(with_reducible refine Below.setCell ?_ sz6 _)|(with_reducible refine Below.trans ?_ (Below.mono (by with_reducible assumption) sz6))))
 · obtain⟨D1_c,D1_f,D1_z⟩:=D1.all
   go_wp2_with fail
   clear D1_c D1_f D1_z
   with_reducible refine (HRD.out _ _ (HVA.out _ hbw)).mono ?_
   rintro e w3 ⟨H2,hw2,of3,or3,om3,og3,kf3,kr3,km3,kg3,us3,gs3,rfl,O3,hb3⟩
   obtain⟨n3,hln⟩:∃ n,(Pl.F (Ho.P H2)).length=n:=⟨_,rfl⟩
   obtain⟨r3,hlr⟩:∃ n,(Pl.R (Ho.P H2)).length=n:=⟨_,rfl⟩
   obtain⟨m3,hlm⟩:∃ n,(Pl.M (Ho.P H2)).length=n:=⟨_,rfl⟩
   obtain⟨q3,hlq⟩:∃ n,(Ho.G H2).length=n:=⟨_,rfl⟩
   obtain⟨t3,hlt3⟩:∃ n,Ho.t H2=n:=⟨_,rfl⟩
   obtain⟨d3,hld⟩:∃ n,Ho.d H2=n:=⟨_,rfl⟩
   obtain⟨s3,hls⟩:∃ n,Ho.n H2=n:=⟨_,rfl⟩
   rw[hln,hlr,hlm,hlq] at O3 ⊢
   rw[hlt3,hld,hls]
   have HG3:=lh (And.intro hln (And.intro hlr (And.intro hlm (And.intro hlq (And.intro hlt3 (And.intro hld hls))))))
   clear hln hlr hlm hlq hlt3 hld hls
   have HWT:=lh hw2;clear hw2
   replace O3:=O3.lower hz1
   replace D2:=D2.below hb3
   replace hbw:=hbw.trans (hb3.mono hbw.size)
   clear hb3 D1
   obtain⟨D2_c,D2_f,D2_z⟩:=D2.all
   go_wp2_with fail
   refine bodyPost_ret (v:=.tuple #[.agg #[.slice of3 n3 kf3,.slice or3 r3 kr3,.slice om3 m3 km3,.slice og3 q3 kg3,.int .i64 t3,.int .u64 d3,.int .i64 s3],.int .i64 g,.int .i64 p,.string (⟨#[]⟩:ByteArray),.bool true]) (by simp [results,Tryz.results12,go_sem,D2_c,D2_z]) rfl ?_
   refine ⟨H2,g,p,(⟨#[]⟩:ByteArray),.inl ⟨hg3,hp6,.inr ⟨rfl,HWT.out⟩⟩,hoRet' (k:=fun v=>.tuple #[v,.int .i64 g,.int .i64 p,.string (⟨#[]⟩:ByteArray),.bool true]) (base:=w.heap.size+1+1) HG3.out.1 HG3.out.2.1 HG3.out.2.2.1 HG3.out.2.2.2.1 HG3.out.2.2.2.2.1 HG3.out.2.2.2.2.2.1 HG3.out.2.2.2.2.2.2 (gs:=gs3) (us:=us3) ?hO ?hB⟩
   case hO=>(repeat' (first|with_reducible assumption|(with_reducible refine OwnH.fillz (x0:=.slice none 0 0) (x1:=.slice none 0 0) (x2:=.slice none 0 0) (x3:=.slice none 0 0) (x4:=.int .i64 0) (x5:=.int .u64 0) (x6:=.int .i64 0) ?_ ?_ _ _ _ _ _ _ _)|(with_reducible refine OwnH.drew ?_)|(with_reducible refine OwnH.alloc ?_ _)|(with_reducible refine OwnH.below ?_ (by with_reducible assumption))|(with_reducible refine HasBlock.drew ?_)|(with_reducible refine HasBlock.made' sz6)|(with_reducible refine HasBlock.alloc ?_ _)|(with_reducible refine HasBlock.below ?_ (by with_reducible assumption))))
   case hB=>(repeat (first|with_reducible assumption|with_reducible exact Below.refl _ _|(with_reducible refine Below.drew ?_)|(with_reducible refine Below.alloc' ?_ (nlr _) _)|(with_reducible refine Below.setCell ?_ sz6 _)|(with_reducible refine Below.trans ?_ (Below.mono (by with_reducible assumption) sz6))))
 · obtain⟨D1_c,D1_f,D1_z⟩:=D1.all
   go_wp2_with fail
   clear D1_c D1_f D1_z
   with_reducible refine (HRD.out _ _ (HVA.out _ hbw)).mono ?_
   rintro e w3 ⟨H2,hw2,of3,or3,om3,og3,kf3,kr3,km3,kg3,us3,gs3,rfl,O3,hb3⟩
   obtain⟨n3,hln⟩:∃ n,(Pl.F (Ho.P H2)).length=n:=⟨_,rfl⟩
   obtain⟨r3,hlr⟩:∃ n,(Pl.R (Ho.P H2)).length=n:=⟨_,rfl⟩
   obtain⟨m3,hlm⟩:∃ n,(Pl.M (Ho.P H2)).length=n:=⟨_,rfl⟩
   obtain⟨q3,hlq⟩:∃ n,(Ho.G H2).length=n:=⟨_,rfl⟩
   obtain⟨t3,hlt3⟩:∃ n,Ho.t H2=n:=⟨_,rfl⟩
   obtain⟨d3,hld⟩:∃ n,Ho.d H2=n:=⟨_,rfl⟩
   obtain⟨s3,hls⟩:∃ n,Ho.n H2=n:=⟨_,rfl⟩
   rw[hln,hlr,hlm,hlq] at O3 ⊢
   rw[hlt3,hld,hls]
   have HG3:=lh (And.intro hln (And.intro hlr (And.intro hlm (And.intro hlq (And.intro hlt3 (And.intro hld hls))))))
   clear hln hlr hlm hlq hlt3 hld hls
   have HWT:=lh hw2;clear hw2
   replace O3:=O3.lower hz1
   replace D2:=D2.below hb3
   replace hbw:=hbw.trans (hb3.mono hbw.size)
   clear hb3 D1
   obtain⟨D2_c,D2_f,D2_z⟩:=D2.all
   go_wp2_with fail
   refine bodyPost_ret (v:=.tuple #[.agg #[.slice of3 n3 kf3,.slice or3 r3 kr3,.slice om3 m3 km3,.slice og3 q3 kg3,.int .i64 t3,.int .u64 d3,.int .i64 s3],.int .i64 g,.int .i64 p,.string (⟨#[]⟩:ByteArray),.bool true]) (by simp [results,Tryz.results12,go_sem,D2_c,D2_z]) rfl ?_
   refine ⟨H2,g,p,(⟨#[]⟩:ByteArray),.inl ⟨hg3,hp6,.inr ⟨rfl,HWT.out⟩⟩,hoRet' (k:=fun v=>.tuple #[v,.int .i64 g,.int .i64 p,.string (⟨#[]⟩:ByteArray),.bool true]) (base:=w.heap.size+1+1) HG3.out.1 HG3.out.2.1 HG3.out.2.2.1 HG3.out.2.2.2.1 HG3.out.2.2.2.2.1 HG3.out.2.2.2.2.2.1 HG3.out.2.2.2.2.2.2 (gs:=gs3) (us:=us3) ?hO ?hB⟩
   case hO=>(repeat' (first|with_reducible assumption|(with_reducible refine OwnH.fillz (x0:=.slice none 0 0) (x1:=.slice none 0 0) (x2:=.slice none 0 0) (x3:=.slice none 0 0) (x4:=.int .i64 0) (x5:=.int .u64 0) (x6:=.int .i64 0) ?_ ?_ _ _ _ _ _ _ _)|(with_reducible refine OwnH.drew ?_)|(with_reducible refine OwnH.alloc ?_ _)|(with_reducible refine OwnH.below ?_ (by with_reducible assumption))|(with_reducible refine HasBlock.drew ?_)|(with_reducible refine HasBlock.made' sz6)|(with_reducible refine HasBlock.alloc ?_ _)|(with_reducible refine HasBlock.below ?_ (by with_reducible assumption))))
   case hB=>(repeat (first|with_reducible assumption|with_reducible exact Below.refl _ _|(with_reducible refine Below.drew ?_)|(with_reducible refine Below.alloc' ?_ (nlr _) _)|(with_reducible refine Below.setCell ?_ sz6 _)|(with_reducible refine Below.trans ?_ (Below.mono (by with_reducible assumption) sz6))))
 · obtain⟨D1_c,D1_f,D1_z⟩:=D1.all
   go_wp2_with fail
   clear D1_c D1_f D1_z
   with_reducible refine (HRD.out _ _ (HVA.out _ hbw)).mono ?_
   rintro e w3 ⟨H2,hw2,of3,or3,om3,og3,kf3,kr3,km3,kg3,us3,gs3,rfl,O3,hb3⟩
   obtain⟨n3,hln⟩:∃ n,(Pl.F (Ho.P H2)).length=n:=⟨_,rfl⟩
   obtain⟨r3,hlr⟩:∃ n,(Pl.R (Ho.P H2)).length=n:=⟨_,rfl⟩
   obtain⟨m3,hlm⟩:∃ n,(Pl.M (Ho.P H2)).length=n:=⟨_,rfl⟩
   obtain⟨q3,hlq⟩:∃ n,(Ho.G H2).length=n:=⟨_,rfl⟩
   obtain⟨t3,hlt3⟩:∃ n,Ho.t H2=n:=⟨_,rfl⟩
   obtain⟨d3,hld⟩:∃ n,Ho.d H2=n:=⟨_,rfl⟩
   obtain⟨s3,hls⟩:∃ n,Ho.n H2=n:=⟨_,rfl⟩
   rw[hln,hlr,hlm,hlq] at O3 ⊢
   rw[hlt3,hld,hls]
   have HG3:=lh (And.intro hln (And.intro hlr (And.intro hlm (And.intro hlq (And.intro hlt3 (And.intro hld hls))))))
   clear hln hlr hlm hlq hlt3 hld hls
   have HWT:=lh hw2;clear hw2
   replace O3:=O3.lower hz1
   replace D2:=D2.below hb3
   replace hbw:=hbw.trans (hb3.mono hbw.size)
   clear hb3 D1
   obtain⟨D2_c,D2_f,D2_z⟩:=D2.all
   go_wp2_with fail
   refine bodyPost_ret (v:=.tuple #[.agg #[.slice of3 n3 kf3,.slice or3 r3 kr3,.slice om3 m3 km3,.slice og3 q3 kg3,.int .i64 t3,.int .u64 d3,.int .i64 s3],.int .i64 g,.int .i64 p,.string (⟨#[]⟩:ByteArray),.bool true]) (by simp [results,Tryz.results12,go_sem,D2_c,D2_z]) rfl ?_
   refine ⟨H2,g,p,(⟨#[]⟩:ByteArray),.inl ⟨hg3,hp6,.inr ⟨rfl,HWT.out⟩⟩,hoRet' (k:=fun v=>.tuple #[v,.int .i64 g,.int .i64 p,.string (⟨#[]⟩:ByteArray),.bool true]) (base:=w.heap.size+1+1) HG3.out.1 HG3.out.2.1 HG3.out.2.2.1 HG3.out.2.2.2.1 HG3.out.2.2.2.2.1 HG3.out.2.2.2.2.2.1 HG3.out.2.2.2.2.2.2 (gs:=gs3) (us:=us3) ?hO ?hB⟩
   case hO=>(repeat' (first|with_reducible assumption|(with_reducible refine OwnH.fillz (x0:=.slice none 0 0) (x1:=.slice none 0 0) (x2:=.slice none 0 0) (x3:=.slice none 0 0) (x4:=.int .i64 0) (x5:=.int .u64 0) (x6:=.int .i64 0) ?_ ?_ _ _ _ _ _ _ _)|(with_reducible refine OwnH.drew ?_)|(with_reducible refine OwnH.alloc ?_ _)|(with_reducible refine OwnH.below ?_ (by with_reducible assumption))|(with_reducible refine HasBlock.drew ?_)|(with_reducible refine HasBlock.made' sz6)|(with_reducible refine HasBlock.alloc ?_ _)|(with_reducible refine HasBlock.below ?_ (by with_reducible assumption))))
   case hB=>(repeat (first|with_reducible assumption|with_reducible exact Below.refl _ _|(with_reducible refine Below.drew ?_)|(with_reducible refine Below.alloc' ?_ (nlr _) _)|(with_reducible refine Below.setCell ?_ sz6 _)|(with_reducible refine Below.trans ?_ (Below.mono (by with_reducible assumption) sz6))))
 · have SC:=fun v w h=>hscan_ok v H (1+V / 4096 % 20) w h HSH.out.ok (by omega)
   have q4:(V / 4096).tmod 20=V / 4096 % 20:=Int.tmod_eq_emod_of_nonneg (by omega)
   obtain⟨N,hN⟩:∃ N,V / 4096 % 20=N:=⟨_,rfl⟩
   rw[hN] at SC q4
   have hN0:0≤N∧N<20:=by omega
   have hsx:∃ n,H.scan (1+N)=H.scan n:=⟨_,rfl⟩
   obtain⟨H2,hH2⟩:∃ x,H.scan (1+N)=x:=⟨_,rfl⟩
   rw[hH2] at SC hsx
   have hsx':∃ n,H2=H.scan n:=⟨_,hH2.symm⟩
   have HSX:=lh hsx';clear hsx' hsx hH2
   have HSC:=lh SC;clear SC
   obtain⟨D1_c,D1_f,D1_z⟩:=D1.all
   go_wp2_with fail
   clear D1_c D1_f D1_z
   with_reducible refine (HSC.out _ _ (HVA.out _ hbw)).mono ?_
   rintro e w3 ⟨of3,or3,om3,og3,kf3,kr3,km3,kg3,us3,gs3,rfl,O3,hb3⟩
   obtain⟨n3,hln⟩:∃ n,(Pl.F (Ho.P H2)).length=n:=⟨_,rfl⟩
   obtain⟨r3,hlr⟩:∃ n,(Pl.R (Ho.P H2)).length=n:=⟨_,rfl⟩
   obtain⟨m3,hlm⟩:∃ n,(Pl.M (Ho.P H2)).length=n:=⟨_,rfl⟩
   obtain⟨q3,hlq⟩:∃ n,(Ho.G H2).length=n:=⟨_,rfl⟩
   obtain⟨t3,hlt3⟩:∃ n,Ho.t H2=n:=⟨_,rfl⟩
   obtain⟨d3,hld⟩:∃ n,Ho.d H2=n:=⟨_,rfl⟩
   obtain⟨s3,hls⟩:∃ n,Ho.n H2=n:=⟨_,rfl⟩
   rw[hln,hlr,hlm,hlq] at O3 ⊢
   rw[hlt3,hld,hls]
   have HG3:=lh (And.intro hln (And.intro hlr (And.intro hlm (And.intro hlq (And.intro hlt3 (And.intro hld hls))))))
   clear hln hlr hlm hlq hlt3 hld hls
   replace O3:=O3.lower hz1
   replace D2:=D2.below hb3
   replace hbw:=hbw.trans (hb3.mono hbw.size)
   clear hb3 D1
   obtain⟨D2_c,D2_f,D2_z⟩:=D2.all
   go_wp2_with fail
   refine bodyPost_ret (v:=.tuple #[.agg #[.slice of3 n3 kf3,.slice or3 r3 kr3,.slice om3 m3 km3,.slice og3 q3 kg3,.int .i64 t3,.int .u64 d3,.int .i64 s3],.int .i64 0,.int .i64 0,.string (⟨#[]⟩:ByteArray),.bool true]) (by simp [results,Tryz.results12,go_sem,D2_c]) rfl ?_
   refine ⟨H2,0,0,(⟨#[]⟩:ByteArray),.inr ⟨rfl,rfl,rfl,.inl HSX.out⟩,hoRet' (k:=fun v=>.tuple #[v,.int .i64 0,.int .i64 0,.string (⟨#[]⟩:ByteArray),.bool true]) (base:=w.heap.size+1+1) HG3.out.1 HG3.out.2.1 HG3.out.2.2.1 HG3.out.2.2.2.1 HG3.out.2.2.2.2.1 HG3.out.2.2.2.2.2.1 HG3.out.2.2.2.2.2.2 (gs:=gs3) (us:=us3) ?hO ?hB⟩
   case hO=>(repeat' (first|with_reducible assumption|(with_reducible refine OwnH.fillz (x0:=.slice none 0 0) (x1:=.slice none 0 0) (x2:=.slice none 0 0) (x3:=.slice none 0 0) (x4:=.int .i64 0) (x5:=.int .u64 0) (x6:=.int .i64 0) ?_ ?_ _ _ _ _ _ _ _)|(with_reducible refine OwnH.drew ?_)|(with_reducible refine OwnH.alloc ?_ _)|(with_reducible refine OwnH.below ?_ (by with_reducible assumption))|(with_reducible refine HasBlock.drew ?_)|(with_reducible refine HasBlock.made' sz6)|(with_reducible refine HasBlock.alloc ?_ _)|(with_reducible refine HasBlock.below ?_ (by with_reducible assumption))))
   case hB=>(repeat (first|with_reducible assumption|with_reducible exact Below.refl _ _|(with_reducible refine Below.drew ?_)|(with_reducible refine Below.alloc' ?_ (nlr _) _)|(with_reducible refine Below.setCell ?_ sz6 _)|(with_reducible refine Below.trans ?_ (Below.mono (by with_reducible assumption) sz6))))
 · obtain⟨N,hN⟩:∃ N:Nat,V / 4096 % 6=N:=⟨(V / 4096 % 6).toNat,by omega⟩
   have q4:(V / 4096).tmod 6=N:=by rw[Int.tmod_eq_emod_of_nonneg (by omega)];exact hN
   have hN6:N<6:=by omega
   have SM:=fun v w h=>hsample_ok v H g (1+N) w h HSH.out.ok (by rw[HSH.out.g];exact hg3) (by omega) (by omega)
   have e1:((1+N:Nat):Int)=1+(N:Int):=by omega
   rw[e1] at SM
   clear e1
   obtain⟨H2,hH2⟩:∃ x,H.sample g (1+N)=x:=⟨_,rfl⟩
   rw[hH2] at SM
   have hsx':∃ i k,H2=H.sample i k:=⟨_,_,hH2.symm⟩
   have HSX:=lh hsx';clear hsx' hH2
   have HSM:=lh SM;clear SM
   obtain⟨D1_c,D1_f,D1_z⟩:=D1.all
   go_wp2_with fail
   clear D1_c D1_f D1_z
   with_reducible refine (HSM.out _ _ (HVA.out _ hbw)).mono ?_
   rintro e w3 ⟨of3,or3,om3,og3,kf3,kr3,km3,kg3,us3,gs3,rfl,O3,hb3⟩
   obtain⟨n3,hln⟩:∃ n,(Pl.F (Ho.P H2)).length=n:=⟨_,rfl⟩
   obtain⟨r3,hlr⟩:∃ n,(Pl.R (Ho.P H2)).length=n:=⟨_,rfl⟩
   obtain⟨m3,hlm⟩:∃ n,(Pl.M (Ho.P H2)).length=n:=⟨_,rfl⟩
   obtain⟨q3,hlq⟩:∃ n,(Ho.G H2).length=n:=⟨_,rfl⟩
   obtain⟨t3,hlt3⟩:∃ n,Ho.t H2=n:=⟨_,rfl⟩
   obtain⟨d3,hld⟩:∃ n,Ho.d H2=n:=⟨_,rfl⟩
   obtain⟨s3,hls⟩:∃ n,Ho.n H2=n:=⟨_,rfl⟩
   rw[hln,hlr,hlm,hlq] at O3 ⊢
   rw[hlt3,hld,hls]
   have HG3:=lh (And.intro hln (And.intro hlr (And.intro hlm (And.intro hlq (And.intro hlt3 (And.intro hld hls))))))
   clear hln hlr hlm hlq hlt3 hld hls
   replace O3:=O3.lower hz1
   replace D2:=D2.below hb3
   replace hbw:=hbw.trans (hb3.mono hbw.size)
   clear hb3 D1
   obtain⟨D2_c,D2_f,D2_z⟩:=D2.all
   go_wp2_with fail
   refine bodyPost_ret (v:=.tuple #[.agg #[.slice of3 n3 kf3,.slice or3 r3 kr3,.slice om3 m3 km3,.slice og3 q3 kg3,.int .i64 t3,.int .u64 d3,.int .i64 s3],.int .i64 0,.int .i64 0,.string (⟨#[]⟩:ByteArray),.bool true]) (by simp [results,Tryz.results12,go_sem,D2_c,D2_z]) rfl ?_
   refine ⟨H2,0,0,(⟨#[]⟩:ByteArray),.inr ⟨rfl,rfl,rfl,.inr HSX.out⟩,hoRet' (k:=fun v=>.tuple #[v,.int .i64 0,.int .i64 0,.string (⟨#[]⟩:ByteArray),.bool true]) (base:=w.heap.size+1+1) HG3.out.1 HG3.out.2.1 HG3.out.2.2.1 HG3.out.2.2.2.1 HG3.out.2.2.2.2.1 HG3.out.2.2.2.2.2.1 HG3.out.2.2.2.2.2.2 (gs:=gs3) (us:=us3) ?hO ?hB⟩
   case hO=>(repeat' (first|with_reducible assumption|(with_reducible refine OwnH.fillz (x0:=.slice none 0 0) (x1:=.slice none 0 0) (x2:=.slice none 0 0) (x3:=.slice none 0 0) (x4:=.int .i64 0) (x5:=.int .u64 0) (x6:=.int .i64 0) ?_ ?_ _ _ _ _ _ _ _)|(with_reducible refine OwnH.drew ?_)|(with_reducible refine OwnH.alloc ?_ _)|(with_reducible refine OwnH.below ?_ (by with_reducible assumption))|(with_reducible refine HasBlock.drew ?_)|(with_reducible refine HasBlock.made' sz6)|(with_reducible refine HasBlock.alloc ?_ _)|(with_reducible refine HasBlock.below ?_ (by with_reducible assumption))))
   case hB=>(repeat (first|with_reducible assumption|with_reducible exact Below.refl _ _|(with_reducible refine Below.drew ?_)|(with_reducible refine Below.alloc' ?_ (nlr _) _)|(with_reducible refine Below.setCell ?_ sz6 _)|(with_reducible refine Below.trans ?_ (Below.mono (by with_reducible assumption) sz6))))
theorem claimI_p (n:Int):(claimI n).p=0:=rfl
set_option maxRecDepth 100000 in
set_option maxHeartbeats 8000000 in
theorem reachedH_any (fr tx g p x:Int) (va vb:Value) (ls os:List Int) (w:World) (ha:NumRow w va ls) (hb:NumRow w vb os) (hg : -9223372036854775808≤g∧g≤9223372036854775807) (hp : -9223372036854775808≤p∧p≤9223372036854775807) (hx : -9223372036854775808≤x∧x≤9223372036854775807):Calls Tryz.prog 4 #[.int .i64 fr,.int .i64 tx,va,vb,.int .i64 g,.int .i64 p,.int .i64 x] w (Ret w (.bool true)):=by
 obtain⟨bo,cb,rfl,b1,b2,_⟩:=hb.out
 unfold maxLen at b2
 obtain⟨N,hN⟩:∃ N,os.length=N:=⟨_,rfl⟩
 rw[hN] at b1 hb ⊢
 have HN:=lh hN;clear hN
 have HA:=lh ha;clear ha
 have HB0:=lh hb;clear hb
 have R1:=fun w=>round_any g 4 w hg (by omega) (by omega)
 have R2:=fun w=>round_any p 7 w hp (by omega) (by omega)
 have R3:=fun w=>round_any x 9 w hx (by omega) (by omega)
 have PG:=fun w=>page_any x w hx
 have CL:=fun w=>claim_any x w
 have hk9 : -9223372036854775808≤x % 9∧x % 9≤9223372036854775807:=by omega
 have hcp : -9223372036854775808≤(claimI x).p∧(claimI x).p≤9223372036854775807:=by rw[claimI_p];omega
 obtain⟨d,hd⟩:∃ d,pageS x=d:=⟨_,rfl⟩
 obtain⟨g',hg'⟩:∃ v,g % 4=v:=⟨_,rfl⟩
 obtain⟨p',hp'⟩:∃ v,p % 7=v:=⟨_,rfl⟩
 obtain⟨k',hk'⟩:∃ v,x % 9=v:=⟨_,rfl⟩
 obtain⟨c,hc⟩:∃ c,claimI x=c:=⟨_,rfl⟩
 rw[hd] at PG
 rw[hg'] at R1
 rw[hp'] at R2
 rw[hk'] at R3 hk9
 rw[hc] at CL hcp
 have HR1:=lh R1;clear R1
 have HR2:=lh R2;clear R2
 have HR3:=lh R3;clear R3
 have HPG:=lh PG;clear PG
 have HCL:=lh CL;clear CL
 have HK9:=lh hk9;clear hk9
 have HCP:=lh hcp
 clear hcp hd hg' hp' hk' hc hg hp hx
 go_enter Tryz.func4,Tryz.ntmps4
 by_cases c1:fr<6
 · have t1:decide (fr<6)=true:=decide_eq_true c1
   go_wp2_with fail
   with_reducible refine (awake_any _).mono ?_
   rintro e wz ⟨rfl,hbz⟩
   go_wp2_with fail
   go_ret
   exact Ret.mk hbz
 have t1:decide (fr<6)=false:=decide_eq_false c1
 by_cases c2:14<fr
 · have t2:decide (fr>14)=true:=decide_eq_true c2
   have t2':decide (14<fr)=true:=decide_eq_true c2
   go_wp2_with fail
   with_reducible refine (awake_any _).mono ?_
   rintro e wz ⟨rfl,hbz⟩
   go_wp2_with fail
   go_ret
   exact Ret.mk hbz
 have t2:decide (fr>14)=false:=decide_eq_false c2
 have t2':decide (14<fr)=false:=decide_eq_false c2
 by_cases c3:tx<0
 · have t3:decide (tx<0)=true:=decide_eq_true c3
   go_wp2_with fail
   with_reducible refine (awake_any _).mono ?_
   rintro e wz ⟨rfl,hbz⟩
   go_wp2_with fail
   go_ret
   exact Ret.mk hbz
 have t3:decide (tx<0)=false:=decide_eq_false c3
 by_cases c4:99<tx
 · have t4:decide (tx>99)=true:=decide_eq_true c4
   have t4':decide (99<tx)=true:=decide_eq_true c4
   go_wp2_with fail
   with_reducible refine (awake_any _).mono ?_
   rintro e wz ⟨rfl,hbz⟩
   go_wp2_with fail
   go_ret
   exact Ret.mk hbz
 have t4:decide (tx>99)=false:=decide_eq_false c4
 have t4':decide (99<tx)=false:=decide_eq_false c4
 by_cases c5:40<N
 · have t5:decide ((N:Int)>40)=true:=decide_eq_true (by omega)
   have t5':decide ((40:Int)<(N:Int))=true:=decide_eq_true (by omega)
   have t5'':decide (40<N)=true:=decide_eq_true c5
   go_wp2_with fail
   with_reducible refine (awake_any _).mono ?_
   rintro e wz ⟨rfl,hbz⟩
   go_wp2_with fail
   go_ret
   exact Ret.mk hbz
 have t5:decide ((N:Int)>40)=false:=decide_eq_false (by omega)
 have t5':decide ((40:Int)<(N:Int))=false:=decide_eq_false (by omega)
 have t5'':decide (40<N)=false:=decide_eq_false c5
 obtain⟨n,hn⟩:∃ n:Nat,fr=n:=⟨fr.toNat,by omega⟩
 have hn6:6≤n∧n≤14:=by omega
 subst hn
 have MD:=fun w h=>made_any n tx va ls w hn6.1 (by omega) (by omega) h
 have hfr:=madeH_fresh (n:=n) (t:=tx) (ls:=ls) hn6.1 (by omega) (by omega) 3 (by omega)
 obtain⟨H0,hH0⟩:∃ x,madeH n tx ls 3=x:=⟨_,rfl⟩
 rw[hH0] at MD hfr
 have HMD:=lh MD;clear MD hH0
 have HFR:=lh hfr;clear hfr
 have hbw:Below w.heap.size w w:=Below.refl _ _
 go_wp2_with fail
 with_reducible refine (HMD.out _ HA.out).mono ?_
 rintro e w1 ⟨of0,or0,om0,og0,kf0,kr0,km0,kg0,us0,gs0,rfl,O0,hb1⟩
 replace hbw:=hbw.trans hb1
 clear hb1
 obtain⟨n0,hln⟩:∃ n,(Pl.F (Ho.P H0)).length=n:=⟨_,rfl⟩
 obtain⟨r0,hlr⟩:∃ n,(Pl.R (Ho.P H0)).length=n:=⟨_,rfl⟩
 obtain⟨m0,hlm⟩:∃ n,(Pl.M (Ho.P H0)).length=n:=⟨_,rfl⟩
 obtain⟨q0,hlq⟩:∃ n,(Ho.G H0).length=n:=⟨_,rfl⟩
 obtain⟨t0,hlt0⟩:∃ n,Ho.t H0=n:=⟨_,rfl⟩
 obtain⟨d0,hld⟩:∃ n,Ho.d H0=n:=⟨_,rfl⟩
 obtain⟨s0,hls⟩:∃ n,Ho.n H0=n:=⟨_,rfl⟩
 rw[hln,hlr,hlm,hlq] at O0 ⊢
 rw[hlt0,hld,hls]
 have HG0:=lh (And.intro hln (And.intro hlr (And.intro hlm (And.intro hlq (And.intro hlt0 (And.intro hld hls))))))
 clear hln hlr hlm hlq hlt0 hld hls
 go_upto_region 4 with (fail)
 have HB:=HostAt.new (base':=0) HG0.out O0 (Nat.zero_le _)
 have hz1:=hbw.size
 replace hbw:=hbw.alloc hbw.size (.cells #[.slice of0 n0 kf0,.slice or0 r0 kr0,.slice om0 m0 km0,.slice og0 q0 kg0,.int .i64 t0,.int .u64 d0,.int .i64 s0] 30)
 obtain⟨B0,hB⟩:∃ B,w1.heap.size=B:=⟨_,rfl⟩
 rw[hB] at HB hz1 ⊢
 generalize hW:w1.alloc (.cells #[.slice of0 n0 kf0,.slice or0 r0 kr0,.slice om0 m0 km0,.slice og0 q0 kg0,.int .i64 t0,.int .u64 d0,.int .i64 s0] 30)=w2 at HB hbw ⊢
 clear hW hB O0 HG0
 have HSH:=lh HFR.out.shape;clear HFR
 go_wp2_with fail
 go_loopw [16,17] (fun bv iv wr=>∃ (i:Nat) (H:Ho),i≤N∧bv=.bool true∧iv=.int .i64 i∧Hid (HShape n ls H)∧HostAt 0 B0 wr H∧Below w.heap.size w wr) (fun _ iv _=>N - (intOf iv).toNat)
 case atStart=>exact⟨0,H0,by omega,rfl,rfl,HSH,HB,hbw⟩
 case round =>
  clear HSH HB hbw HMD
  obtain⟨i,H,hi,rfl,rfl,HSH,HBX,hbw⟩:=hrel
  by_cases hlt:i<N
  · obtain⟨y,hy⟩:=get_lt (xs:=os) (k:=i) (by rw[HN.out];exact hlt)
    obtain⟨b,off,rfl,hbs,hcx⟩:=EncRow.elem (enc:=Value.int .i64) HB0.out hy
    clear hy
    have cx:=(hbw.cell (p:=⟨b,off+i,none⟩) hbs).trans hcx
    have hbs2:b<wr.heap.size:=by have:=hbw.size;omega
    have i0:(0:Int)≤(i:Int):=by omega
    have iN:(i:Int)<(N:Int):=by omega
    have ACT:=fun v w h=>act_any v n ls H y w h HSH.out
    have HACT:=lh ACT;clear ACT
    obtain⟨of1,or1,om1,og1,kf1,kr1,km1,kg1,us1,gs1,D1,O1⟩:=HBX
    obtain⟨n1,hln⟩:∃ n,(Pl.F (Ho.P H)).length=n:=⟨_,rfl⟩
    obtain⟨r1,hlr⟩:∃ n,(Pl.R (Ho.P H)).length=n:=⟨_,rfl⟩
    obtain⟨m1,hlm⟩:∃ n,(Pl.M (Ho.P H)).length=n:=⟨_,rfl⟩
    obtain⟨q1,hlq⟩:∃ n,(Ho.G H).length=n:=⟨_,rfl⟩
    obtain⟨t1,hlt1⟩:∃ n,Ho.t H=n:=⟨_,rfl⟩
    obtain⟨d1,hld⟩:∃ n,Ho.d H=n:=⟨_,rfl⟩
    obtain⟨s1,hls⟩:∃ n,Ho.n H=n:=⟨_,rfl⟩
    rw[hln,hlr,hlm,hlq] at O1 D1
    rw[hlt1,hld,hls] at D1
    have HG1:=lh (And.intro hln (And.intro hlr (And.intro hlm (And.intro hlq (And.intro hlt1 (And.intro hld hls))))))
    clear hln hlr hlm hlq hlt1 hld hls
    have HV1:Hid (∀ w':World,Below (wr).heap.size wr w'→HoAt w' (.agg #[.slice of1 n1 kf1,.slice or1 r1 kr1,.slice om1 m1 km1,.slice og1 q1 kg1,.int .i64 t1,.int .u64 d1,.int .i64 s1]) H):=lh (fun w' hb=>by
     have:=(O1.below hb).at_
     rwa[HG1.out.2.2.2.2.1,HG1.out.2.2.2.2.2.1,HG1.out.2.2.2.2.2.2] at this)
    go_wp2_with fail
    have D1k:=D1
    obtain⟨D1_c,D1_f,D1_z⟩:=D1.all
    have hbz:=hbs2
    go_region_law (first
     | (go_simp;go_at_call 12
        with_reducible refine (HACT.out _ _ (HV1.out _ (Below.drew (Below.refl _ _)))).mono ?_
        rintro _ w16 ⟨H2,ga,pa,sa,hact,of16,or16,om16,og16,kf16,kr16,km16,kg16,us16,gs16,rfl,O16,hb16⟩
        obtain⟨n16,hln⟩:∃ n,(Pl.F (Ho.P H2)).length=n:=⟨_,rfl⟩
        obtain⟨r16,hlr⟩:∃ n,(Pl.R (Ho.P H2)).length=n:=⟨_,rfl⟩
        obtain⟨m16,hlm⟩:∃ n,(Pl.M (Ho.P H2)).length=n:=⟨_,rfl⟩
        obtain⟨q16,hlq⟩:∃ n,(Ho.G H2).length=n:=⟨_,rfl⟩
        obtain⟨t16,hlt16⟩:∃ n,Ho.t H2=n:=⟨_,rfl⟩
        obtain⟨d16,hld⟩:∃ n,Ho.d H2=n:=⟨_,rfl⟩
        obtain⟨s16,hls⟩:∃ n,Ho.n H2=n:=⟨_,rfl⟩
        rw[hln,hlr,hlm,hlq] at O16 ⊢
        rw[hlt16,hld,hls]
        have HG16:=lh (And.intro hln (And.intro hlr (And.intro hlm (And.intro hlq (And.intro hlt16 (And.intro hld hls))))))
        clear hln hlr hlm hlq hlt16 hld hls
        have HACK:=lh (act_kept HSH.out hact).1
        clear hact
        have HB16:Below wr.heap.size wr w16:=(Below.drew (Below.refl _ wr)).trans hb16
        have E0:=D1k.below HB16
        have O16z:=O16.lower (base':=0) (Nat.zero_le _)
        have hbw16:Below w.heap.size w w16:=hbw.trans (HB16.mono hbw.size)
        have E0k:=E0
        obtain⟨E0_c,E0_f,E0_z⟩:=E0.all))
    all_goals
     go_wp2_with fail
     go_roundw
     case rel=>exact⟨i+1,H2,by omega,rfl,by go_num,HACK,HostAt.fill HG16.out E0k O16z,Below.fill7 hbw16 (by omega) _ _ _ _ _ _ _⟩
     case measure=>simp [intOf];omega
  · obtain rfl:N=i:=by omega
    have TL:=fun v w h=>tellsh_any v H c.r c.l c.s c.p c.a g' p' k' d w h HSH.out.ok.fitted HSH.out.ok.little HCP.out HK9.out
    have HTL:=lh TL;clear TL HSH
    obtain⟨of1,or1,om1,og1,kf1,kr1,km1,kg1,us1,gs1,D1,O1⟩:=HBX
    obtain⟨n1,hln⟩:∃ n,(Pl.F (Ho.P H)).length=n:=⟨_,rfl⟩
    obtain⟨r1,hlr⟩:∃ n,(Pl.R (Ho.P H)).length=n:=⟨_,rfl⟩
    obtain⟨m1,hlm⟩:∃ n,(Pl.M (Ho.P H)).length=n:=⟨_,rfl⟩
    obtain⟨q1,hlq⟩:∃ n,(Ho.G H).length=n:=⟨_,rfl⟩
    obtain⟨t1,hlt1⟩:∃ n,Ho.t H=n:=⟨_,rfl⟩
    obtain⟨d1,hld⟩:∃ n,Ho.d H=n:=⟨_,rfl⟩
    obtain⟨s1,hls⟩:∃ n,Ho.n H=n:=⟨_,rfl⟩
    rw[hln,hlr,hlm,hlq] at O1 D1
    rw[hlt1,hld,hls] at D1
    have HG1:=lh (And.intro hln (And.intro hlr (And.intro hlm (And.intro hlq (And.intro hlt1 (And.intro hld hls))))))
    clear hln hlr hlm hlq hlt1 hld hls
    have HV1:Hid (∀ w':World,Below (wr).heap.size wr w'→HoAt w' (.agg #[.slice of1 n1 kf1,.slice or1 r1 kr1,.slice om1 m1 km1,.slice og1 q1 kg1,.int .i64 t1,.int .u64 d1,.int .i64 s1]) H):=lh (fun w' hb=>by
     have:=(O1.below hb).at_
     rwa[HG1.out.2.2.2.2.1,HG1.out.2.2.2.2.2.1,HG1.out.2.2.2.2.2.2] at this)
    obtain⟨D1_c,D1_f,D1_z⟩:=D1.all
    go_wp2_with fail
    refine wp_region_quiet_below (by kernel_rfl) (by kernel_rfl) ?_
    repeat (go_big_quiet_step (first|fail|(first|(go_at_call 15;with_reducible exact quiet_ret (HPG.out _))|(go_at_call 13;with_reducible exact quiet_ret (HCL.out _))|(go_at_call 14;first|with_reducible exact quiet_ret (HR1.out _)|with_reducible exact quiet_ret (HR2.out _)|with_reducible exact quiet_ret (HR3.out _))|(go_at_call 10;with_reducible exact quiet_ret (HTL.out _ _ (HV1.out _ (below_regrown _ _ _))))|(go_at_call 6;with_reducible exact quiet_ret (awake_any _)))))
    refine wpQuiet_nil ?_
    intro w7 hw7
    have hb7:=below_of_regrown hw7
    clear hw7
    obtain⟨hc7,hf7⟩:=bcell hb7
    have hz7:=bsize hb7
    try simp only[sizes1] at hz7
    try simp only[sizes] at hc7 hf7
    go_wp2_with fail
    go_ret
    exact Ret.mk (hbw.trans (hb7.mono hbw.size))
end Go.Proofs.YtbnngjhnkegliaaGreat
namespace Go.Proofs.YtbnngjhnkegliaaGreat
open Go.ChangeShapes Go.WideShapes Go.ChangeAt Go.RowKit Go.ChangeMaps
set_option maxRecDepth 100000 in
theorem hostReached_contract {H:Type} {enc:TypeId×Value→H} (W:World) (base:Nat) (args:Array Value) (ds gs:List (DataW H)) (before:List MemPlace)
    (hval0:∀ (j:Nat) t v,Tryz.f4.params[j]?=some t→args[j]?=some v→Value.okWide Tryz.prog W .any base t v)
    (hW:DataW.Whole enc Tryz.prog Tryz.f4.params.toList Rows.hostReachedSpec.vars false W args.toList ds gs before) :
    Calls Tryz.prog 4 args W fun e W'=>∃ v,e=.returned v∧Rows.hostReachedSpec.post enc Tryz.prog Tryz.f4 false true false false W args v W':=by
 have hW0:=hW
 obtain⟨p,q,hA0,hV,_,_,_⟩:=hW
 have hA:DataW.TrodAll enc Tryz.prog W 0 (fun _=>true) true Tryz.f4.params.toList args.toList ds p:=hA0
 clear hA0
 rw[Tryz.params4] at hA hval0
 obtain⟨v0,vs0,d0,ds0,p0,q0,hargs0,rfl,_,h0,r0⟩:=trodAll_cons hA
 obtain⟨v1,vs1,d1,ds1,p1,q1,hargs1,rfl,_,h1,r1⟩:=trodAll_cons r0
 obtain⟨v2,vs2,d2,ds2,p2,q2,hargs2,rfl,_,h2,r2⟩:=trodAll_cons r1
 obtain⟨v3,vs3,d3,ds3,p3,q3,hargs3,rfl,_,h3,r3⟩:=trodAll_cons r2
 obtain⟨v4,vs4,d4,ds4,p4,q4,hargs4,rfl,_,h4,r4⟩:=trodAll_cons r3
 obtain⟨v5,vs5,d5,ds5,p5,q5,hargs5,rfl,_,h5,r5⟩:=trodAll_cons r4
 obtain⟨v6,vs6,d6,ds6,p6,q6,hargs6,rfl,_,h6,r6⟩:=trodAll_cons r5
 obtain⟨hnil,rfl,_⟩:=trodAll_nil r6
 obtain rfl:args=#[v0,v1,v2,v3,v4,v5,v6]:=by cases args;simp_all
 obtain⟨F,rfl,_,_,_⟩:=open_int Tryz.underlying3 (hval0 0 _ v0 rfl rfl) h0
 obtain⟨X,rfl,_,_,_⟩:=open_int Tryz.underlying3 (hval0 1 _ v1 rfl rfl) h1
 obtain⟨ao,xs,ca,rfl,ha,_,_⟩:=open_intRow Tryz.underlying23 Tryz.underlying3 (by kernel_rfl) (hval0 2 _ v2 rfl rfl) h2
 obtain⟨bo,ys,cb,rfl,hb,_,_⟩:=open_intRow Tryz.underlying23 Tryz.underlying3 (by kernel_rfl) (hval0 3 _ v3 rfl rfl) h3
 obtain⟨g,rfl,_,_,wg⟩:=open_int Tryz.underlying3 (hval0 4 _ v4 rfl rfl) h4
 obtain⟨p,rfl,_,_,wp⟩:=open_int Tryz.underlying3 (hval0 5 _ v5 rfl rfl) h5
 obtain⟨n,rfl,_,_,wn⟩:=open_int Tryz.underlying3 (hval0 6 _ v6 rfl rfl) h6
 have hg:=bounds_i64 wg
 have hp:=bounds_i64 wp
 have hn:=bounds_i64 wn
 refine Calls.mono (R:=Ret W (.bool true)) ?_ (fun e W' ⟨he,hb⟩=>⟨_,he,law_post rfl hW0 hb (of_decide_eq_true (by kernel_rfl)) 4 rfl Tryz.underlying4 (fun _=>rfl)⟩)
 exact reachedH_any F X g p n _ _ xs ys W ha hb hg hp hn
set_option maxRecDepth 100000 in
theorem hostReached_lifted (os:Os) (started:os.Started) (H:Type) (enc:TypeId×Value→H) :
    ReturnsInHanded {} Tryz.checked os 4 .any (Rows.hostReachedSpec.pre6 enc Tryz.prog Tryz.f4 Rows.hostReachedRow.domain false) (Rows.hostReachedSpec.post enc Tryz.prog Tryz.f4 false true false false):=by
 refine returnsInHanded_of_change (C:=Tryz.checked) Tryz.own started (by kernel_rfl) Tryz.func4
  (ChangeSpec.witness6 (enc:=enc) (C:=Tryz.checked) false ⟨#[],#[.int .i64 0,.int .i64 0,.slice none 0 0,.slice none 0 0,.int .i64 0,.int .i64 0,.int .i64 0],[]⟩ 8 (by kernel_rfl) (by kernel_rfl) (by kernel_rfl) (by kernel_rfl)) ?_
 intro W base args ds gs before hval0 hW _ _
 exact hostReached_contract W base args ds gs before hval0 hW
theorem hostReached_holds:Rows.HostReachedSaid :=
 OpenClaim.holds_of_wide 4 Tryz.f4 rfl rfl rfl rfl rfl rfl rfl ⟨rfl,rfl,rfl,rfl,rfl⟩ rfl rfl rfl rfl rfl (by kernel_rfl) Tryz.func4 (by kernel_rfl)
  (of_decide_eq_true (by kernel_rfl)) (by unfold Func.isWrapper;first|(rw[if_pos (by decide +kernel)];kernel_rfl)|(rw[if_neg (by decide +kernel)];exact⟨rfl,rfl⟩))
  (fun os started H enc _=>hostReached_lifted os started H enc)
end Go.Proofs.YtbnngjhnkegliaaGreat
