/-
  Texts joined: TpStep2. No law is proved here.
-/
import Derived.Test.YtnmpfmapncicmaaGreatB22
namespace Go.Proofs.YtnmpfmapncicmaaGreat
set_option linter.all false
set_option maxRecDepth 100000
set_option maxHeartbeats 40000000
open Go.RowKit
theorem mcL_setC {M:Mc} {v:Value} (hc:M.c.length=25) {j:Nat} (hj:j<25) (x:Int):(mcL M v).set j (.int .u32 x)=mcL { M with c:=M.c.set j x } v:=by
 unfold mcL
 have hl:(Ab M.c).length=25:=rfl
 rw[List.set_append_left _ _ (by rw[hl];exact hj),Ak hc]
section
variable {M:Mc} {v:Value} {w:World} {clk:Int}
theorem step_in {c2 m2:List Int} {e:Ef} {s:ByteArray} {x:Int} (hM:M.Ok) (ha:MemRow w v M.m) (hs:Ba M=false) (hx:Bn (Bb M) M.m=(c2,m2,e)) (hk:e.k=1) (hin:inP { M with c:=c2,m:=m2,w:=false } e.p clk=(s,x)) :
    Calls Tryz.prog 16 #[.agg (mcL M v).toArray,.int .u32 clk] w (CB w.heap.size w ({ M with c:=Bm c2 e.r x,m:=m2,keys:=s,w:=false,n:=M.n+1 },[])):=by
 have HA:=lh ha
 have h0:=hM.m.p
 have HK:=lh (fun v w h=>At v M.m w h (by have:=hM.m.q;omega))
 obtain⟨n,hn⟩:∃ n,M.m.length=n:=⟨_,rfl⟩
 have HN:=lh hn
 rw[hn] at h0
 have HR:=lh (fun v w h=>Ew (v:=v) (w:=w) hM h)
 rw[hs] at HR
 have HB:=lh (fun v w h=>Eh (M:=M) (v:=v) (w:=w) hM h)
 have X:=fun v w h=>Fi (c:=Bb M) (xs:=M.m) (va:=v) (w:=w) (Ch hM) h hM.m
 have XO:=EQ (Ch hM) hM.m
 have hnn:((M.n:Int)+1) % 18446744073709551616=((M.n+1:Nat):Int):=by have:=hM.n;omega
 rw[hx] at X XO
 dsimp only at X XO
 obtain⟨n2,hn2⟩:∃ n,m2.length=n:=⟨_,rfl⟩
 have HN2:=lh hn2
 have h02:0<n2:=by rw[←hn2];exact XO.2.1.p
 have HX:=lh X
 have HNN:=lh hnn
 have hM2:=hM.exe (c:=c2) (m:=m2) XO.1 XO.2.1 XO.2.2.1
 have he:=XO.2.2.2.i hk
 have RP:=fun v w h=>readPort_any (M:={ M with c:=c2,m:=m2,w:=false }) (v:=v) (w:=w) (port:=e.p) (clk:=clk) hM2 h he.1 he.2.1
 rw[hin] at RP
 have HRP:=lh RP
 have hr0:=he.2.2.1
 have hr1:e.r<16:=by have:=he.2.2.2;omega
 have hcl:=XO.1.len
 by_cases hr:e.r=0
 have e0:Bm c2 e.r x=c2:=if_pos hr
 rw[e0]
 have hrb:(e.r != 0)=false:=by simpa using hr
 clear ha hM hn hs X XO hx hn2 hnn hin RP he hM2 hr e0 hr0 hr1 hcl
 rotate_left
 obtain⟨k,hrk⟩:∃ k:Nat,e.r=k:=⟨e.r.toNat,by omega⟩
 have e0:Bm c2 e.r x=c2.set k x:=by unfold Bm;rw[if_neg hr,hrk];rfl
 rw[e0]
 have hrb:(e.r != 0)=true:=by simpa using hr
 have her:(efL e)[2]?=some (.int .i64 (k:Int)):=by rw[←hrk];rfl
 have hkb:((k:Int) != 0)=true:=by rw[←hrk];exact hrb
 have hk16:(k:Int)<16:=by omega
 have hjb:Nat.blt k 49=true:=by simp;omega
 have hset:=lh (fun v=>mcL_setC (M:={ M with c:=c2,m:=m2,keys:=s,w:=false }) (v:=v) hcl (show k<25 by omega) x)
 clear ha hM hn hs X XO hx hn2 hnn hin RP he hM2 hr e0 hr0 hr1 hcl hrb hrk
 rotate_left
 all_goals
  have L:=Lay.start w
  go_in
  go_wp2_with (first|(refine zbx (ty:=43) L (mcL M v) ?_;clear L;intro wz L)|(refine zal (ty:=43) L (mcL mc0 (.slice none 0 0)) ?_;clear L;intro wz L)|(refine zld τ30 L 1 ?_)|(go_at_call 44;(with_reducible refine (HK.out _ _ (HA.out.below L.bel)).mono ?_);rintro ee wz ⟨v1,rfl,ho1,hb1⟩;obtain⟨g,capg,curg,rfl,R,L'⟩:=Lay.mem HN.out L ho1 hb1;replace L:=L';clear L' hb1 ho1)|(refine zsc (ty:=30) (u:=(.slice (some ⟨g,0,none⟩) n capg)) GS L 2 (mcL M (.slice (some ⟨g,0,none⟩) n capg)) ?_;clear L;intro wz L)|(refine zlp τ43 Aw L 2 (mcL M (.slice (some ⟨g,0,none⟩) n capg)) ?_)|(go_at_call 46;(with_reducible refine zcl L (HR.out _ _ (RowBx.mem HN.out R h0 L (k:=0) rfl).row) ?_);clear L;intro wz L)|(refine zld τ41 L 2 ?_)|(go_at_call 47;(with_reducible refine zcl L (HB.out _ _ rfl) ?_);clear L;intro wz L)|(refine zsp (ty:=43) Aw L 2 (mcL { M with c:=Bb M,w:=false } (.slice (some ⟨g,0,none⟩) n capg)) (mcL { M with c:=Bb M,w:=false } (.slice (some ⟨g,0,none⟩) n capg)) (Bp _ rfl) ?_;clear L;intro wz L)|(refine zal (ty:=129) L (efL ef0) ?_;clear L;intro wz L)|(refine zlp τ29 Av L 3 (Ab (Bb M)) ?_)|(refine zld τ30 L 3 ?_))
  refine (HX.out _ _ (RowBx.mem HN.out R h0 L (k:=1) rfl).row).mono ?_
  rintro ee w1 ⟨v1,rfl,ho1,hb1⟩
  obtain⟨g2,capg2,curg2,rfl,R2,L'⟩:=Lay.mem HN2.out L ho1 hb1
  replace L:=L'
  clear L' hb1 ho1 HX HB HR HK
 · go_wp2_with (first|(refine zsp (ty:=29) Av L 4 (Ab c2) (mcL { M with c:=c2,w:=false } (.slice (some ⟨g,0,none⟩) n capg)) (BG _) ?_;clear L;intro wz L)|(refine zsc (ty:=30) (u:=(.slice (some ⟨g2,0,none⟩) n2 capg2)) GS L 4 (mcL { M with c:=c2,m:=m2,w:=false } (.slice (some ⟨g2,0,none⟩) n2 capg2)) ?_;clear L;intro wz L)|(refine zsp (ty:=129) Cz L 1 (efL e) (efL e) (Gt _) ?_;clear L;intro wz L)|(refine zld τ3 L 1 ?_)|(refine zlp τ43 Aw L 4 (mcL { M with c:=c2,m:=m2,w:=false } (.slice (some ⟨g2,0,none⟩) n2 capg2)) ?_)|(go_at_call 49;(with_reducible refine zcl L (HRP.out _ _ rfl) ?_);clear L;intro wz L)|(refine zsp (ty:=43) Aw L 4 (mcL { M with c:=c2,m:=m2,keys:=s,w:=false } (.slice (some ⟨g2,0,none⟩) n2 capg2)) (mcL { M with c:=c2,m:=m2,keys:=s,w:=false } (.slice (some ⟨g2,0,none⟩) n2 capg2)) (Bp _ rfl) ?_;clear L;intro wz L)|(refine zld τ41 L 4 ?_)|(refine CE (ty:=41) (m:=(M.n:Int)) (n:=1) ((M.n+1:Nat):Int) rfl rfl rfl rfl HNN.out ?_)|(refine zsc (ty:=41) (u:=(.int .u64 ((M.n+1:Nat):Int))) DK L 4 (mcL { M with c:=c2,m:=m2,keys:=s,w:=false,n:=M.n+1 } (.slice (some ⟨g2,0,none⟩) n2 capg2)) ?_;clear L;intro wz L)|(refine zlp τ43 Aw L 4 (mcL { M with c:=c2,m:=m2,keys:=s,w:=false,n:=M.n+1 } (.slice (some ⟨g2,0,none⟩) n2 capg2)) ?_)|(refine zsp (ty:=43) Aw L 3 (mcL { M with c:=c2,m:=m2,keys:=s,w:=false,n:=M.n+1 } (.slice (some ⟨g2,0,none⟩) n2 capg2)) (mcL { M with c:=c2,m:=m2,keys:=s,w:=false,n:=M.n+1 } (.slice (some ⟨g2,0,none⟩) n2 capg2)) (Bp _ rfl) ?_;clear L;intro wz L))
   exact Xz55
 · go_wp2_with (first|(refine zld (u:=(.int .i64 (k:Int))) τ3 L 1 ?_ (hv:=her))|(refine zsp (ty:=29) Av L 4 (Ab c2) (mcL { M with c:=c2,w:=false } (.slice (some ⟨g,0,none⟩) n capg)) (BG _) ?_;clear L;intro wz L)|(refine zsc (ty:=30) (u:=(.slice (some ⟨g2,0,none⟩) n2 capg2)) GS L 4 (mcL { M with c:=c2,m:=m2,w:=false } (.slice (some ⟨g2,0,none⟩) n2 capg2)) ?_;clear L;intro wz L)|(refine zsp (ty:=129) Cz L 1 (efL e) (efL e) (Gt _) ?_;clear L;intro wz L)|(refine zld τ3 L 1 ?_)|(refine zlp τ43 Aw L 4 (mcL { M with c:=c2,m:=m2,w:=false } (.slice (some ⟨g2,0,none⟩) n2 capg2)) ?_)|(go_at_call 49;(with_reducible refine zcl L (HRP.out _ _ rfl) ?_);clear L;intro wz L)|(refine zsp (ty:=43) Aw L 4 (mcL { M with c:=c2,m:=m2,keys:=s,w:=false } (.slice (some ⟨g2,0,none⟩) n2 capg2)) (mcL { M with c:=c2,m:=m2,keys:=s,w:=false } (.slice (some ⟨g2,0,none⟩) n2 capg2)) (Bp _ rfl) ?_;clear L;intro wz L)|(refine Aq (ty:=25) (u:=.int .u32 x) L 4 rfl (mcL { M with c:=c2.set k x,m:=m2,keys:=s,w:=false } (.slice (some ⟨g2,0,none⟩) n2 capg2)) rfl rfl rfl rfl Bj rfl hjb (hset.out _) ?_;intro wz Lz Nz;clear Nz;replace L:=Lz;clear Lz;(try simp only[s0,s1] at L))|(refine zld τ41 L 4 ?_)|(refine CE (ty:=41) (m:=(M.n:Int)) (n:=1) ((M.n+1:Nat):Int) rfl rfl rfl rfl HNN.out ?_)|(refine zsc (ty:=41) (u:=(.int .u64 ((M.n+1:Nat):Int))) DK L 4 (mcL { M with c:=c2.set k x,m:=m2,keys:=s,w:=false,n:=M.n+1 } (.slice (some ⟨g2,0,none⟩) n2 capg2)) ?_;clear L;intro wz L)|(refine zlp τ43 Aw L 4 (mcL { M with c:=c2.set k x,m:=m2,keys:=s,w:=false,n:=M.n+1 } (.slice (some ⟨g2,0,none⟩) n2 capg2)) ?_)|(refine zsp (ty:=43) Aw L 3 (mcL { M with c:=c2.set k x,m:=m2,keys:=s,w:=false,n:=M.n+1 } (.slice (some ⟨g2,0,none⟩) n2 capg2)) (mcL { M with c:=c2.set k x,m:=m2,keys:=s,w:=false,n:=M.n+1 } (.slice (some ⟨g2,0,none⟩) n2 capg2)) (Bp _ rfl) ?_;clear L;intro wz L))
   exact Xz55
theorem outP_n (M:Mc) (port u:Int):(Be M port u).1.n=M.n:=by
 unfold Be
 repeat' split
 all_goals rfl
theorem step_out {c2 m2:List Int} {e:Ef} {M3:Mc} {os:List Ou} (hM:M.Ok) (ha:MemRow w v M.m) (hs:Ba M=false) (hx:Bn (Bb M) M.m=(c2,m2,e)) (hk:e.k=2) (hout:Be { M with c:=c2,m:=m2,w:=false } e.p e.v=(M3,os)) :
    Calls Tryz.prog 16 #[.agg (mcL M v).toArray,.int .u32 clk] w (CB w.heap.size w ({ M3 with n:=M3.n+1 },os)):=by
 have HA:=lh ha
 have h0:=hM.m.p
 have HK:=lh (fun v w h=>At v M.m w h (by have:=hM.m.q;omega))
 obtain⟨n,hn⟩:∃ n,M.m.length=n:=⟨_,rfl⟩
 have HN:=lh hn
 rw[hn] at h0
 have HR:=lh (fun v w h=>Ew (v:=v) (w:=w) hM h)
 rw[hs] at HR
 have HB:=lh (fun v w h=>Eh (M:=M) (v:=v) (w:=w) hM h)
 have X:=fun v w h=>Fi (c:=Bb M) (xs:=M.m) (va:=v) (w:=w) (Ch hM) h hM.m
 have XO:=EQ (Ch hM) hM.m
 have hnn:((M.n:Int)+1) % 18446744073709551616=((M.n+1:Nat):Int):=by have:=hM.n;omega
 rw[hx] at X XO
 dsimp only at X XO
 obtain⟨n2,hn2⟩:∃ n,m2.length=n:=⟨_,rfl⟩
 have HN2:=lh hn2
 have h02:0<n2:=by rw[←hn2];exact XO.2.1.p
 have HX:=lh X
 have HNN:=lh hnn
 have hM2:=hM.exe (c:=c2) (m:=m2) XO.1 XO.2.1 XO.2.2.1
 have he:=XO.2.2.2.o hk
 have hn3:M3.n=M.n:=by have:=outP_n { M with c:=c2,m:=m2,w:=false } e.p e.v;rw[hout] at this;exact this
 have hnn3:((M3.n:Int)+1) % 18446744073709551616=((M3.n+1:Nat):Int):=by rw[hn3];exact hnn
 have WP:=fun v wx h h'=>writePort_any (M:={ M with c:=c2,m:=m2,w:=false }) (v:=v) (w:=wx) (port:=e.p) (u:=e.v) (base:=w.heap.size) hM2 h h' he.2.2.1 he.1 he.2.1
 rw[hout] at WP
 have HWP:=lh WP
 clear HNN
 have HNN:=lh hnn3
 clear ha hM hn hs X XO hx hn2 hnn hout WP he hM2 hn3 hnn3
 have L:=Lay.start w
 go_in
 go_wp2_with (first|(go_at_call 44;(with_reducible refine (HK.out _ _ (HA.out.below L.bel)).mono ?_);rintro ee wz ⟨v1,rfl,ho1,hb1⟩;obtain⟨g,capg,curg,rfl,R,L'⟩:=Lay.mem HN.out L ho1 hb1;replace L:=L';clear L' hb1 ho1)|(refine Yp (Ab (Bb M)) ?_)|(refine YL ?_)|((first|refine Yt (mcL M (.slice (some ⟨g,0,none⟩) n capg)) ?_|(go_at_call 46;(with_reducible refine zcl L (HR.out _ _ (RowBx.mem HN.out R h0 L (k:=0) rfl).row) ?_))|(go_at_call 47;(with_reducible refine zcl L (HB.out _ _ rfl) ?_))|refine YS ?_);clear L;intro wz L))
 refine (HX.out _ _ (RowBx.mem HN.out R h0 L (k:=1) rfl).row).mono ?_
 rintro ee w1 ⟨v1,rfl,ho1,hb1⟩
 obtain⟨g2,capg2,curg2,rfl,R2,L'⟩:=Lay.mem HN2.out L ho1 hb1
 replace L:=L'
 clear L' hb1 ho1 HX HB HR HK
 go_wp2_with (first|(refine YL ?_)|((first|refine Yu (mcL { M with c:=c2,w:=false } (.slice (some ⟨g,0,none⟩) n capg)) ?_|refine Yt (mcL { M with c:=c2,m:=m2,w:=false } (.slice (some ⟨g2,0,none⟩) n2 capg2)) ?_|refine YS ?_);clear L;intro wz L))
 refine (HWP.out _ _ (RowBx.mem HN2.out R2 h02 L (k:=0) rfl) L.bel.size).mono ?_
 rintro ee w3 ⟨v3,vo,rfl,hm,ho1,hb3⟩
 have ho:w3.ownsRow w.heap.size 103 4 vo os.length (os.flatMap ouL):=ho1
 have hp3:=hm.2
 have hv3:=hm.cell1
 have hm3:=hm.1
 replace L:=L.below hb3
 clear ho1 hb3 hm HWP
 dsimp only
 go_wp2_with (first|(refine Ag (ty:=43) L 4 rfl (mcL M3 v3) (mcL M3 v3) rfl rfl rfl rfl Aw (Bp _ hv3) rfl rfl ?_;intro wz Lz Nz;replace ho:=Ai ho (L.at (k:=4) rfl) (by decide) Nz;replace hm3:=Ai hm3 (L.at (k:=4) rfl) (by decide) Nz;clear Nz;replace L:=Lz;clear Lz;(try simp only[s0,s1] at L))|(refine CE (ty:=41) (m:=(M3.n:Int)) (n:=1) ((M3.n+1:Nat):Int) rfl rfl rfl rfl HNN.out ?_)|(refine Aq (ty:=41) (u:=(.int .u64 ((M3.n+1:Nat):Int))) L 4 rfl (mcL { M3 with n:=M3.n+1 } v3) rfl rfl rfl rfl DK rfl rfl rfl ?_;intro wz Lz Nz;replace ho:=Ai ho (L.at (k:=4) rfl) (by decide) Nz;replace hm3:=Ai hm3 (L.at (k:=4) rfl) (by decide) Nz;clear Nz;replace L:=Lz;clear Lz;(try simp only[s0,s1] at L))|(refine Ag (ty:=43) L 3 rfl (mcL { M3 with n:=M3.n+1 } v3) (mcL { M3 with n:=M3.n+1 } v3) rfl rfl rfl rfl Aw (Bp _ hv3) rfl rfl ?_;intro wz Lz Nz;replace ho:=Ai ho (L.at (k:=3) rfl) (by decide) Nz;replace hm3:=Ai hm3 (L.at (k:=3) rfl) (by decide) Nz;clear Nz;replace L:=Lz;clear Lz;(try simp only[s0,s1] at L))|(refine YL ?_))
 exact Yr2 ⟨_,_,rfl,⟨hm3,hp3⟩,ho,L.bel⟩
theorem step_any (hM:M.Ok) (ha:MemRow w v M.m) (_hc0:0≤clk) (_hc1:clk<4294967296):Calls Tryz.prog 16 #[.agg (mcL M v).toArray,.int .u32 clk] w (CB w.heap.size w (AZ M clk)):=by
 unfold AZ
 cases hs:Ba M with
 | true=>rw[if_pos rfl];exact step_stuck hM ha hs
 | false =>
   rw[if_neg (by decide)]
   obtain⟨c2,m2,e,hx⟩:∃ c2 m2 e,Bn (Bb M) M.m=(c2,m2,e):=⟨_,_,_,rfl⟩
   have hexe:CG M=({ M with c:=c2,m:=m2,w:=false },e):=by unfold CG;rw[hx]
   rw[hexe]
   dsimp only
   unfold Hd
   by_cases k1:e.k=1
   · rw[if_pos k1]
     exact step_in (s:=(inP { M with c:=c2,m:=m2,w:=false } e.p clk).1) (x:=(inP { M with c:=c2,m:=m2,w:=false } e.p clk).2) hM ha hs hx k1 rfl
   rw[if_neg k1]
   by_cases k2:e.k=2
   · rw[if_pos k2]
     have hn3:=outP_n { M with c:=c2,m:=m2,w:=false } e.p e.v
     have S:=step_out (clk:=clk) (M3:=(Be { M with c:=c2,m:=m2,w:=false } e.p e.v).1) (os:=(Be { M with c:=c2,m:=m2,w:=false } e.p e.v).2) hM ha hs hx k2 rfl
     rw[hn3] at S
     exact S
   rw[if_neg k2]
   by_cases k3:e.k=3
   · rw[if_pos k3];exact step_wait hM ha hs hx k3
   rw[if_neg k3]
   by_cases k4:e.k=4
   · rw[if_pos k4];exact step_halt hM ha hs hx k4
   rw[if_neg k4];exact step_plain hM ha hs hx ⟨k1,k2,k3,k4⟩
end
end Go.Proofs.YtnmpfmapncicmaaGreat
