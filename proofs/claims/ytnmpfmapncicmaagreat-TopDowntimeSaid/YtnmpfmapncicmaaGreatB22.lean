/-
  Texts joined: TpStep TpOk2 TpRv TpRw. No law is proved here.
-/
import Derived.Test.YtnmpfmapncicmaaGreatB20
namespace Go.Proofs.YtnmpfmapncicmaaGreat
set_option linter.all false
set_option maxRecDepth 100000
set_option maxHeartbeats 40000000
open Go.RowKit
theorem lowI_bd (l:Int):0≤EV l∧EV l≤4:=by unfold EV;repeat' split;all_goals omega
theorem Ch {M:Mc} (hM:M.Ok):CpuOk (Bb M):=by
 unfold Bb
 split
 · have:=lowI_bd (enI M)
   exact Fl hM.c (by omega) (by omega) (by decide) (by decide)
 · exact hM.c
theorem Mc.Ok.exe {M:Mc} {c m:List Int} (hM:M.Ok) (hc:CpuOk c) (hm:MemOk m) (hl:m.length=M.m.length):({ M with c:=c,m:=m,w:=false }:Mc).Ok:=by
 have e:Ao m=Ao M.m:=by unfold Ao;rw[hl]
 refine ⟨hc,hm,hM.keys,hM.tm,?_,?_,hM.T,hM.G,?_,hM.n,fun h=>by cases h⟩
 · show DkOk M.dk (Ao m);rw[e];exact hM.dk
 · show NcOk M.nc (Ao m);rw[e];exact hM.nc
 · show FV M.G (Ao m)=true;rw[e];exact hM.bal
theorem CE {P:Program} {ops:Array Oper} {rest:List Oper} {op:Oper} {a:Act} {w:World} {Q:Exit→Act→World→Prop} {x y:Operand} {ty ty':TypeId} {m n:Int} (r:Int) (hgd:op.guard=none) (ho:op.op=.binOp .add ty x y ty') (hx:a.eval x=.int .u64 m) (hy:a.eval y=.int .u64 n) (hr:(m+n) % 18446744073709551616=r)
    (h:wpList P ops Q rest (a.put op.dst (.int .u64 r)) w):wpList P ops Q (op :: rest) a w:=by
 subst hr
 refine wpList_plain hgd fun _ hK=>?_
 unfold Oper.wp
 rw[show (execOp a.eval op).run P w=.ok (.value (.int .u64 ((m+n) % 18446744073709551616))) w by
  unfold execOp;simp only[ho,hx,hy];simp [go_sem,IntKind.wrap_u64]]
 exact hK _ _ h
section
variable {M:Mc} {v:Value} {w:World} {clk:Int}
theorem step_stuck (hM:M.Ok) (ha:MemRow w v M.m) (hs:Ba M=true):Calls Tryz.prog 16 #[.agg (mcL M v).toArray,.int .u32 clk] w (CB w.heap.size w (M,[])):=by
 have HA:=lh ha
 have h0:=hM.m.p
 have HK:=lh (fun v w h=>At v M.m w h (by have:=hM.m.q;omega))
 obtain⟨n,hn⟩:∃ n,M.m.length=n:=⟨_,rfl⟩
 have HN:=lh hn
 rw[hn] at h0
 have HR:=lh (fun v w h=>Ew (v:=v) (w:=w) hM h)
 rw[hs] at HR
 clear ha hM hn hs
 have L:=Lay.start w
 go_in
 go_wp2_with (first|(go_at_call 44;(with_reducible refine (HK.out _ _ (HA.out.below L.bel)).mono ?_);rintro ee wz ⟨v1,rfl,ho1,hb1⟩;obtain⟨g,capg,curg,rfl,R,L'⟩:=Lay.mem HN.out L ho1 hb1;replace L:=L';clear L' hb1 ho1)|(refine YL ?_)|((first|refine Yt (mcL M (.slice (some ⟨g,0,none⟩) n capg)) ?_|(go_at_call 46;(with_reducible refine zcl L (HR.out _ _ (RowBx.mem HN.out R h0 L (k:=0) rfl).row) ?_))|refine YS ?_);clear L;intro wz L))
 exact Yr2 ⟨_,_,rfl,RowBx.mem HN.out R h0 L (k:=0) rfl,OutRow.nil _ _,L.bel⟩
theorem Xz55 {P:Prop} (h:P:=by
  exact Yr2 ⟨_,_,rfl,RowBx.mem HN2.out R2 h02 L (k:=0) rfl,OutRow.nil _ _,L.bel⟩):P:=h
theorem step_plain {c2 m2:List Int} {e:Ef} (hM:M.Ok) (ha:MemRow w v M.m) (hs:Ba M=false) (hx:Bn (Bb M) M.m=(c2,m2,e)) (hk:e.k≠1∧e.k≠2∧e.k≠3∧e.k≠4):Calls Tryz.prog 16 #[.agg (mcL M v).toArray,.int .u32 clk] w (CB w.heap.size w ({ M with c:=c2,m:=m2,w:=false,n:=M.n+1 },[])):=by
 have HA:=lh ha
 have h0:=hM.m.p
 have HK:=lh (fun v w h=>At v M.m w h (by have:=hM.m.q;omega))
 obtain⟨n,hn⟩:∃ n,M.m.length=n:=⟨_,rfl⟩
 have HN:=lh hn
 rw[hn] at h0
 have HR:=lh (fun v w h=>Ew (v:=v) (w:=w) hM h)
 rw[hs] at HR
 have HB:=lh (fun v w h=>Eh (M:=M) (v:=v) (w:=w) hM h)
 have X:=fun v w h=>Fi (c:=Bb M) (xs:=M.m) (va:=v) (w:=w) (Ch hM) h hM.m
 have XO:=EQ (Ch hM) hM.m
 have hnn:((M.n:Int)+1) % 18446744073709551616=((M.n+1:Nat):Int):=by have:=hM.n;omega
 rw[hx] at X XO
 dsimp only at X XO
 obtain⟨n2,hn2⟩:∃ n,m2.length=n:=⟨_,rfl⟩
 have HN2:=lh hn2
 have h02:0<n2:=by rw[←hn2];exact XO.2.1.p
 have HX:=lh X
 have HNN:=lh hnn
 have k1:(e.k == 1)=false:=by simpa using hk.1
 have k2:(e.k == 2)=false:=by simpa using hk.2.1
 have k3:(e.k == 3)=false:=by simpa using hk.2.2.1
 have k4:(e.k == 4)=false:=by simpa using hk.2.2.2
 clear ha hM hn hs X XO hx hn2 hk hnn
 have L:=Lay.start w
 go_in
 go_wp2_with (first|(go_at_call 44;(with_reducible refine (HK.out _ _ (HA.out.below L.bel)).mono ?_);rintro ee wz ⟨v1,rfl,ho1,hb1⟩;obtain⟨g,capg,curg,rfl,R,L'⟩:=Lay.mem HN.out L ho1 hb1;replace L:=L';clear L' hb1 ho1)|(refine Yp (Ab (Bb M)) ?_)|(refine YL ?_)|((first|refine Yt (mcL M (.slice (some ⟨g,0,none⟩) n capg)) ?_|(go_at_call 46;(with_reducible refine zcl L (HR.out _ _ (RowBx.mem HN.out R h0 L (k:=0) rfl).row) ?_))|(go_at_call 47;(with_reducible refine zcl L (HB.out _ _ rfl) ?_))|refine YS ?_);clear L;intro wz L))
 refine (HX.out _ _ (RowBx.mem HN.out R h0 L (k:=1) rfl).row).mono ?_
 rintro ee w1 ⟨v1,rfl,ho1,hb1⟩
 obtain⟨g2,capg2,curg2,rfl,R2,L'⟩:=Lay.mem HN2.out L ho1 hb1
 replace L:=L'
 clear L' hb1 ho1 HX HB HR HK
 go_wp2_with (first|(refine CE (ty:=41) (m:=(M.n:Int)) (n:=1) ((M.n+1:Nat):Int) rfl rfl rfl rfl HNN.out ?_)|(refine Yp (mcL { M with c:=c2,m:=m2,w:=false,n:=M.n+1 } (.slice (some ⟨g2,0,none⟩) n2 capg2)) ?_)|(refine YL ?_)|((first|refine Yu (mcL { M with c:=c2,w:=false } (.slice (some ⟨g,0,none⟩) n capg)) ?_|refine Yt (mcL { M with c:=c2,m:=m2,w:=false } (.slice (some ⟨g2,0,none⟩) n2 capg2)) ?_|refine Yt (mcL { M with c:=c2,m:=m2,w:=false,n:=M.n+1 } (.slice (some ⟨g2,0,none⟩) n2 capg2)) ?_|refine YS ?_);clear L;intro wz L))
 exact Xz55
theorem step_wait {c2 m2:List Int} {e:Ef} (hM:M.Ok) (ha:MemRow w v M.m) (hs:Ba M=false) (hx:Bn (Bb M) M.m=(c2,m2,e)) (hk:e.k=3):Calls Tryz.prog 16 #[.agg (mcL M v).toArray,.int .u32 clk] w (CB w.heap.size w ({ M with c:=c2,m:=m2,w:=true,n:=M.n+1 },[])):=by
 have HA:=lh ha
 have h0:=hM.m.p
 have HK:=lh (fun v w h=>At v M.m w h (by have:=hM.m.q;omega))
 obtain⟨n,hn⟩:∃ n,M.m.length=n:=⟨_,rfl⟩
 have HN:=lh hn
 rw[hn] at h0
 have HR:=lh (fun v w h=>Ew (v:=v) (w:=w) hM h)
 rw[hs] at HR
 have HB:=lh (fun v w h=>Eh (M:=M) (v:=v) (w:=w) hM h)
 have X:=fun v w h=>Fi (c:=Bb M) (xs:=M.m) (va:=v) (w:=w) (Ch hM) h hM.m
 have XO:=EQ (Ch hM) hM.m
 have hnn:((M.n:Int)+1) % 18446744073709551616=((M.n+1:Nat):Int):=by have:=hM.n;omega
 rw[hx] at X XO
 dsimp only at X XO
 obtain⟨n2,hn2⟩:∃ n,m2.length=n:=⟨_,rfl⟩
 have HN2:=lh hn2
 have h02:0<n2:=by rw[←hn2];exact XO.2.1.p
 have HX:=lh X
 have HNN:=lh hnn
 clear ha hM hn hs X XO hx hn2 hnn
 have L:=Lay.start w
 go_in
 go_wp2_with (first|(go_at_call 44;(with_reducible refine (HK.out _ _ (HA.out.below L.bel)).mono ?_);rintro ee wz ⟨v1,rfl,ho1,hb1⟩;obtain⟨g,capg,curg,rfl,R,L'⟩:=Lay.mem HN.out L ho1 hb1;replace L:=L';clear L' hb1 ho1)|(refine Yp (Ab (Bb M)) ?_)|(refine YL ?_)|((first|refine Yt (mcL M (.slice (some ⟨g,0,none⟩) n capg)) ?_|(go_at_call 46;(with_reducible refine zcl L (HR.out _ _ (RowBx.mem HN.out R h0 L (k:=0) rfl).row) ?_))|(go_at_call 47;(with_reducible refine zcl L (HB.out _ _ rfl) ?_))|refine YS ?_);clear L;intro wz L))
 refine (HX.out _ _ (RowBx.mem HN.out R h0 L (k:=1) rfl).row).mono ?_
 rintro ee w1 ⟨v1,rfl,ho1,hb1⟩
 obtain⟨g2,capg2,curg2,rfl,R2,L'⟩:=Lay.mem HN2.out L ho1 hb1
 replace L:=L'
 clear L' hb1 ho1 HX HB HR HK
 go_wp2_with (first|(refine CE (ty:=41) (m:=(M.n:Int)) (n:=1) ((M.n+1:Nat):Int) rfl rfl rfl rfl HNN.out ?_)|(refine Yp (mcL { M with c:=c2,m:=m2,w:=true,n:=M.n+1 } (.slice (some ⟨g2,0,none⟩) n2 capg2)) ?_)|(refine YL ?_)|((first|refine Yu (mcL { M with c:=c2,w:=false } (.slice (some ⟨g,0,none⟩) n capg)) ?_|refine Yt (mcL { M with c:=c2,m:=m2,w:=false } (.slice (some ⟨g2,0,none⟩) n2 capg2)) ?_|refine Yt (mcL { M with c:=c2,m:=m2,w:=true } (.slice (some ⟨g2,0,none⟩) n2 capg2)) ?_|refine Yt (mcL { M with c:=c2,m:=m2,w:=true,n:=M.n+1 } (.slice (some ⟨g2,0,none⟩) n2 capg2)) ?_|refine YS ?_);clear L;intro wz L))
 exact Xz55
theorem step_halt {c2 m2:List Int} {e:Ef} (hM:M.Ok) (ha:MemRow w v M.m) (hs:Ba M=false) (hx:Bn (Bb M) M.m=(c2,m2,e)) (hk:e.k=4):Calls Tryz.prog 16 #[.agg (mcL M v).toArray,.int .u32 clk] w (CB w.heap.size w ({ M with c:=c2,m:=m2,w:=false,h:=true,n:=M.n+1 },[])):=by
 have HA:=lh ha
 have h0:=hM.m.p
 have HK:=lh (fun v w h=>At v M.m w h (by have:=hM.m.q;omega))
 obtain⟨n,hn⟩:∃ n,M.m.length=n:=⟨_,rfl⟩
 have HN:=lh hn
 rw[hn] at h0
 have HR:=lh (fun v w h=>Ew (v:=v) (w:=w) hM h)
 rw[hs] at HR
 have HB:=lh (fun v w h=>Eh (M:=M) (v:=v) (w:=w) hM h)
 have X:=fun v w h=>Fi (c:=Bb M) (xs:=M.m) (va:=v) (w:=w) (Ch hM) h hM.m
 have XO:=EQ (Ch hM) hM.m
 have hnn:((M.n:Int)+1) % 18446744073709551616=((M.n+1:Nat):Int):=by have:=hM.n;omega
 rw[hx] at X XO
 dsimp only at X XO
 obtain⟨n2,hn2⟩:∃ n,m2.length=n:=⟨_,rfl⟩
 have HN2:=lh hn2
 have h02:0<n2:=by rw[←hn2];exact XO.2.1.p
 have HX:=lh X
 have HNN:=lh hnn
 clear ha hM hn hs X XO hx hn2 hnn
 have L:=Lay.start w
 go_in
 go_wp2_with (first|(go_at_call 44;(with_reducible refine (HK.out _ _ (HA.out.below L.bel)).mono ?_);rintro ee wz ⟨v1,rfl,ho1,hb1⟩;obtain⟨g,capg,curg,rfl,R,L'⟩:=Lay.mem HN.out L ho1 hb1;replace L:=L';clear L' hb1 ho1)|(refine Yp (Ab (Bb M)) ?_)|(refine YL ?_)|((first|refine Yt (mcL M (.slice (some ⟨g,0,none⟩) n capg)) ?_|(go_at_call 46;(with_reducible refine zcl L (HR.out _ _ (RowBx.mem HN.out R h0 L (k:=0) rfl).row) ?_))|(go_at_call 47;(with_reducible refine zcl L (HB.out _ _ rfl) ?_))|refine YS ?_);clear L;intro wz L))
 refine (HX.out _ _ (RowBx.mem HN.out R h0 L (k:=1) rfl).row).mono ?_
 rintro ee w1 ⟨v1,rfl,ho1,hb1⟩
 obtain⟨g2,capg2,curg2,rfl,R2,L'⟩:=Lay.mem HN2.out L ho1 hb1
 replace L:=L'
 clear L' hb1 ho1 HX HB HR HK
 go_wp2_with (first|(refine CE (ty:=41) (m:=(M.n:Int)) (n:=1) ((M.n+1:Nat):Int) rfl rfl rfl rfl HNN.out ?_)|(refine Yp (mcL { M with c:=c2,m:=m2,w:=false,h:=true,n:=M.n+1 } (.slice (some ⟨g2,0,none⟩) n2 capg2)) ?_)|(refine YL ?_)|((first|refine Yu (mcL { M with c:=c2,w:=false } (.slice (some ⟨g,0,none⟩) n capg)) ?_|refine Yt (mcL { M with c:=c2,m:=m2,w:=false } (.slice (some ⟨g2,0,none⟩) n2 capg2)) ?_|refine Yt (mcL { M with c:=c2,m:=m2,w:=false,h:=true } (.slice (some ⟨g2,0,none⟩) n2 capg2)) ?_|refine Yt (mcL { M with c:=c2,m:=m2,w:=false,h:=true,n:=M.n+1 } (.slice (some ⟨g2,0,none⟩) n2 capg2)) ?_|refine YS ?_);clear L;intro wz L))
 exact Xz55
end
theorem dkOut_ok {d:Dk} {xs:List Int} {port v:Int} {p:Nat} (hd:DkOk d (Ao xs)) (hv:W32 v):DkOk (CI d xs port v p).1 (Ao xs):=by
 obtain⟨h1,h2,h3,h4,h5,h6⟩:=hd
 unfold CI
 split
 · exact⟨h1,hv,h3,h4,h5,h6⟩
 split
 · exact⟨h1,h2,hv,h4,h5,h6⟩
 split
 · rename_i hcmd
   unfold Ci
   split
   · exact⟨h1,h2,h3,h4,h5,h6⟩
   · rename_i hs
     have hs:d.s=0:=Classical.byContradiction hs
     have hi:=h5 (by omega)
     split
     · refine ⟨h1,h2,h3,⟨by show (0:Int)≤3;decide,by show (3:Int)≤3;decide⟩,fun _=>hi,fun h=>absurd (show (3:Int)=1 from h) (by decide)⟩
     · rename_i hb
       have hb1:d.b<d.bl:=Int.not_le.1 (fun h=>hb (.inl h))
       have hb2:isPage xs d.f=true:=by
        cases hq:isPage xs d.f with
        | true=>rfl
        | false=>exact absurd (.inr hq) hb
       have hf:=of_decide_eq_true hb2
       refine ⟨h1,h2,h3,⟨by show (0:Int)≤1;decide,by show (1:Int)≤3;decide⟩,fun h=>absurd (show (1:Int)≠1 from h) (by decide),fun _=>⟨h2.1,hb1,h3.1,hf,?_⟩⟩
       rcases hcmd.2 with rfl|rfl
       · exact .inl ⟨rfl,rfl⟩
       · refine .inr ⟨rfl,?_⟩
         show (if (2:Int)=2 then Bh xs d.f else ⟨#[]⟩).size=128
         rw[if_pos rfl]
         obtain⟨q,hq⟩:∃ q:Nat,d.f=q:=⟨d.f.toNat,by have:=h3.1;omega⟩
         rw[hq] at hf ⊢
         exact Da (BQ (by rw[←Int.ofNat_lt,←Bv];exact hf)).1
 split
 · rename_i h0
   have hne:d.s≠1:=fun h=>by
    have:=h0.2.2
    unfold EW at this
    rw[h] at this
    cases this
   exact⟨h1,h2,h3,⟨by show (0:Int)≤0;decide,by show (0:Int)≤3;decide⟩,fun _=>h5 hne,fun h=>absurd (show (0:Int)=1 from h) (by decide)⟩
 · exact⟨h1,h2,h3,h4,h5,h6⟩
theorem ncOut_ok {c:Nc} {xs:List Int} {port v:Int} {p:Nat} (hc:NcOk c (Ao xs)) (hv:W32 v):NcOk (Cf c xs port v p).1 (Ao xs):=by
 obtain⟨h1,h2,h3,h4,h5⟩:=hc
 unfold Cf
 split
 · exact⟨hv,h2,h3,h4,h5⟩
 split
 · exact⟨h1,hv,h3,h4,h5⟩
 split
 · split <;> exact⟨h1,h2,h3,h4,h5⟩
 split
 · rename_i h
   have hf:=of_decide_eq_true h.2.2.1
   refine ⟨h1,h2,fun _=>h.2.2.2.2,⟨h1.1,fun _=>hf,fun hp=>absurd (show true=false from hp) (by decide)⟩,h5⟩
 split
 · exact⟨h1,h2,fun _=>rfl,h4,⟨fun hr=>absurd (show false=true from hr) (by decide),fun _=>rfl⟩⟩
 · exact⟨h1,h2,h3,h4,h5⟩
theorem tmArm_ok {v:Int} (hv:W32 v):tmOk (FG v):=by
 unfold FG tmOk
 refine ⟨hv,fun h=>⟨rfl,by simpa using h⟩,fun h _=>by simpa using h⟩
theorem may_bits {G:Nat} {pages:Int} (hG:G<4294967296) (h:FV G pages=true) (i:Nat) (hb:G.testBit i=true):(i:Int)<pages:=by
 rw[Nat.testBit_eq_decide_div_mod_eq,decide_eq_true_eq] at hb
 refine Int.not_le.1 (fun hle=>?_)
 rw[may_no hG hb hle] at h
 cases h
theorem FU {G:Nat} {pages:Int} (hG:G<4294967296) (h:∀ i:Nat,G.testBit i=true→(i:Int)<pages):FV G pages=true :=
 may_yes hG (fun i _ hb=>h i (by rw[Nat.testBit_eq_decide_div_mod_eq];exact decide_eq_true hb))
theorem outG_ok {G:Nat} {xs:List Int} (hG:G<4294967296) (hb:FV G (Ao xs)=true) (port:Int) (v:Nat):Hy G xs.length port v<4294967296∧FV (Hy G xs.length port v) (Ao xs)=true:=by
 unfold Hy
 split
 · rename_i hv
   split
   · split
     · rename_i h
       refine ⟨GQ hG hv,FU (GQ hG hv) (fun i hi=>?_)⟩
       unfold setN at hi
       rw[Nat.testBit_or,Bool.or_eq_true] at hi
       rcases hi with hi|hi
       · exact may_bits hG hb i hi
       · rw[Nat.testBit_two_pow,decide_eq_true_eq] at hi
         subst hi
         rw[Bv]
         have:=h.1
         omega
     · exact⟨hG,hb⟩
   · split
     · refine ⟨Hh G v,FU (Hh G v) (fun i hi=>?_)⟩
       refine may_bits hG hb i ?_
       unfold clrN at hi
       rw[BitVec.testBit_toNat,BitVec.getLsbD_and,Bool.and_eq_true] at hi
       have:=hi.1
       rw[BitVec.getLsbD_ofNat,Bool.and_eq_true] at this
       exact this.2
     · exact⟨hG,hb⟩
 · exact⟨hG,hb⟩
theorem clearP_ok {xs:List Int} (h:MemOk xs) (p k:Nat):MemOk (CJ xs p k):=by
 induction k with
 | zero=>exact h
 | succ k ih=>exact ih.set _ (by decide) (by decide)
theorem outM_ok {G:Nat} {xs:List Int} (h:MemOk xs) (port:Int) (v:Nat):MemOk (Fc G xs port v):=by
 unfold Fc
 split
 · exact clearP_ok h v 32
 · exact h
theorem Fb {a b:List Int} (h:a.length=b.length):Ao a=Ao b:=by unfold Ao;rw[h]
theorem outM_len' (G:Nat) (xs:List Int) (port:Int) (n:Nat):(Fc G xs port n).length=xs.length:=by
 unfold Fc;split
 · exact EB _ _ _
 · rfl
theorem outP_ok {M:Mc} (hM:M.Ok) {port v:Int} (hv:W32 v):(Be M port v).1.Ok:=by
 unfold Be
 split
 · exact hM
 split
 · exact⟨hM.c,hM.m,hM.keys,tmArm_ok hv,hM.dk,hM.nc,hM.T,hM.G,hM.bal,hM.n,hM.wh⟩
 split
 · exact⟨hM.c,hM.m,hM.keys,hM.tm,dkOut_ok hM.dk hv,hM.nc,hM.T,hM.G,hM.bal,hM.n,hM.wh⟩
 split
 · exact⟨hM.c,hM.m,hM.keys,hM.tm,hM.dk,ncOut_ok hM.nc hv,hM.T,hM.G,hM.bal,hM.n,hM.wh⟩
 split
 · have hp:Ao (Fc M.G M.m port v.toNat)=Ao M.m:=Fb (outM_len' _ _ _ _)
   have hg:=outG_ok (xs:=M.m) hM.G hM.bal port v.toNat
   refine ⟨hM.c,outM_ok hM.m port v.toNat,hM.keys,hM.tm,?_,?_,hM.T,hg.1,?_,hM.n,hM.wh⟩
   · dsimp only;rw[hp];exact hM.dk
   · dsimp only;rw[hp];exact hM.nc
   · dsimp only;rw[hp];exact hg.2
 · exact hM
theorem inP_keys {M:Mc} (hM:M.Ok) (port clk:Int):(inP M port clk).1.size≤16:=by
 have hk:=hM.keys
 unfold inP Cw
 split
 · split
   · split
     · exact hk
     · dsimp only
       rw[ByteArray.size_extract];omega
   · split <;> exact hk
 · exact hk
theorem FH {M:Mc} (h:Ba M=false):M.h=false∧M.n<1152921504606846976:=by
 unfold Ba at h
 rw[Bool.or_eq_false_iff,Bool.or_eq_false_iff,decide_eq_false_iff_not] at h
 exact⟨h.1.1,by omega⟩
theorem exeM_ok {M:Mc} (hM:M.Ok):(CG M).1.Ok∧EfOk (CG M).2:=by
 have hx:=EQ (Ch hM) hM.m
 exact⟨hM.exe hx.1 hx.2.1 hx.2.2.1,hx.2.2.2⟩
theorem effM_ok {M:Mc} (hM:M.Ok) (hw:M.w=false) (hh:M.h=false) {e:Ef} (he:EfOk e) {clk:Int} (hc:W32 clk):(Hd M e clk).1.Ok:=by
 unfold Hd
 split
 · rename_i hk
   have:=he.i hk
   have hb:=inP_bd hM (port:=e.p) hc.1 hc.2
   exact⟨Fo hM.c this.2.2.1 this.2.2.2 hb.1 hb.2,hM.m,inP_keys hM _ _,hM.tm,hM.dk,hM.nc,hM.T,hM.G,hM.bal,hM.n,hM.wh⟩
 split
 · rename_i hk
   exact outP_ok hM (he.o hk).2.2
 split
 · exact⟨hM.c,hM.m,hM.keys,hM.tm,hM.dk,hM.nc,hM.T,hM.G,hM.bal,hM.n,fun _=>hh⟩
 split
 · exact⟨hM.c,hM.m,hM.keys,hM.tm,hM.dk,hM.nc,hM.T,hM.G,hM.bal,hM.n,fun h=>by rw[hw] at h;cases h⟩
 · exact hM
theorem Et {M:Mc} (hM:M.Ok) {clk:Int} (hc:W32 clk):(AZ M clk).1.Ok:=by
 unfold AZ
 cases hs:Ba M with
 | true=>rw[if_pos rfl];exact hM
 | false =>
   rw[if_neg (by decide)]
   have hn:=FH hs
   have hx:=exeM_ok hM
   have h:=effM_ok hx.1 rfl hn.1 hx.2 hc
   exact⟨h.c,h.m,h.keys,h.tm,h.dk,h.nc,h.T,h.G,h.bal,hn.2,h.wh⟩
theorem GO {M:Mc} (clk:Int) (hs:Ba M=false):(AZ M clk).1.n=M.n+1:=by
 unfold AZ
 rw[if_neg (by rw[hs];decide)]
theorem stepM_clk {M:Mc} (c d:Int) (hr:rdB M=false):AZ M c=AZ M d:=by
 unfold AZ
 cases hs:Ba M with
 | true=>rw[if_pos rfl,if_pos rfl]
 | false =>
   rw[if_neg (by decide),if_neg (by decide)]
   unfold rdB at hr
   rw[hs] at hr
   have e:Hd (CG M).1 (CG M).2 c=Hd (CG M).1 (CG M).2 d:=by
    generalize (CG M).1=M1
    generalize (CG M).2=e at hr
    unfold Hd
    by_cases hk:e.k=1
    · rw[if_pos hk,if_pos hk]
      have hp:e.p≠2:=fun hp=>by rw[hk,hp] at hr;cases hr
      have:inP M1 e.p c=inP M1 e.p d:=by
       unfold inP
       split
       · rfl
       · simp only[if_neg hp]
      rw[this]
    · rw[if_neg hk,if_neg hk]
   rw[e]
/-! ## Events -/
theorem fillS_ok {xs:List Int} (h:MemOk xs) (p:Nat) (s:ByteArray) (k:Nat):MemOk (F4 xs p s k):=by
 induction k with
 | zero=>exact h
 | succ k ih=>exact ih.set _ (wordS_bd s k).1 (wordS_bd s k).2
theorem FJ {xs:List Int} (h:MemOk xs) (f:Int) (s:ByteArray):MemOk (A0 xs f s)∧Ao (A0 xs f s)=Ao xs:=by
 unfold A0
 exact⟨fillS_ok h _ _ _,Fb (C8 _ _ _ _)⟩
theorem dkDone_ok {d:Dk} {n pages:Int} (h:DkOk d pages):DkOk (dkDone d n) pages:=by
 have hs:(dkDone d n).s=if n=1 then 2 else 3:=rfl
 refine ⟨h.bl,h.b,h.f,?_,fun _=>⟨rfl,rfl,rfl,rfl⟩,fun h1=>?_⟩
 · rw[hs];split <;> decide
 · rw[hs] at h1;split at h1 <;> cases h1
theorem dkComp_ok {d:Dk} {xs:List Int} {e:Ev} (hd:DkOk d (Ao xs)) (hm:MemOk xs):DkOk (AS d xs e).1 (Ao (AS d xs e).2.1)∧MemOk (AS d xs e).2.1∧Ao (AS d xs e).2.1=Ao xs:=by
 have hp:=FJ hm d.of e.d
 unfold AS
 generalize A0 xs d.of e.d=ys at hp ⊢
 split
 · exact⟨hd,hm,rfl⟩
 split
 · split
   · dsimp only;rw[hp.2];exact⟨dkDone_ok hd,hp.1,rfl⟩
   · exact⟨hd,hm,rfl⟩
 · split
   · exact⟨dkDone_ok hd,hm,rfl⟩
   · exact⟨hd,hm,rfl⟩
theorem ncRecv_ok {c:Nc} {xs:List Int} {s:ByteArray} (hc:NcOk c (Ao xs)) (hm:MemOk xs):NcOk (AR c xs s).1 (Ao (AR c xs s).2.1)∧MemOk (AR c xs s).2.1∧Ao (AR c xs s).2.1=Ao xs:=by
 have hp:=FJ hm c.b (s++(Bh xs c.b).extract s.size 128)
 unfold AR
 generalize A0 xs c.b (s++(Bh xs c.b).extract s.size 128)=ys at hp ⊢
 split
 · rename_i h
   dsimp only
   rw[hp.2]
   refine ⟨⟨hc.f,hc.l,fun h=>absurd (show false=true from h) (by decide),⟨by show (0:Int)≤0;decide,fun h=>absurd (show false=true from h) (by decide),fun _=>rfl⟩,⟨fun _=>?_,fun h=>absurd (show true=false from h) (by decide)⟩⟩,hp.1,rfl⟩
   show 1≤(s.size:Int)∧(s.size:Int)≤128
   omega
 · exact⟨hc,hm,rfl⟩
theorem appM_ok {M:Mc} (hM:M.Ok) {e:Ev} (h0:0≤e.n) (h1:e.n<4294967296):(EG M e).1.Ok:=by
 unfold EG
 split
 · exact hM
 split
 · split
   · rename_i h
     have ht:=hM.tm
     exact⟨hM.c,hM.m,hM.keys,⟨ht.1,fun h=>absurd (show false=true from h) (by decide),fun _ h=>absurd (show true=false from h) (by decide)⟩,hM.dk,hM.nc,hM.T,hM.G,hM.bal,hM.n,hM.wh⟩
   · exact hM
 split
 · split
   · rename_i h
     refine ⟨hM.c,hM.m,?_,hM.tm,hM.dk,hM.nc,hM.T,hM.G,hM.bal,hM.n,hM.wh⟩
     show (M.keys++Bl e.n).size≤16
     rw[ByteArray.size_append,Fw]
     omega
   · exact hM
 split
 · have h:=dkComp_ok (e:=e) hM.dk hM.m
   generalize AS M.dk M.m e=r at h ⊢
   refine ⟨hM.c,h.2.1,hM.keys,hM.tm,h.1,?_,hM.T,hM.G,?_,hM.n,hM.wh⟩
   · dsimp only;rw[h.2.2];exact hM.nc
   · dsimp only;rw[h.2.2];exact hM.bal
 split
 · split
   · have h:=ncRecv_ok (s:=e.d) hM.nc hM.m
     generalize AR M.nc M.m e.d=r at h ⊢
     refine ⟨hM.c,h.2.1,hM.keys,hM.tm,?_,h.1,hM.T,hM.G,?_,hM.n,hM.wh⟩
     · dsimp only;rw[h.2.2];exact hM.dk
     · dsimp only;rw[h.2.2];exact hM.bal
   · exact hM
 split
 · split
   · exact⟨hM.c,hM.m,hM.keys,hM.tm,hM.dk,hM.nc,by show e.n.toNat<4294967296;omega,hM.G,hM.bal,hM.n,hM.wh⟩
   · exact hM
 · exact hM
theorem Hw (d:Dk) (port:Int) (w:World) (hs:0≤d.s∧d.s≤3):Calls Tryz.prog 199 #[(.agg (dkL d).toArray),.int .i64 port] w (Ret w (.int .u32 (F8 d port))):=by
 have h3:d.s % 4294967296=d.s:=by omega
 unfold F8
 by_cases h4:port=4
 · subst h4
   exact Xz8
 by_cases h5:port=5
 · subst h5
   exact Xz8
 by_cases h6:port=6
 · subst h6
   exact Xz8
 rw[if_neg h4,if_neg h5,if_neg h6]
 have n4:(port == 4)=false:=by simpa using h4
 have n5:(port == 5)=false:=by simpa using h5
 have n6:(port == 6)=false:=by simpa using h6
 clear h4 h5 h6
 exact Xz46
theorem rdkpend_any (d:Dk) (w:World) (hs:0≤d.s∧d.s≤3):Calls Tryz.prog 239 #[(.agg (dkL d).toArray)] w (Ret w (.bool (EW d))):=by
 obtain⟨bl,b,f,s,cmd,ob,of,od⟩:=d
 dsimp only at hs
 obtain rfl|rfl|rfl|rfl:s=0∨s=1∨s=2∨s=3:=by omega
 all_goals
  clear hs
  exact J6
theorem Xz34 {P:Prop} (h:P:=by
  have L:=Lay.start w
  go_in
  go_wp2_with (first|(go_skip;first|(go_step;go_big_op)|skip)|(refine YL ?_)|(refine YS ?_;clear L;intro wz L))
  go_ret
  exact Ret.mk' rfl L.bel):P:=h
theorem rdkmay_any (d:Dk) (n:Nat) (w:World) (hd:DkOk d n) (hn:n≤32):Calls Tryz.prog 135 #[(.agg (dkL d).toArray),.int .i64 n] w (Ret w (.bool true)):=by
 have hbl:decide ((64:Int)<d.bl)=false:=decide_eq_false (by have:=hd.bl;omega)
 by_cases hs:d.s=1
 · obtain⟨h1,h2,h3,h4,h5⟩:=hd.busy hs
   have hob:decide (d.bl≤d.ob)=false:=decide_eq_false (by omega)
   have hof:decide ((n:Int)≤d.of)=false:=decide_eq_false (by omega)
   have hw:wrap64 d.of=d.of:=by unfold wrap64;omega
   obtain⟨bl,b,f,s,cmd,ob,of,od⟩:=d
   dsimp only at hs hbl hob hof hw h3 h4 h5
   subst hs
   clear hd h1 h2 h3 h4
   rcases h5 with ⟨rfl,rfl⟩|⟨rfl,h5⟩
   rotate_left
   have h5':(od.size:Int)=128:=by omega
   have h6:(od.size == 128)=true:=by rw[h5];rfl
   rotate_left
   all_goals
    exact Xz34
 · obtain⟨h1,h2,h3,h4⟩:=hd.idle hs
   have h5:=hd.s
   obtain⟨bl,b,f,s,cmd,ob,of,od⟩:=d
   dsimp only at hs hbl h1 h2 h3 h4 h5
   subst h1 h2 h3 h4
   clear hd
   obtain rfl|rfl|rfl:s=0∨s=2∨s=3:=by omega
   all_goals
    clear hs h5
    exact Xz34
theorem Hu (c:Nc) (port:Int) (w:World):Calls Tryz.prog 200 #[.agg (ncL c).toArray,.int .i64 port] w (Ret w (.int .u32 (F7 c port))):=by
 unfold F7
 by_cases h4:port=7
 · subst h4
   exact J6
 by_cases h5:port=8
 · subst h5
   exact J6
 by_cases h6:port=9
 · subst h6
   obtain⟨f,l,p,b,r,g⟩:=c
   cases p <;> cases r
   all_goals
    exact Xz34
 rw[if_neg h4,if_neg h5,if_neg h6]
 have n4:(port == 7)=false:=by simpa using h4
 have n5:(port == 8)=false:=by simpa using h5
 have n6:(port == 9)=false:=by simpa using h6
 clear h4 h5 h6
 have L:=Lay.start w
 go_in
 go_wp2_with (refine YS ?_;clear L;intro wz L)
 go_ret
 exact Ret.mk' rfl L.bel
theorem rncpend_any (c:Nc) (w:World):Calls Tryz.prog 240 #[.agg (ncL c).toArray] w (Ret w (.bool c.r)):=by
 exact J6
theorem rncmay_any (c:Nc) (n:Nat) (w:World) (hc:NcOk c n) (hn:n≤32):Calls Tryz.prog 136 #[.agg (ncL c).toArray,.int .i64 n] w (Ret w (.bool true)):=by
 have h1:=hc.pr;have h2:=hc.b;have h3:=hc.g
 obtain⟨f,l,p,b,r,g⟩:=c
 dsimp only at h1 h2 h3
 clear hc
 cases p
 · obtain rfl:=h2.2.2 rfl
   cases r
   obtain rfl:=h3.2 rfl
   rotate_left
   have h4:=h3.1 rfl
   have hq:decide (1≤g)=true:=decide_eq_true h4.1
   have hq2:decide (g≤128)=true:=decide_eq_true h4.2
   rotate_left
   all_goals
    clear h1 h2 h3
    exact Xz34
 · have h4:=h1 rfl
   subst h4
   obtain rfl:=h3.2 rfl
   have h5:=h2.2.1 rfl
   have h6:=h2.1
   have hw:wrap64 b=b:=by unfold wrap64;omega
   have hq:decide ((n:Int)≤b)=false:=decide_eq_false (by omega)
   clear h1 h2 h3
   exact Xz34
theorem B8 (ao:Option Addr) (xs:List Int) (n:Nat) (cap:Nat) (f:Int) (w:World) (hn:xs.length=n) (hm:MemOk xs) (h0:0≤f) (h1:f<4294967296):Calls Tryz.prog 186 #[.slice ao n cap,.int .u32 f] w (Same w (.bool (isPage xs f))):=by
 subst hn
 have P:=fun w=>DM ao xs.length cap w hm.r hm.q
 obtain⟨hp,hp1,hp2⟩:=hm.pages
 unfold isPage
 obtain⟨q,hqq⟩:∃ q,xs.length / 32=q:=⟨_,rfl⟩
 have e:Ao xs=q:=by omega
 rw[hqq] at P
 rw[e]
 have hq32:q≤32:=by omega
 obtain⟨m,rfl⟩:∃ m:Nat,f=m:=⟨f.toNat,by omega⟩
 have HP:=lh P;clear P hqq e hp
 go_in
 go_wp2_with (refine YL ?_)
 go_ret
 exact Same.mk' (congrArg Value.bool (by first|rfl|(rw[Bool.eq_iff_iff];simp only[decide_eq_true_eq];omega)))
theorem one_u8 (x:Int):∀ u∈[Value.int .u8 x],u.oneCell'=true:=by
 intro u hu
 rw[List.mem_singleton] at hu
 rw[hu];rfl
theorem rlow_any (x:Int) (w:World) (h0:0≤x) (h1:x<4294967296):Calls Tryz.prog 271 #[.int .u32 x,.int .i64 4] w (Ret w (.string (EH x))):=by
 obtain⟨i0,hi,iz0,iz1,iz2⟩:=info_parts Hc
 have e3:x / 16777216 % 256=x / 16777216:=by omega
 have EC:=lh (G2 h0 h1)
 go_in
 go_wp2_with fail
 go_loopw [5,6] (fun v i wr=>∃ k:Nat,k≤4∧i=.int .i64 k∧wr.ownsRow w.heap.size 5 1 v k ((Bu x).take k)∧Below w.heap.size w wr) (fun _ i _=>4 - (intOf i).toNat)
 case atStart=>exact⟨0,by omega,rfl,World.ownsRow_nil _ _ _ _,bel⟩
 case round =>
  obtain⟨k,hk,rfl,hown,hbw⟩:=hrel
  have hbs0:=hbw.size
  by_cases hlt:k<4
  · have HO:=lh hown;clear hown
    obtain rfl|rfl|rfl|rfl:k=0∨k=1∨k=2∨k=3:=by omega
    · go_wp2_with (at_builtin;refine wpList_append_own _ rfl (.tmp 12) (.tmp 19) 194 rfl w.heap.size 5 i0 (.int .u8 0) 1 1 τ194 hi iz0 iz1 iz2 rfl (by decide) _ 0 ((Bu x).take 0) rfl (HO.out.alloc _) ⟨wr.heap.size,0,none⟩ 1 1 [.int .u8 (x % 256)] rfl rfl (A8 _ [.int .u8 (x % 256)] _ _ (by first|rfl|simp only[sizes])) (one_u8 _) (by unfold maxLen;omega) (by omega) (by first|exact nlr _|omega|(simp only[sizes];done)|(simp only[sizes];omega)) ?_;intro v3 w3 hown3 hgrow3 _;have hb3:=A4 bel (HO.out.alloc _) hgrow3;have hz3:=hb3.size)
      have hown4:w3.ownsRow w.heap.size 5 1 v3 (0+1) ((Bu x).take (0+1)):=hown3
      clear hown3
      go_wp2_with fail
      go_roundw
      case rel=>exact⟨0+1,by omega,by go_num,hown4,hb3⟩
      case measure=>simp [intOf]
    · go_wp2_with (at_builtin;refine wpList_append_own _ rfl (.tmp 12) (.tmp 19) 194 rfl w.heap.size 5 i0 (.int .u8 0) 1 1 τ194 hi iz0 iz1 iz2 rfl (by decide) _ 1 ((Bu x).take 1) rfl (HO.out.alloc _) ⟨wr.heap.size,0,none⟩ 1 1 [.int .u8 (x / 256 % 256)] rfl rfl (A8 _ [.int .u8 (x / 256 % 256)] _ _ (by first|rfl|simp only[sizes])) (one_u8 _) (by unfold maxLen;omega) (by omega) (by first|exact nlr _|omega|(simp only[sizes];done)|(simp only[sizes];omega)) ?_;intro v3 w3 hown3 hgrow3 _;have hb3:=A4 bel (HO.out.alloc _) hgrow3;have hz3:=hb3.size)
      have hown4:w3.ownsRow w.heap.size 5 1 v3 (1+1) ((Bu x).take (1+1)):=hown3
      clear hown3
      go_wp2_with fail
      go_roundw
      case rel=>exact⟨1+1,by omega,by go_num,hown4,hb3⟩
      case measure=>simp [intOf]
    · go_wp2_with (at_builtin;refine wpList_append_own _ rfl (.tmp 12) (.tmp 19) 194 rfl w.heap.size 5 i0 (.int .u8 0) 1 1 τ194 hi iz0 iz1 iz2 rfl (by decide) _ 2 ((Bu x).take 2) rfl (HO.out.alloc _) ⟨wr.heap.size,0,none⟩ 1 1 [.int .u8 (x / 65536 % 256)] rfl rfl (A8 _ [.int .u8 (x / 65536 % 256)] _ _ (by first|rfl|simp only[sizes])) (one_u8 _) (by unfold maxLen;omega) (by omega) (by first|exact nlr _|omega|(simp only[sizes];done)|(simp only[sizes];omega)) ?_;intro v3 w3 hown3 hgrow3 _;have hb3:=A4 bel (HO.out.alloc _) hgrow3;have hz3:=hb3.size)
      have hown4:w3.ownsRow w.heap.size 5 1 v3 (2+1) ((Bu x).take (2+1)):=hown3
      clear hown3
      go_wp2_with fail
      go_roundw
      case rel=>exact⟨2+1,by omega,by go_num,hown4,hb3⟩
      case measure=>simp [intOf]
    · go_wp2_with (at_builtin;refine wpList_append_own _ rfl (.tmp 12) (.tmp 19) 194 rfl w.heap.size 5 i0 (.int .u8 0) 1 1 τ194 hi iz0 iz1 iz2 rfl (by decide) _ 3 ((Bu x).take 3) rfl (HO.out.alloc _) ⟨wr.heap.size,0,none⟩ 1 1 [.int .u8 (x / 16777216)] rfl rfl (A8 _ [.int .u8 (x / 16777216)] _ _ (by first|rfl|simp only[sizes])) (one_u8 _) (by unfold maxLen;omega) (by omega) (by first|exact nlr _|omega|(simp only[sizes];done)|(simp only[sizes];omega)) ?_;intro v3 w3 hown3 hgrow3 _;have hb3:=A4 bel (HO.out.alloc _) hgrow3;have hz3:=hb3.size)
      have hown4:w3.ownsRow w.heap.size 5 1 v3 (3+1) ((Bu x).take (3+1)):=hown3
      clear hown3
      go_wp2_with fail
      go_roundw
      case rel=>exact⟨3+1,by omega,by go_num,hown4,hb3⟩
      case measure=>simp [intOf]
  · obtain rfl:k=4:=by omega
    rw[show (Bu x).take 4=Lib.strCells (EH x) from EC.out.symm] at hown
    obtain⟨g,cap,rfl,h1,h2,hcv⟩:=Fv hown (by omega)
    clear hown
    go_wp2_with fail
    go_ret
    exact Ret.mk hbw
theorem GH (x:Int):(EH x).size=4:=rfl
theorem rpage_any (va:Value) (xs:List Int) (p:Nat) (w:World) (ha:MemRow w va xs) (hm:MemOk xs) (hp:p<AO xs.length):Calls Tryz.prog 255 #[va,.int .i64 p] w (Ret w (.tuple #[.string (Bh xs p),.bool true])):=by
 have hfit:=BQ hp
 obtain⟨b,off,cap,rfl,h1,h2,h0,h3,h4⟩:=ha
 have P:=fun w=>DM (some ⟨b,off,none⟩) xs.length cap w hm.r hm.q
 have hq32:xs.length / 32≤32:=by have:=hm.q;omega
 have hpq:p<xs.length / 32:=by omega
 obtain⟨q,hq⟩:∃ q,xs.length / 32=q:=⟨_,rfl⟩
 rw[hq] at P hpq hq32
 have HP:=lh P;clear P hq
 have hpl:=Gi (xs:=xs) (k:=p) hfit.1
 have hw:=hm.w.page p
 rw[GW]
 have hcells:∀ k,k<32→∃ x,(Ez xs p)[k]?=some x∧0≤x∧x<4294967296∧w.cell? ⟨b,off+(p*32+k),none⟩=some (.int .u32 x):=by
  intro k hk
  obtain⟨x,hx⟩:=A6 (xs:=Ez xs p) (k:=k) (by omega)
  refine ⟨x,hx,(hw k x hx).1,(hw k x hx).2,h4 _ x ?_⟩
  unfold Ez at hx
  rw[List.getElem?_take,if_pos hk,List.getElem?_drop] at hx
  exact hx
 obtain⟨ys,hys⟩:∃ ys,Ez xs p=ys:=⟨_,rfl⟩
 rw[hys] at hcells hpl ⊢
 obtain⟨n,hn⟩:∃ n,xs.length=n:=⟨_,rfl⟩
 rw[hn] at HP hfit h0 h1 ⊢
 have HC:=lh hcells
 have HPL:=lh hpl
 clear h4 h2 hn hm hw hys hp hcells hpl
 obtain⟨i0,hi,iz0,iz1,iz2⟩:=info_parts Hc
 have d1:decide ((q:Int)≤p)=false:=decide_eq_false (by omega)
 have d2:decide (q≤p)=false:=decide_eq_false (by omega)
 have d3:decide ((p:Int)<0)=false:=decide_eq_false (by omega)
 go_in
 go_wp2_with (refine YL ?_)
 go_loopw [6,7] (fun v i wr=>∃ k:Nat,k≤32∧i=.int .i64 k∧wr.ownsRow w.heap.size 5 1 v (4*k) (Lib.strCells (DL (ys.take k)))∧Below w.heap.size w wr) (fun _ i _=>32 - (intOf i).toNat)
 case atStart=>exact⟨0,by omega,rfl,World.ownsRow_nil _ _ _ _,bel⟩
 case round =>
  obtain⟨k,hk,rfl,hown,hbw⟩:=hrel
  have hbs0:=hbw.size
  by_cases hlt:k<32
  · obtain⟨x,hx,x0,x1,hcell⟩:=HC.out k hlt
    have hc:=(hbw.cell (p:=⟨b,off+(p*32+k),none⟩) h3).trans hcell
    have HT:=lh (textW_take hx)
    have HO:=lh hown;clear hown hx hcell
    go_wp2_with fail
    refine (rlow_any x _ x0 x1).mono ?_
    rintro e w2 ⟨rfl,hb2⟩
    have hz2:=hb2.size
    go_wp2_with (at_builtin;go_must (refine Lib.wpList_append_own_string _ rfl (.tmp 20) (.tmp 28) 194 9 rfl w.heap.size 5 i0 τ194 τ9 hi iz0 iz1 iz2 _ (4*k) (Lib.strCells (DL (ys.take k))) rfl (Af HO.out hb2) (EH x) rfl (by rw[GH];unfold maxLen;exact Nat.le_trans (show 4*k+4≤200 by omega) (by decide)) (by rw[GH];exact (show 4*k+4≤140737488355328 by omega)) (by omega) ?_;intro v3 w3 hown3 hgrow3 _;have hb3:Below w.heap.size w w3:=A4 bel (Af HO.out hb2) hgrow3))
    have hown4:w3.ownsRow w.heap.size 5 1 v3 (4*(k+1)) (Lib.strCells (DL (ys.take (k+1)))):=by
     rw[HT.out,Fy]
     exact hown3
    clear hown3
    go_wp2_with fail
    go_roundw
    case rel=>exact⟨k+1,by omega,by go_num,hown4,hb3⟩
    case measure=>simp [intOf];omega
  · obtain rfl:k=32:=by omega
    rw[List.take_of_length_le (by rw[HPL.out];exact nlr _)] at hown
    obtain⟨g,cap,rfl,h1,h2,hcv⟩:=Fv hown (by omega)
    clear hown
    go_wp2_with fail
    go_ret2
    exact Ret.mk hbw
/-! ## Bytes into a page, in place -/
def E9 (xs:List Int) (p:Int) (s:ByteArray):Nat→List Int
 | 0=>xs
 | k+1=>BO (E9 xs p s k) (p*128+k) 1 (BD s k)
theorem byteI_get {s:ByteArray} {j:Nat} (h:j<s.size):((s[j].toNat:Int) % 4294967296)=BD s j:=by
 have e:BD s j=(s[j].toNat:Int):=by
  unfold BD
  rw[Array.getElem?_eq_getElem h];rfl
 have:=Cr s j
 rw[←e];omega
theorem Gp (xs:List Int) (p:Int) (s:ByteArray) (k:Nat):(E9 xs p s k).length=xs.length:=by
 induction k with
 | zero=>rfl
 | succ k ih=>show (BO _ _ _ _).length=_;unfold BO;rw[List.length_set,ih]
theorem fillB_ok {xs:List Int} (h:MemOk xs) (p:Int) (s:ByteArray) (k:Nat):MemOk (E9 xs p s k):=by
 induction k with
 | zero=>exact h
 | succ k ih=>have:=Cr s k;exact (storeI_ok ih _ _ this.1 (by omega)).1
theorem rfill_any {w0 w:World} {l:List Bx} {k g n:Nat} {xs:List Int} (L:Lay w0 w l) (hk:l[k]?=some ⟨g,words xs,25⟩) (hn:xs.length=n) (hm:MemOk xs) (p:Nat) (s:ByteArray) (hp:(p:Int)<Ao xs) (hs:s.size≤128) :
    Calls Tryz.prog 187 #[.slice (some ⟨g,0,none⟩) n n,.int .i64 p,.string s] w (Bc w0 (l.set k ⟨g,words (E9 xs p s s.size),25⟩) (.tuple #[])):=by
 have hpg:=hm.pages
 have hp32:p<32:=by omega
 have PUT:=fun (j:Nat) (hj:j<s.size) (w:World) (L:Lay w0 w (l.set k ⟨g,words (E9 xs p s j),25⟩))=>rput_byte (k:=k) (g:=g) (n:=n) L (BK hk _) ((Gp xs p s j).trans hn) (fillB_ok hm p s j) (p*128+j) (BD s j) (by omega) (by omega)
  (decide_eq_true ⟨Int.emod_one _,by rw[Fb (Gp xs p s j)];omega⟩) (Cr s j).1 (by have:=Cr s j;omega)
 simp only[List.set_set] at PUT
 have HP:=lh PUT
 have HI:=lh hk
 have L0:Lay w0 w (l.set k ⟨g,words (E9 xs p s 0),25⟩):=by rw[show E9 xs p s 0=xs from rfl,AY hk];exact L
 clear PUT hk hn hm hpg hp L
 go_in
 go_wp2_with fail
 go_loopw [6] (fun i wr=>∃ j:Nat,j≤s.size∧i=.int .i64 j∧Lay w0 wr (l.set k ⟨g,words (E9 xs p s j),25⟩)) (fun i _=>s.size - (intOf i).toNat)
 case atStart=>exact⟨0,by omega,rfl,L0⟩
 case round =>
  obtain⟨j,hj,rfl,L⟩:=hrel
  by_cases hlt:j<s.size
  · have hj128:j<128:=by omega
    have w1:IntKind.u32.wrap ((p:Int)*128+j)=(p:Int)*128+j:=by rw[IntKind.wrap_u32];omega
    have HB:=lh (byteI_get hlt)
    go_wp2_with fail
    rw[show ((s[j].toNat:Int) % 4294967296)=BD s j from HB.out]
    refine (HP.out j hlt _ L).mono ?_
    rintro e wz ⟨rfl,Lz⟩
    go_wp2_with fail
    go_roundw
    case rel=>exact⟨j+1,by omega,by go_num,Lz⟩
    case measure=>simp [intOf];omega
  · obtain rfl:j=s.size:=by omega
    go_wp2_with fail
    exact bodyPost_ret (v:=.tuple #[]) (results_none rfl _ _ _) rfl ⟨rfl,L⟩
end Go.Proofs.YtnmpfmapncicmaaGreat
