/-
  Texts joined: TpAy TpAz TpBa. No law is proved here.
-/
import Derived.Test.YtnmpfmapncicmaaGreatB29
import Derived.Test.YtnmpfmapncicmaaGreatB28
namespace Go.Proofs.YtnmpfmapncicmaaGreat
set_option linter.all false
set_option maxRecDepth 100000
set_option maxHeartbeats 40000000
open Go.RowKit
theorem Xz4 {P:Prop} (h:P:=by
  go_in
  go_wp2_with (first|(go_at_call 233;(with_reducible refine (HD.out _).mono ?_);rintro e wz ⟨rfl,hb1⟩)|(go_at_call 181;(with_reducible refine (HF.out _).mono ?_);rintro e wz ⟨rfl,rfl⟩)|(refine Ad rfl (Aj (B:=[46,119,111,114,100]) rfl rfl rfl Q1.out) ?_)|(refine Ad rfl (Aj (B:=[46,115,112,97,99,101]) rfl rfl rfl Q2.out) ?_)|(refine Ad rfl (Aj (B:=[108,105]) rfl rfl rfl Q3.out) ?_)|(refine Ad rfl (Aj (B:=[109,118]) rfl rfl rfl Q4.out) ?_)|(refine Ad rfl (Aj (B:=[110,111,112]) rfl rfl rfl Q5.out) ?_))
  go_ret2
  exact Ret.mk hb1):P:=h
theorem EL (t p:List UInt8) (w:World) (hp:patOf t=some p) (h1:t≠[46,119,111,114,100]) (h2:t≠[46,115,112,97,99,101]) :
    Calls Tryz.prog 231 #[.string (bsL t)] w (Ret w (.tuple #[.string (bsL p),.bool true])):=by
 have q1:(t == [46,119,111,114,100])=false:=by simpa using h1
 have q2:(t == [46,115,112,97,99,101])=false:=by simpa using h2
 have HD:=lh (fun w=>FR t w)
 have Q1:=lh q1;have Q2:=lh q2
 clear q1 q2 h1 h2
 unfold patOf at hp
 by_cases h3:t=[108,105]
 · rw[if_pos h3] at hp
   cases hp
   have q3:(t == [108,105])=true:=by rw[h3];rfl
   have Q3:=lh q3
   clear q3 h3
   go_in
   go_wp2_with (first|(go_at_call 233;(with_reducible refine (HD.out _).mono ?_);rintro e wz ⟨rfl,hb1⟩)|(go_at_call 181;(with_reducible refine (BC _ _).mono ?_);rintro e wz ⟨rfl,rfl⟩)|(refine Ad rfl (Aj (B:=[46,119,111,114,100]) rfl rfl rfl Q1.out) ?_)|(refine Ad rfl (Aj (B:=[46,115,112,97,99,101]) rfl rfl rfl Q2.out) ?_)|(refine Ad rfl (Aj (B:=[108,105]) rfl rfl rfl Q3.out) ?_))
   go_ret2
   exact Ret.mk hb1
 rw[if_neg h3] at hp
 have q3:(t == [108,105])=false:=by simpa using h3
 have Q3:=lh q3
 clear q3 h3
 by_cases h4:t=[109,118]
 · rw[if_pos h4] at hp
   cases hp
   have q4:(t == [109,118])=true:=by rw[h4];rfl
   have Q4:=lh q4
   clear q4 h4
   go_in
   go_wp2_with (first|(go_at_call 233;(with_reducible refine (HD.out _).mono ?_);rintro e wz ⟨rfl,hb1⟩)|(go_at_call 181;(with_reducible refine (BC _ _).mono ?_);rintro e wz ⟨rfl,rfl⟩)|(refine Ad rfl (Aj (B:=[46,119,111,114,100]) rfl rfl rfl Q1.out) ?_)|(refine Ad rfl (Aj (B:=[46,115,112,97,99,101]) rfl rfl rfl Q2.out) ?_)|(refine Ad rfl (Aj (B:=[108,105]) rfl rfl rfl Q3.out) ?_)|(refine Ad rfl (Aj (B:=[109,118]) rfl rfl rfl Q4.out) ?_))
   go_ret2
   exact Ret.mk hb1
 rw[if_neg h4] at hp
 have q4:(t == [109,118])=false:=by simpa using h4
 have Q4:=lh q4
 clear q4 h4
 by_cases h5:t=[110,111,112]
 · rw[if_pos h5] at hp
   cases hp
   have q5:(t == [110,111,112])=true:=by rw[h5];rfl
   have Q5:=lh q5
   clear q5 h5
   go_in
   go_wp2_with (first|(go_at_call 233;(with_reducible refine (HD.out _).mono ?_);rintro e wz ⟨rfl,hb1⟩)|(go_at_call 181;(with_reducible refine (BC _ _).mono ?_);rintro e wz ⟨rfl,rfl⟩)|(refine Ad rfl (Aj (B:=[46,119,111,114,100]) rfl rfl rfl Q1.out) ?_)|(refine Ad rfl (Aj (B:=[46,115,112,97,99,101]) rfl rfl rfl Q2.out) ?_)|(refine Ad rfl (Aj (B:=[108,105]) rfl rfl rfl Q3.out) ?_)|(refine Ad rfl (Aj (B:=[109,118]) rfl rfl rfl Q4.out) ?_)|(refine Ad rfl (Aj (B:=[110,111,112]) rfl rfl rfl Q5.out) ?_))
   go_ret2
   exact Ret.mk hb1
 rw[if_neg h5] at hp
 have q5:(t == [110,111,112])=false:=by simpa using h5
 have Q5:=lh q5
 clear q5 h5
 by_cases h0:Jw t=0
 · rw[if_pos h0] at hp;cases hp
 rw[if_neg h0] at hp
 cases hp
 generalize Jw t=k at *
 unfold patP
 have K:∀ P:Prop,P∨¬P:=fun P=>Classical.em P
 have F:=BC k
 obtain⟨f,hf⟩:∃ f,A2 (k:Int)=f:=⟨_,rfl⟩
 rw[hf] at F ⊢
 have HF:=lh F
 clear hf F
 by_cases k1:32≤k∧k≤36
 · rw[if_pos k1]
   obtain⟨ka,kb⟩:=k1
   exact Xz4
 rw[if_neg k1]
 by_cases k2:40≤k∧k≤45
 · rw[if_pos k2]
   obtain⟨ka,kb⟩:=k2
   clear k1
   exact Xz4
 rw[if_neg k2]
 have ho:k<32∨(36<k∧k<40)∨45<k:=by omega
 clear k1 k2
 by_cases k3:k=48
 · rw[if_pos k3]
   subst k3
   clear h0 ho
   exact Xz4
 rw[if_neg k3]
 rcases ho with ho|⟨ho,ho2⟩|ho
 all_goals
  by_cases k4:f=1
  · rw[if_pos k4]
    subst k4
    exact Xz4
  rw[if_neg k4]
  by_cases k5:f=2
  · rw[if_pos k5]
    subst k5
    exact Xz4
  rw[if_neg k5]
  by_cases k6:6≤f
  · rw[if_pos k6]
    exact Xz4
  rw[if_neg k6]
  exact Xz4
def arL (a:Ar):List Value:=[.int .i64 a.reg,.int .i64 a.num,.string (bsL a.lab)]
theorem Dp (a:Ar):(arL a).length=3:=rfl
theorem Ge (t:Tk):(tkL t).length=3:=rfl
theorem arL_one (a:Ar):∀ u∈arL a,u.oneCell'=true:=by
 intro u hu
 simp only[arL,List.mem_cons,List.not_mem_nil,or_false] at hu
 rcases hu with rfl|rfl|rfl <;> rfl
theorem info_arg:(Tryz.prog.info? 211).map (fun i=>(i.zero,i.size,i.bytes))=some (some (.agg #[.int .i64 0,.int .i64 0,.string ⟨#[]⟩]),3,32):=by kernel_rfl
theorem AP:(Tryz.prog.info? 322).map (·.size)=some 3:=by kernel_rfl
def OwnAr (base:Nat) (w:World) (v:Value) (l:List Ar):Prop:=w.ownsRow base 211 3 v l.length (l.flatMap arL)
theorem ar_flat (acc:List Ar) (t:Ar):(acc++[t]).flatMap arL=acc.flatMap arL++arL t:=by simp
theorem match_step {t:Tk} {ts:List Tk} {p:UInt8} {ps:List UInt8} {r:List Ar} (h:Di (t :: ts) (p :: ps)=some r):∃ o r',argOf t p=some o∧Di ts ps=some r'∧r=o.toList++r':=by
 rw[Di] at h
 cases ho:argOf t p with
 | none=>rw[ho] at h;cases h
 | some o =>
   rw[ho] at h
   dsimp only at h
   cases hm:Di ts ps with
   | none=>rw[hm] at h;cases h
   | some r' =>
     rw[hm] at h
     cases h
     exact⟨o,r',rfl,rfl,rfl⟩
theorem match_len:∀ {ts:List Tk} {ps:List UInt8} {r:List Ar},Di ts ps=some r→ts.length=ps.length
 | [],[],_,_=>rfl
 | [],_ :: _,_,h=>by cases h
 | _ :: _,[],_,h=>by cases h
 | t :: ts,p :: ps,r,h=>by
   obtain⟨o,r',_,h2,_⟩:=match_step h
   rw[List.length_cons,List.length_cons,match_len h2]
inductive ArgIs (t:Tk) (p:UInt8):Option Ar→Prop
 | reg (r:Nat):p.toNat=114→t.k=1→FP t.t=some r→ArgIs t p (some ⟨r,0,[]⟩)
 | lab:p.toNat=120→t.k=1→Fd t.t=true→ArgIs t p (some ⟨0,0,t.t⟩)
 | num:(p.toNat=110∨p.toNat=120)→t.k=2→numB t.t=true→ArgIs t p (some ⟨0,Gx t.t,[]⟩)
 | sign:p.toNat≠114→p.toNat≠110→p.toNat≠120→t.k=3→t.t=[p]→ArgIs t p none
theorem argIs {t:Tk} {p:UInt8} {o:Option Ar} (h:argOf t p=some o):ArgIs t p o:=by
 unfold argOf at h
 split at h
 · rename_i h1
   split at h
   · rename_i h2
     cases hr:FP t.t with
     | none=>rw[hr] at h;cases h
     | some r=>rw[hr] at h;cases h;exact .reg r h1 h2 hr
   · cases h
 · rename_i h1
   split at h
   · rename_i h2
     split at h
     · rename_i h3
       cases h
       exact .lab h3.1 h3.2.1 h3.2.2
     · split at h
       · rename_i h4
         cases h
         exact .num h2 h4.1 h4.2
       · cases h
   · rename_i h2
     split at h
     · rename_i h3
       cases h
       exact .sign h1 (fun e=>h2 (.inl e)) (fun e=>h2 (.inr e)) h3.1 h3.2
     · cases h
theorem EO (ts:List Tk) (p:List UInt8) (r:List Ar) (va:Value) (w:World) (hm:Di ts p=some r) (ha:RdS tkL 3 w va ts) (hl:ts.length≤1000) (hlen:∀ t∈ts,t.t.length≤1000):Calls Tryz.prog 232 #[va,.string (bsL p)] w
    (fun e w'=>∃ v,e=.returned (.tuple #[v,.bool true])∧OwnAr w.heap.size w' v r∧Below w.heap.size w w'):=by
 obtain⟨i0,hi,iz0,iz1,iz2⟩:=info_parts info_arg
 have hsz:=BI p
 have hpl:=match_len hm
 obtain⟨ao,cap,rfl,hcap,hmax,ha⟩:=ha.open
 unfold maxLen at hmax
 obtain⟨n,hn⟩:∃ n,ts.length=n:=⟨_,rfl⟩
 rw[←hpl] at hsz
 rw[hn] at hsz hl hcap ha ⊢
 have HN:=lh hn;clear hn
 have HPL:=lh hpl;clear hpl
 have HA:=lh ha;clear ha
 have HM:=lh hm;clear hm
 go_in
 go_wp2_with fail
 go_loopw [6,7] (fun v i wr=>∃ (k:Nat) (acc rest:List Ar),k≤n∧i=.int .i64 k∧Di (ts.drop k) (p.drop k)=some rest∧acc++rest=r∧acc.length≤k∧OwnAr w.heap.size wr v acc∧Below w.heap.size w wr) (fun _ i _=>n - (intOf i).toNat)
 case atStart=>exact⟨0,[],r,Nat.zero_le _,rfl,HM.out,rfl,nlr _,World.ownsRow_nil _ _ _ _,bel⟩
 case round =>
  obtain⟨k,acc,rest,hk,rfl,hgo,hacc,hal,hown,hbw⟩:=hrel
  have hbs0:=hbw.size
  have HO:=lh hown;clear hown
  by_cases hlt:k<n
  · obtain⟨t,ht⟩:=A6 (xs:=ts) (k:=k) (by rw[HN.out];exact hlt)
    obtain⟨c,hc⟩:=A6 (xs:=p) (k:=k) (by rw[←HPL.out,HN.out];exact hlt)
    have e1:ts.drop k=t :: ts.drop (k+1):=by rw[List.drop_eq_getElem_cons (AJ ht)];congr 1;rw[List.getElem?_eq_getElem (AJ ht)] at ht;exact Option.some.inj ht
    have e2:p.drop k=c :: p.drop (k+1):=by rw[List.drop_eq_getElem_cons (AJ hc)];congr 1;rw[List.getElem?_eq_getElem (AJ hc)] at hc;exact Option.some.inj hc
    rw[e1,e2] at hgo
    clear e1 e2
    obtain⟨o,r',ho,hgo',hr⟩:=match_step hgo
    have HG:=lh hgo'
    have hrr:(acc++o.toList)++r'=r:=by rw[List.append_assoc,←hr];exact hacc
    have HR:=lh hrr
    have hi:=argIs ho
    have htl:=hlen t (List.mem_of_getElem? ht)
    clear hgo hgo' hr hacc ho hrr
    obtain⟨hxx,b,off,rfl,hbl,hcap2,hmax2,hcell⟩:=HA.out.at (by omega)
    clear hxx
    have hpart:∀ (j:Nat) (u:Value),(tkL t)[j]?=some u→wr.cell? ⟨b,off+k*3+j,none⟩=some u:=fun j u hu=>(hbw.cell (p:=⟨b,off+k*3+j,none⟩) hbl).trans (hcell k t ht j u hu)
    have HP:=lh hpart
    have HC:=lh hc
    clear hpart hcell hc ht hcap2 hmax2
    have L:=Lay.start wr
    cases hi with
    | reg r0 q1 q2 q3 =>
      have b1:((c.toNat:Int) == 114)=true:=by rw[q1];rfl
      have HRG:=lh (fun w=>regOf_any t.t w)
      rw[q3,regV_some] at HRG
      have b2:((t.k:Int) != 1)=false:=by rw[q2];rfl
      clear q1 q2 q3
      go_wp2_with (first|(refine CD (ty:=322) (tkL t) rfl rfl rfl τ322 rfl AP HP.out ?_)|(refine Ad rfl (Ax (l:=p) rfl rfl rfl τ9 HC.out) ?_)|(at_builtin;refine wpList_append_own _ rfl (.tmp 59) (.tmp 62) 207 rfl w.heap.size 211 i0 (.agg #[.int .i64 0,.int .i64 0,.string ⟨#[]⟩]) 3 32 τ207 hi iz0 iz1 iz2 rfl (by decide) _ acc.length (acc.flatMap arL) rfl (World.ownsRow.alloc (Af HO.out L.bel) _) ⟨wz.heap.size,0,none⟩ 1 1 (arL ⟨r0,0,[]⟩) rfl rfl (A8 _ (arL ⟨r0,0,[]⟩) _ _ rfl) (arL_one _) (by unfold maxLen;omega) (by omega) (by rw[World.size_alloc];have:=L.bel.size;have:=hbw.size;omega) ?_;intro v3 w3 hown3 hgrow3 _;have hb3:=A4 ((hbw.trans (L.bel.mono hbw.size)).alloc (by have:=L.bel.size;have:=hbw.size;omega) _) (World.ownsRow.alloc (Af HO.out L.bel) _) hgrow3)|(refine YL ?_)|((first|refine zal (ty:=322) L ([.int .i64 0,.string ⟨#[]⟩,.bool false]) ?_|refine YS ?_);clear L;intro wz L))
      go_roundw
      case rel=>exact⟨k+1,acc++[⟨r0,0,[]⟩],r',by omega,by go_num,HG.out,HR.out,by rw[List.length_append];show acc.length+1≤k+1;omega,by unfold OwnAr;rw[ar_flat,List.length_append];exact hown3,hb3⟩
      case measure=>simp [intOf];omega
    | lab q1 q2 q3 =>
      have b0:((c.toNat:Int) == 114)=false:=by rw[q1];rfl
      have b1:((c.toNat:Int) == 110)=false:=by rw[q1];rfl
      have b2:((c.toNat:Int) == 120)=true:=by rw[q1];rfl
      have b3:((t.k:Int) == 1)=true:=by rw[q2];rfl
      have HNM:=lh (fun w=>GZ t.t w htl)
      rw[q3] at HNM
      clear q1 q2 q3
      go_wp2_with (first|(refine CD (ty:=322) (tkL t) rfl rfl rfl τ322 rfl AP HP.out ?_)|(refine Ad rfl (Ax (l:=p) rfl rfl rfl τ9 HC.out) ?_)|(at_builtin;refine wpList_append_own _ rfl (.tmp 81) (.tmp 85) 207 rfl w.heap.size 211 i0 (.agg #[.int .i64 0,.int .i64 0,.string ⟨#[]⟩]) 3 32 τ207 hi iz0 iz1 iz2 rfl (by decide) _ acc.length (acc.flatMap arL) rfl (World.ownsRow.alloc (Af HO.out L.bel) _) ⟨wz.heap.size,0,none⟩ 1 1 (arL ⟨0,0,t.t⟩) rfl rfl (A8 _ (arL ⟨0,0,t.t⟩) _ _ rfl) (arL_one _) (by unfold maxLen;omega) (by omega) (by rw[World.size_alloc];have:=L.bel.size;have:=hbw.size;omega) ?_;intro v3 w3 hown3 hgrow3 _;have hb3:=A4 ((hbw.trans (L.bel.mono hbw.size)).alloc (by have:=L.bel.size;have:=hbw.size;omega) _) (World.ownsRow.alloc (Af HO.out L.bel) _) hgrow3)|(refine YL ?_)|((first|refine zal (ty:=322) L ([.int .i64 0,.string ⟨#[]⟩,.bool false]) ?_|refine YS ?_);clear L;intro wz L))
      go_roundw
      case rel=>exact⟨k+1,acc++[⟨0,0,t.t⟩],r',by omega,by go_num,HG.out,HR.out,by rw[List.length_append];show acc.length+1≤k+1;omega,by unfold OwnAr;rw[ar_flat,List.length_append];exact hown3,hb3⟩
      case measure=>simp [intOf];omega
    | num q1 q2 q3 =>
      have b0:((c.toNat:Int) == 114)=false:=by rcases q1 with q1|q1 <;> (rw[q1];rfl)
      have b3:((t.k:Int) == 1)=false:=by rw[q2];rfl
      have b4:((t.k:Int) != 2)=false:=by rw[q2];rfl
      have HNM:=lh (fun w=>number_any t.t w q3)
      clear q2 q3
      rcases q1 with q1|q1
      have b1:((c.toNat:Int) == 110)=true:=by rw[q1];rfl
      have b2:((c.toNat:Int) == 120)=false:=by rw[q1];rfl
      rotate_left
      have b1:((c.toNat:Int) == 110)=false:=by rw[q1];rfl
      have b2:((c.toNat:Int) == 120)=true:=by rw[q1];rfl
      rotate_left
      all_goals
       clear q1
       go_wp2_with (first|(refine CD (ty:=322) (tkL t) rfl rfl rfl τ322 rfl AP HP.out ?_)|(refine Ad rfl (Ax (l:=p) rfl rfl rfl τ9 HC.out) ?_)|(go_at_call 269;(with_reducible refine (HNM.out _).mono ?_);rintro e wz ⟨rfl,rfl⟩)|(at_builtin;refine wpList_append_own _ rfl (.tmp 100) (.tmp 103) 207 rfl w.heap.size 211 i0 (.agg #[.int .i64 0,.int .i64 0,.string ⟨#[]⟩]) 3 32 τ207 hi iz0 iz1 iz2 rfl (by decide) _ acc.length (acc.flatMap arL) rfl (World.ownsRow.alloc (Af HO.out L.bel) _) ⟨wz.heap.size,0,none⟩ 1 1 (arL ⟨0,Gx t.t,[]⟩) rfl rfl (A8 _ (arL ⟨0,Gx t.t,[]⟩) _ _ rfl) (arL_one _) (by unfold maxLen;omega) (by omega) (by rw[World.size_alloc];have:=L.bel.size;have:=hbw.size;omega) ?_;intro v3 w3 hown3 hgrow3 _;have hb3:=A4 ((hbw.trans (L.bel.mono hbw.size)).alloc (by have:=L.bel.size;have:=hbw.size;omega) _) (World.ownsRow.alloc (Af HO.out L.bel) _) hgrow3)|(refine YL ?_)|((first|refine zal (ty:=322) L ([.int .i64 0,.string ⟨#[]⟩,.bool false]) ?_|refine YS ?_);clear L;intro wz L))
       go_roundw
       case rel=>exact⟨k+1,acc++[⟨0,Gx t.t,[]⟩],r',by omega,by go_num,HG.out,HR.out,by rw[List.length_append];show acc.length+1≤k+1;omega,by unfold OwnAr;rw[ar_flat,List.length_append];exact hown3,hb3⟩
       case measure=>simp [intOf];omega
    | sign q1 q2 q3 q4 q5 =>
      have b0:((c.toNat:Int) == 114)=false:=by simp;omega
      have b1:((c.toNat:Int) == 110)=false:=by simp;omega
      have b2:((c.toNat:Int) == 120)=false:=by simp;omega
      have b3:((t.k:Int) != 3)=false:=by rw[q4];rfl
      have hs:Cs p k (k+1)=[c]:=by
       unfold Cs
       rw[show k+1 - k=1 by omega,List.take_one,List.head?_drop,HC.out];rfl
      have HS:=lh hs
      have hq:(t.t != [c])=false:=by rw[q5];simp
      have HQ:=lh hq
      clear q1 q2 q3 q4 q5 hs hq
      have hplen:k+1≤p.length:=by have:=AJ HC.out;omega
      go_wp2_with (first|(refine CD (ty:=322) (tkL t) rfl rfl rfl τ322 rfl AP HP.out ?_)|(refine Ad rfl (Ax (l:=p) rfl rfl rfl τ9 HC.out) ?_)|(refine YL ?_)|((first|refine zal (ty:=322) L ([.int .i64 0,.string ⟨#[]⟩,.bool false]) ?_|refine YS ?_);clear L;intro wz L))
      (try simp only[Act.put,q4,s0,s1])
      refine wp_region_quiet_below (by kernel_rfl) (by kernel_rfl) ?_
      repeat (first|(go_big_quiet_want;(first|fail|(refine zlq τ9 L 0 ?_)|(refine zlq τ3 L 0 ?_)|(refine quiet_run (fun _=>CZ (l:=p) (i:=k) (j:=k+1) (m:=[c]) rfl rfl rfl (by first|rfl|exact congrArg (Value.int .i64) (by omega)) τ9 (by omega) hplen HS.out) ?_)|(refine quiet_run (fun _=>Ex rfl rfl rfl HQ.out) ?_));go_big_quiet_on;(try simp only[Act.put,q4,s0,s1]))|go_big_quiet_step (first|fail|fail))
      refine wpQuiet_nil ?_
      intro wz hwz
      replace L:=L.below (Aa hwz)
      clear hwz
      go_wp2_with fail
      go_roundw
      case rel=>exact⟨k+1,acc,r',by omega,by go_num,HG.out,by have:=HR.out;rwa[show (none:Option Ar).toList=[] from rfl,List.append_nil] at this,by omega,Af HO.out L.bel,hbw.trans (L.bel.mono hbw.size)⟩
      case measure=>simp [intOf];omega
  · obtain rfl:k=n:=by omega
    have e1:ts.drop k=[]:=List.drop_eq_nil_of_le (by rw[HN.out];exact nlr _)
    have e2:p.drop k=[]:=List.drop_eq_nil_of_le (by rw[←HPL.out,HN.out];exact nlr _)
    rw[e1,e2] at hgo
    have hrr:acc=r:=by
     cases hgo
     rwa[List.append_nil] at hacc
    have HR:=lh hrr
    clear hrr hgo hacc e1 e2
    go_wp2_with fail
    go_ret2
    exact⟨_,rfl,by rw[←HR.out];exact HO.out,hbw⟩
theorem Lay.join {w0 w1 w2:World} {l l':List Bx} (L0:Lay w0 w1 l) (L1:Lay w1 w2 l'):Lay w0 w2 (l'++l):=by
 refine ⟨L0.bel.trans (L1.bel.mono L0.bel.size),fun x hx=>?_,?_⟩
 · rcases List.mem_append.1 hx with h|h
   · exact⟨(L1.has x h).1,Nat.le_trans L0.bel.size (L1.has x h).2⟩
   · exact⟨(L0.has x h).1.below L1.bel,(L0.has x h).2⟩
 · rw[List.map_append]
   refine List.pairwise_append.2 ⟨L1.dif,L0.dif,fun a ha b hb=>?_⟩
   obtain⟨x,hx,rfl⟩:=List.mem_map.1 ha
   obtain⟨y,hy,rfl⟩:=List.mem_map.1 hb
   have h1:=(L1.has x hx).2
   have h2:=(L0.has y hy).1.lt
   show x.b>y.b
   omega
def tailV (ao:Option Addr) (n cap k size:Nat):Value:=.slice (if cap=k then ao else ao.map (·.add (k*size))) (n - k) (cap - k)
theorem Cp {P:Program} {op:Oper} {a:Act} {w:World} {ty e:TypeId} {x y:Operand} {ao:Option Addr} {n cap k size:Nat} {u:Value} (ho:op.op=.slice ty x (some y) none none) (hx:a.eval x=.slice ao n cap) (hy:a.eval y=.int .i64 (k:Int))
    (hu:P.underlying ty=some (.slice e)) (hs:(P.info? e).map (·.size)=some size) (h1:k≤n) (hv:tailV ao n cap k size=u):(execOp a.eval op).run P w=.ok (.value u) w:=by
 subst hv
 have hsz:(sizeOf e).run P w=.ok size w:=by
  unfold sizeOf typeInfo
  cases hi:P.info? e with
  | none=>rw[hi] at hs;cases hs
  | some i =>
    rw[hi] at hs
    have:i.size=size:=by simpa using hs
    simp [Sem.run_bind,hi,this]
 have hb:(Instr.sliceBounds true n cap (some (.int .i64 (k:Int))) none none).run P w=.ok (k,n,cap) w:=by
  have e1:¬n<k:=by omega
  simp [Instr.sliceBounds,Instr.sliceBound,asIntOf,e1]
 have hr:(Instr.sliceAt ty (.slice ao n cap) (some (.int .i64 (k:Int))) none none).run P w=.ok (tailV ao n cap k size) w:=by
  unfold Instr.sliceAt
  rw[Sem.run_bind,run_underlying hu]
  simp only[Result.andThen_ok]
  unfold Instr.slice
  rw[Sem.run_bind,run_underlying hu]
  simp only[Result.andThen_ok,Sem.run_bind,hb,hsz,Sem.run_pure]
  rfl
 unfold execOp
 simp only[ho,hx,hy,Option.map,Sem.run_bind,hr,Result.andThen_ok,Sem.run_pure]
theorem RdS.tail {α:Type} {enc:α→List Value} {size n cap:Nat} {w:World} {ao:Option Addr} {xs:List α} (h:RdS enc size w (.slice ao n cap) xs) (k:Nat) (hk:k≤xs.length):RdS enc size w (tailV ao n cap k size) (xs.drop k):=by
 obtain⟨ao',cap',hv,h1,h2,h3⟩:=h
 injection hv with e1 e2 e3
 subst e1 e3 e2
 refine ⟨_,cap - k,by unfold tailV;rw[List.length_drop],by rw[List.length_drop];omega,by omega,?_⟩
 by_cases hn:xs.length=k
 · exact .inl (List.drop_eq_nil_of_le (by omega))
 · rcases h3 with h3|⟨b,off,ha,hlt,hc⟩
   · rw[h3] at hk hn;simp at hk hn;omega
   · subst ha
     refine .inr ⟨b,off+k*size,?_,hlt,fun i x hx j u hu=>?_⟩
     · rw[if_neg (by omega)]
       unfold Addr.add
       split <;> simp_all
     · rw[List.getElem?_drop] at hx
       have:=hc (k+i) x hx j u hu
       rwa[Nat.add_mul,←Nat.add_assoc] at this
theorem Er (l:List UInt8):∀ (k i:Nat) (g:Bool) (acc:List Tk),i≤l.length→acc.length≤i→(∀ t∈acc,t.t.length≤l.length)→(tkGo l k i g acc).length≤l.length∧∀ t∈tkGo l k i g acc,t.t.length≤l.length
 | 0,i,g,acc,hi,ha,hs=>⟨Nat.le_trans ha hi,hs⟩
 | k+1,i,g,acc,hi,ha,hs=>by
   have hsub:∀ a b,(Cs l a b).length≤l.length:=fun a b=>by unfold Cs;rw[List.length_take,List.length_drop];omega
   rw[tkGo]
   cases hc:l[i]? with
   | none=>exact⟨Nat.le_trans ha hi,hs⟩
   | some c =>
     have hlt:=AJ hc
     have hadd:∀ t:Tk,t.t.length≤l.length→∀ t'∈acc++[t],t'.t.length≤l.length:=fun t ht t' ht'=>by
      rcases List.mem_append.1 ht' with h|h
      · exact hs t' h
      · rw[List.mem_singleton.1 h];exact ht
     have hlen:∀ t:Tk,(acc++[t]).length=acc.length+1:=fun t=>by simp
     dsimp only
     split
     · exact Er l k (i+1) true acc (by omega) (by omega) hs
     · split
       · rename_i hle
         have he:=Gr (k:=l.length) (e:=i) (l:=l) hi
         obtain⟨k',h1,h2⟩:=JG (k:=l.length) (e:=i) (by omega) hc (by unfold G6;rw[hle];rfl)
         have he':=Gr (k:=k') (e:=i+1) (l:=l) (by omega)
         exact Er l k _ false _ he.2 (by rw[hlen];omega) (hadd _ (hsub _ _))
       · split
         · have he:=Gr (k:=l.length) (e:=i+1) (l:=l) (by omega)
           exact Er l k _ false _ he.2 (by rw[hlen];omega) (hadd _ (hsub _ _))
         · exact Er l k _ false _ (by omega) (by rw[hlen];omega) (hadd _ (hsub _ _))
theorem Dx (l:List UInt8):(FF l).length≤l.length∧∀ t∈FF l,t.t.length≤l.length:=Er l l.length 0 true [] (Nat.zero_le _) (nlr _) (fun t ht=>by cases ht)
/-! ## Statements as cells -/
def stL (st:St) (v:Value):List Value:=[.string (bsL st.w),.int .i64 st.op,v,.int .i64 st.line,.int .i64 st.at_,.int .i64 st.size]
def st0:St:=⟨[],0,[],0,0,0⟩
theorem BB (st:St) (v:Value) (hv:v.oneCell'=true):∀ u∈stL st v,u.oneCell'=true:=by
 intro u hu
 simp only[stL,List.mem_cons,List.not_mem_nil,or_false] at hu
 rcases hu with rfl|rfl|rfl|rfl|rfl|rfl <;> first|rfl|exact hv
theorem Az:(Tryz.prog.info? 209).map (·.size)=some 6:=by kernel_rfl
theorem GN {t:Tk} {rest:List Tk} {st:St} (h:CY (t :: rest)=some st):t.k=1∧F3 t.t=true∧(∀ r rs,rest=r :: rs→r.g=true) ∧
    ∃ p ar,patOf t.t=some p∧Di rest p=some ar∧st=⟨t.t,Jw t.t,ar,0,0,if t.t=[108,105] then 2 else 1⟩:=by
 unfold CY at h
 dsimp only at h
 by_cases h1:t.k≠1∨F3 t.t=false
 · rw[if_pos h1] at h;cases h
 · rw[if_neg h1] at h
   by_cases h2:gapB rest=false
   · rw[if_pos h2] at h;cases h
   · rw[if_neg h2] at h
     cases hp:patOf t.t with
     | none=>rw[hp] at h;cases h
     | some p =>
       rw[hp] at h
       dsimp only at h
       cases hm:Di rest p with
       | none=>rw[hm] at h;cases h
       | some ar =>
         rw[hm] at h
         refine ⟨Classical.byContradiction fun e=>h1 (.inl e),?_,?_,p,ar,rfl,hm,?_⟩
         · cases hh:F3 t.t with
           | true=>rfl
           | false=>exact absurd (.inr hh) h1
         · rintro r rs rfl
           cases hg:r.g with
           | true=>rfl
           | false=>exact absurd hg h2
         · exact (Option.some.inj h).symm
end Go.Proofs.YtnmpfmapncicmaaGreat
