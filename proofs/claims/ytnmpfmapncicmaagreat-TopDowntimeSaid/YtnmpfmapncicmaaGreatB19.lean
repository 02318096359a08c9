/-
  Texts joined: TpAt. No law is proved here.
-/
import Derived.Test.YtnmpfmapncicmaaGreatB18
namespace Go.Proofs.YtnmpfmapncicmaaGreat
set_option linter.all false
set_option maxRecDepth 100000
set_option maxHeartbeats 40000000
open Go.RowKit
theorem Xz51 {P:Prop} (h:P:=by
  go_in
  go_wp2
  go_ret
  exact Same.mk' (congrArg Value.bool (by first|exact decide_eq_true (by omega)|exact decide_eq_false (by omega)|rfl))):P:=h
theorem letter_any (c:UInt8) (w:World):Calls Tryz.prog 266 #[.int .u8 c.toNat] w (Same w (.bool (Hb c))):=by
 unfold Hb
 by_cases h1:97≤c.toNat
 · by_cases h2:c.toNat≤122
   · rw[decide_eq_true h1,decide_eq_true h2,Bool.and_true]
     exact Xz51
   · rw[decide_eq_true h1,decide_eq_false h2,Bool.and_false]
     exact Xz51
 · rw[decide_eq_false h1,Bool.false_and]
   go_in
   go_wp2
   go_ret
   exact Same.mk
theorem digit_any (c:UInt8) (w:World):Calls Tryz.prog 267 #[.int .u8 c.toNat] w (Same w (.bool (FY c))):=by
 unfold FY
 by_cases h1:48≤c.toNat
 · by_cases h2:c.toNat≤57
   · rw[decide_eq_true h1,decide_eq_true h2,Bool.and_true]
     exact Xz51
   · rw[decide_eq_true h1,decide_eq_false h2,Bool.and_false]
     exact Xz51
 · rw[decide_eq_false h1,Bool.false_and]
   go_in
   go_wp2
   go_ret
   exact Same.mk
def tkL (t:Tk):List Value:=[.int .i64 t.k,.string (bsL t.t),.bool t.g]
theorem GL (t:Tk):∀ u∈tkL t,u.oneCell'=true:=by
 intro u hu
 simp only[tkL,List.mem_cons,List.not_mem_nil,or_false] at hu
 rcases hu with rfl|rfl|rfl <;> rfl
theorem info_tok:(Tryz.prog.info? 322).map (fun i=>(i.zero,i.size,i.bytes))=some (some (.agg #[.int .i64 0,.string ⟨#[]⟩,.bool false]),3,32):=by kernel_rfl
def OwnTk (base:Nat) (w:World) (v:Value) (l:List Tk):Prop:=w.ownsRow base 322 3 v l.length (l.flatMap tkL)
theorem JG {l:List UInt8} {k e:Nat} {c:UInt8} (hk:l.length - e≤k) (hc:l[e]?=some c) (hw:G6 c=true):∃ k',l.length - (e+1)≤k'∧Fu l k e=Fu l k' (e+1):=by
 have:=AJ hc
 obtain⟨k',rfl⟩:∃ k',k=k'+1:=⟨k - 1,by omega⟩
 exact⟨k',by omega,by rw[Fu,hc];simp [hw]⟩
theorem endW_stop {l:List UInt8} {k e:Nat} {c:UInt8} (hc:l[e]?=some c) (hw:G6 c=false):Fu l k e=e:=by
 cases k with
 | zero=>rfl
 | succ k=>rw[Fu,hc];simp [hw]
theorem endW_end {l:List UInt8} {k e:Nat} (h:l.length≤e):Fu l k e=e:=by
 cases k with
 | zero=>rfl
 | succ k=>rw[Fu,List.getElem?_eq_none h]
theorem Gr {l:List UInt8}:∀ {k e:Nat},e≤l.length→e≤Fu l k e∧Fu l k e≤l.length
 | 0,e,h=>⟨nlr _,h⟩
 | k+1,e,h=>by
   rw[Fu]
   cases hc:l[e]? with
   | none=>exact⟨nlr _,h⟩
   | some c =>
     have:=AJ hc
     dsimp only
     split
     · have:=Gr (k:=k) (e:=e+1) (l:=l) (by omega)
       omega
     · exact⟨nlr _,h⟩
theorem J8 (acc:List Tk) (t:Tk):(acc++[t]).flatMap tkL=acc.flatMap tkL++tkL t:=by simp
theorem BY {c:UInt8} {b:Bool} (h:Hb c=b) (w:World):Calls Tryz.prog 266 #[.int .u8 c.toNat] w (Same w (.bool b)):=by rw[←h];exact letter_any c w
theorem Dm {c:UInt8} {b:Bool} (h:FY c=b) (w:World):Calls Tryz.prog 267 #[.int .u8 c.toNat] w (Same w (.bool b)):=by rw[←h];exact digit_any c w
theorem Xz1 {P:Prop} (h:P:=by
  go_wp2_with (first|(refine Ad rfl (Ax (l:=l) rfl rfl rfl τ9 HC.out) ?_)|(refine A1 (by rfl) (Ax (l:=l) rfl rfl rfl τ9 HC.out) ?_)|(go_at_call 266;(with_reducible refine (BY hle _).mono ?_);rintro e wz ⟨rfl,rfl⟩)|(go_at_call 267;(with_reducible refine (Dm hdc _).mono ?_);rintro e wz ⟨rfl,rfl⟩))
  go_loopw [6] (fun i wq=>∃ e k':Nat,j≤e∧e≤n∧i=.int .i64 e∧n - e≤k'∧Fu l k' e=E∧wq=wr) (fun i _=>n - (intOf i).toNat)
  case atStart=>exact⟨j+1,n,by omega,by omega,by go_num,by omega,by rw[←HE.out,HN.out],rfl⟩
  case round =>
   obtain⟨e,k',he0,he1,rfl,hk',hE',rfl⟩:=hrel
   by_cases het:e<n
   · obtain⟨d,hd⟩:=A6 (xs:=l) (k:=e) (by rw[HN.out];exact het)
     have HD:=lh hd
     have hgo':=fun h=>JG (k:=k') (e:=e) (by rw[HN.out];exact hk') hd h
     rw[HN.out] at hgo'
     have hst:=fun h=>endW_stop (k:=k') (e:=e) hd h
     rw[hE'] at hgo' hst
     have HGO:=lh hgo';have HST:=lh hst
     clear hd hgo' hst hE'
     cases hla:Hb d with
     | true =>
       go_wp2_with (first|(refine Ad rfl (Ax (l:=l) rfl rfl rfl τ9 HD.out) ?_)|(refine A1 (by rfl) (Ax (l:=l) rfl rfl rfl τ9 HD.out) ?_)|(go_at_call 266;(with_reducible refine (BY hla _).mono ?_);rintro e wz ⟨rfl,rfl⟩))
       go_roundw
       case rel=>obtain⟨k2,h1,h2⟩:=HGO.out (by unfold G6;rw[hla];rfl);exact⟨e+1,k2,by omega,by omega,by go_num,h1,h2.symm,trivial⟩
       case measure=>simp [intOf];omega
     | false =>
       cases hda:FY d with
       | true =>
         go_wp2_with (first|(refine Ad rfl (Ax (l:=l) rfl rfl rfl τ9 HD.out) ?_)|(refine A1 (by rfl) (Ax (l:=l) rfl rfl rfl τ9 HD.out) ?_)|(go_at_call 266;(with_reducible refine (BY hla _).mono ?_);rintro e wz ⟨rfl,rfl⟩)|(go_at_call 267;(with_reducible refine (Dm hda _).mono ?_);rintro e wz ⟨rfl,rfl⟩))
         go_roundw
         case rel=>obtain⟨k2,h1,h2⟩:=HGO.out (by unfold G6;rw[hla,hda];rfl);exact⟨e+1,k2,by omega,by omega,by go_num,h1,h2.symm,trivial⟩
         case measure=>simp [intOf];omega
       | false =>
         by_cases h95:d.toNat=95
         · have hb5:((d.toNat:Int) == 95)=true:=by rw[h95];rfl
           have HWR:G6 d=true:=by unfold G6;rw[hla,hda,h95];rfl
           clear h95
           go_wp2_with (first|(refine Ad rfl (Ax (l:=l) rfl rfl rfl τ9 HD.out) ?_)|(refine A1 (by rfl) (Ax (l:=l) rfl rfl rfl τ9 HD.out) ?_)|(go_at_call 266;(with_reducible refine (BY hla _).mono ?_);rintro e wz ⟨rfl,rfl⟩)|(go_at_call 267;(with_reducible refine (Dm hda _).mono ?_);rintro e wz ⟨rfl,rfl⟩))
           go_roundw
           case rel=>obtain⟨k2,h1,h2⟩:=HGO.out HWR;exact⟨e+1,k2,by omega,by omega,by go_num,h1,h2.symm,trivial⟩
           case measure=>simp [intOf];omega
         · have hb5:((d.toNat:Int) == 95)=false:=by simp;omega
           have HWR:e=E:=(HST.out (by unfold G6;rw[hla,hda,Bool.false_or,Bool.false_or,beq_eq_false_iff_ne];exact h95)).symm
           clear h95
           subst HWR
           go_wp2_with (first|(refine Ad rfl (Ax (l:=l) rfl rfl rfl τ9 HD.out) ?_)|(refine A1 (by rfl) (Ax (l:=l) rfl rfl rfl τ9 HD.out) ?_)|(go_at_call 266;(with_reducible refine (BY hla _).mono ?_);rintro e wz ⟨rfl,rfl⟩)|(go_at_call 267;(with_reducible refine (Dm hda _).mono ?_);rintro e wz ⟨rfl,rfl⟩)|(refine Ad rfl (CZ (l:=l) (i:=j) (j:=e) (m:=Cs l j e) rfl rfl rfl rfl τ9 (by omega) (by rw[HN.out];omega) rfl) ?_)|(at_builtin;refine wpList_append_own _ rfl (.tmp 91) (.tmp 98) 318 rfl w.heap.size 322 i0 (.agg #[.int .i64 0,.string ⟨#[]⟩,.bool false]) 3 32 τ318 hi iz0 iz1 iz2 rfl (by decide) _ acc.length (acc.flatMap tkL) rfl (World.ownsRow.alloc HO.out _) ⟨wr.heap.size,0,none⟩ 1 1 (tkL ⟨2,Cs l j e,g⟩) rfl rfl (A8 _ (tkL ⟨2,Cs l j e,g⟩) _ _ (by first|rfl|simp only[sizes])) (GL _) (by unfold maxLen;omega) (by omega) (by first|exact nlr _|omega|(simp only[sizes];done)|(simp only[sizes];omega)) ?_;intro v3 w3 hown3 hgrow3 _;have hb3:=A4 bel (World.ownsRow.alloc HO.out _) hgrow3;have hz3:=hb3.size))
           go_roundw
           case rel=>exact⟨k1,e,false,acc++[⟨2,Cs l j e,g⟩],by omega,rfl,rfl,by omega,HG.out,by rw[List.length_append];show acc.length+1≤e;omega,by unfold OwnTk;rw[J8,List.length_append];exact hown3,hb3⟩
           case measure=>simp [intOf];omega
   · have HWR:e=E:=(endW_end (k:=k') (by rw[HN.out];omega)).symm.trans hE'
     subst HWR
     obtain rfl:e=n:=by omega
     go_wp2_with (first|(refine Ad rfl (CZ (l:=l) (i:=j) (j:=e) (m:=Cs l j e) rfl rfl rfl rfl τ9 (by omega) (by rw[HN.out];omega) rfl) ?_)|(at_builtin;refine wpList_append_own _ rfl (.tmp 91) (.tmp 98) 318 rfl w.heap.size 322 i0 (.agg #[.int .i64 0,.string ⟨#[]⟩,.bool false]) 3 32 τ318 hi iz0 iz1 iz2 rfl (by decide) _ acc.length (acc.flatMap tkL) rfl (World.ownsRow.alloc HO.out _) ⟨wr.heap.size,0,none⟩ 1 1 (tkL ⟨2,Cs l j e,g⟩) rfl rfl (A8 _ (tkL ⟨2,Cs l j e,g⟩) _ _ (by first|rfl|simp only[sizes])) (GL _) (by unfold maxLen;omega) (by omega) (by first|exact nlr _|omega|(simp only[sizes];done)|(simp only[sizes];omega)) ?_;intro v3 w3 hown3 hgrow3 _;have hb3:=A4 bel (World.ownsRow.alloc HO.out _) hgrow3;have hz3:=hb3.size))
     go_roundw
     case rel=>exact⟨k1,e,false,acc++[⟨2,Cs l j e,g⟩],by omega,rfl,rfl,by omega,HG.out,by rw[List.length_append];show acc.length+1≤e;omega,by unfold OwnTk;rw[J8,List.length_append];exact hown3,hb3⟩
     case measure=>simp [intOf];omega):P:=h
theorem Xz71 {P:Prop} (h:P:=by
  go_roundw
  case rel=>exact⟨k1,e,false,acc++[⟨1,Cs l j e,g⟩],by omega,rfl,rfl,by omega,HG.out,by rw[List.length_append];show acc.length+1≤e;omega,by unfold OwnTk;rw[J8,List.length_append];exact hown3,hb3⟩
  case measure=>simp [intOf];omega):P:=h
theorem Dy (l:List UInt8) (w:World) (hl:l.length≤1000) (hc:∀ c∈l,J5 c=true):Calls Tryz.prog 229 #[.string (bsL l)] w
    (fun e w'=>∃ v,e=.returned (.tuple #[v,.bool true])∧OwnTk w.heap.size w' v (FF l)∧Below w.heap.size w w'):=by
 obtain⟨i0,hi,iz0,iz1,iz2⟩:=info_parts info_tok
 have hsz:=BI l
 obtain⟨n,hn⟩:∃ n,l.length=n:=⟨_,rfl⟩
 rw[hn] at hsz hl
 have HN:=lh hn;clear hn
 go_in
 go_wp2_with fail
 go_loopw [4,5,6] (fun v gp i wr=>∃ (k j:Nat) (g:Bool) (acc:List Tk),j≤n∧i=.int .i64 j∧gp=.bool g∧n - j≤k∧tkGo l k j g acc=FF l∧acc.length≤j∧OwnTk w.heap.size wr v acc∧Below w.heap.size w wr) (fun _ _ i _=>n - (intOf i).toNat)
 case atStart=>exact⟨l.length,0,true,[],Nat.zero_le _,rfl,rfl,by rw[HN.out];exact nlr _,rfl,nlr _,World.ownsRow_nil _ _ _ _,bel⟩
 case round =>
  obtain⟨k,j,g,acc,hj,rfl,rfl,hk,hgo,hacc,hown,hbw⟩:=hrel
  have hbs0:=hbw.size
  have HO:=lh hown;clear hown
  by_cases hlt:j<n
  · obtain⟨k1,rfl⟩:∃ k1,k=k1+1:=⟨k - 1,by omega⟩
    obtain⟨c,hcj⟩:=A6 (xs:=l) (k:=j) (by rw[HN.out];exact hlt)
    have hch:=hc c (List.mem_of_getElem? hcj)
    rw[tkGo,hcj] at hgo
    dsimp only at hgo
    have HC:=lh hcj;clear hcj
    by_cases h32:c.toNat=32
    · rw[if_pos h32] at hgo
      have hb:((c.toNat:Int) == 32)=true:=by rw[h32];rfl
      have HG:=lh hgo;clear hgo hch h32
      go_wp2_with (first|(refine Ad rfl (Ax (l:=l) rfl rfl rfl τ9 HC.out) ?_)|(refine A1 (by rfl) (Ax (l:=l) rfl rfl rfl τ9 HC.out) ?_))
      go_roundw
      case rel=>exact⟨k1,j+1,true,acc,by omega,by go_num,rfl,by omega,HG.out,by omega,HO.out,hbw⟩
      case measure=>simp [intOf];omega
    rw[if_neg h32] at hgo
    have hb:((c.toNat:Int) == 32)=false:=by simp;omega
    clear h32
    cases hle:Hb c with
    | true =>
      rw[hle,if_pos rfl] at hgo
      obtain⟨E,hE0⟩:∃ E,Fu l l.length j=E:=⟨_,rfl⟩
      rw[hE0] at hgo
      have HG:=lh hgo;clear hgo hch
      have hjE:j<E:=by
       obtain⟨k',h1,h2⟩:=JG (k:=l.length) (e:=j) (by omega) HC.out (by unfold G6;rw[hle];rfl)
       have:=(Gr (k:=k') (e:=j+1) (l:=l) (by rw[HN.out];omega)).1
       rw[←h2,hE0] at this
       omega
      have HE:=lh hE0;clear hE0
      go_wp2_with (first|(refine Ad rfl (Ax (l:=l) rfl rfl rfl τ9 HC.out) ?_)|(refine A1 (by rfl) (Ax (l:=l) rfl rfl rfl τ9 HC.out) ?_)|(go_at_call 266;(with_reducible refine (BY hle _).mono ?_);rintro e wz ⟨rfl,rfl⟩))
      go_loopw [6] (fun i wq=>∃ e k':Nat,j≤e∧e≤n∧i=.int .i64 e∧n - e≤k'∧Fu l k' e=E∧wq=wr) (fun i _=>n - (intOf i).toNat)
      case atStart=>exact⟨j,n,nlr _,hj,rfl,by omega,by rw[←HE.out,HN.out],rfl⟩
      case round =>
       obtain⟨e,k',he0,he1,rfl,hk',hE',rfl⟩:=hrel
       by_cases het:e<n
       · obtain⟨d,hd⟩:=A6 (xs:=l) (k:=e) (by rw[HN.out];exact het)
         have HD:=lh hd
         have hgo':=fun h=>JG (k:=k') (e:=e) (by rw[HN.out];exact hk') hd h
         rw[HN.out] at hgo'
         have hst:=fun h=>endW_stop (k:=k') (e:=e) hd h
         rw[hE'] at hgo' hst
         have HGO:=lh hgo';have HST:=lh hst
         clear hd hgo' hst hE'
         cases hla:Hb d with
         | true =>
           go_wp2_with (first|(refine Ad rfl (Ax (l:=l) rfl rfl rfl τ9 HD.out) ?_)|(refine A1 (by rfl) (Ax (l:=l) rfl rfl rfl τ9 HD.out) ?_)|(go_at_call 266;(with_reducible refine (BY hla _).mono ?_);rintro e wz ⟨rfl,rfl⟩))
           go_roundw
           case rel=>obtain⟨k2,h1,h2⟩:=HGO.out (by unfold G6;rw[hla];rfl);exact⟨e+1,k2,by omega,by omega,by go_num,h1,h2.symm,trivial⟩
           case measure=>simp [intOf];omega
         | false =>
           cases hda:FY d with
           | true =>
             go_wp2_with (first|(refine Ad rfl (Ax (l:=l) rfl rfl rfl τ9 HD.out) ?_)|(refine A1 (by rfl) (Ax (l:=l) rfl rfl rfl τ9 HD.out) ?_)|(go_at_call 266;(with_reducible refine (BY hla _).mono ?_);rintro e wz ⟨rfl,rfl⟩)|(go_at_call 267;(with_reducible refine (Dm hda _).mono ?_);rintro e wz ⟨rfl,rfl⟩))
             go_roundw
             case rel=>obtain⟨k2,h1,h2⟩:=HGO.out (by unfold G6;rw[hla,hda];rfl);exact⟨e+1,k2,by omega,by omega,by go_num,h1,h2.symm,trivial⟩
             case measure=>simp [intOf];omega
           | false =>
             by_cases h95:d.toNat=95
             · have hb5:((d.toNat:Int) == 95)=true:=by rw[h95];rfl
               have HWR:G6 d=true:=by unfold G6;rw[hla,hda,h95];rfl
               clear h95
               go_wp2_with (first|(refine Ad rfl (Ax (l:=l) rfl rfl rfl τ9 HD.out) ?_)|(refine A1 (by rfl) (Ax (l:=l) rfl rfl rfl τ9 HD.out) ?_)|(go_at_call 266;(with_reducible refine (BY hla _).mono ?_);rintro e wz ⟨rfl,rfl⟩)|(go_at_call 267;(with_reducible refine (Dm hda _).mono ?_);rintro e wz ⟨rfl,rfl⟩))
               go_roundw
               case rel=>obtain⟨k2,h1,h2⟩:=HGO.out HWR;exact⟨e+1,k2,by omega,by omega,by go_num,h1,h2.symm,trivial⟩
               case measure=>simp [intOf];omega
             · have hb5:((d.toNat:Int) == 95)=false:=by simp;omega
               have HWR:e=E:=(HST.out (by unfold G6;rw[hla,hda,Bool.false_or,Bool.false_or,beq_eq_false_iff_ne];exact h95)).symm
               clear h95
               subst HWR
               go_wp2_with (first|(refine Ad rfl (Ax (l:=l) rfl rfl rfl τ9 HD.out) ?_)|(refine A1 (by rfl) (Ax (l:=l) rfl rfl rfl τ9 HD.out) ?_)|(go_at_call 266;(with_reducible refine (BY hla _).mono ?_);rintro e wz ⟨rfl,rfl⟩)|(go_at_call 267;(with_reducible refine (Dm hda _).mono ?_);rintro e wz ⟨rfl,rfl⟩)|(refine Ad rfl (CZ (l:=l) (i:=j) (j:=e) (m:=Cs l j e) rfl rfl rfl rfl τ9 (by omega) (by rw[HN.out];omega) rfl) ?_)|(at_builtin;refine wpList_append_own _ rfl (.tmp 49) (.tmp 56) 318 rfl w.heap.size 322 i0 (.agg #[.int .i64 0,.string ⟨#[]⟩,.bool false]) 3 32 τ318 hi iz0 iz1 iz2 rfl (by decide) _ acc.length (acc.flatMap tkL) rfl (World.ownsRow.alloc HO.out _) ⟨wr.heap.size,0,none⟩ 1 1 (tkL ⟨1,Cs l j e,g⟩) rfl rfl (A8 _ (tkL ⟨1,Cs l j e,g⟩) _ _ (by first|rfl|simp only[sizes])) (GL _) (by unfold maxLen;omega) (by omega) (by first|exact nlr _|omega|(simp only[sizes];done)|(simp only[sizes];omega)) ?_;intro v3 w3 hown3 hgrow3 _;have hb3:=A4 bel (World.ownsRow.alloc HO.out _) hgrow3;have hz3:=hb3.size))
               exact Xz71
       · have HWR:e=E:=(endW_end (k:=k') (by rw[HN.out];omega)).symm.trans hE'
         subst HWR
         obtain rfl:e=n:=by omega
         go_wp2_with (first|(refine Ad rfl (CZ (l:=l) (i:=j) (j:=e) (m:=Cs l j e) rfl rfl rfl rfl τ9 (by omega) (by rw[HN.out];omega) rfl) ?_)|(at_builtin;refine wpList_append_own _ rfl (.tmp 49) (.tmp 56) 318 rfl w.heap.size 322 i0 (.agg #[.int .i64 0,.string ⟨#[]⟩,.bool false]) 3 32 τ318 hi iz0 iz1 iz2 rfl (by decide) _ acc.length (acc.flatMap tkL) rfl (World.ownsRow.alloc HO.out _) ⟨wr.heap.size,0,none⟩ 1 1 (tkL ⟨1,Cs l j e,g⟩) rfl rfl (A8 _ (tkL ⟨1,Cs l j e,g⟩) _ _ (by first|rfl|simp only[sizes])) (GL _) (by unfold maxLen;omega) (by omega) (by first|exact nlr _|omega|(simp only[sizes];done)|(simp only[sizes];omega)) ?_;intro v3 w3 hown3 hgrow3 _;have hb3:=A4 bel (World.ownsRow.alloc HO.out _) hgrow3;have hz3:=hb3.size))
         exact Xz71
    | false =>
      rw[hle,if_neg Bool.false_ne_true] at hgo
      by_cases hnm:(FY c || c.toNat == 45)=true
      · rw[if_pos hnm] at hgo
        obtain⟨E,hE0⟩:∃ E,Fu l l.length (j+1)=E:=⟨_,rfl⟩
        rw[hE0] at hgo
        have HG:=lh hgo;clear hgo hch
        have hjE:j<E:=by
         have:=(Gr (k:=l.length) (e:=j+1) (l:=l) (by rw[HN.out];omega)).1
         rw[hE0] at this
         omega
        have HE:=lh hE0;clear hE0
        cases hdc:FY c with
        | true =>
          clear hnm
          exact Xz1
        | false =>
          have h45:c.toNat=45:=by rw[hdc,Bool.false_or,beq_iff_eq] at hnm;exact hnm
          have hb4:((c.toNat:Int) == 45)=true:=by rw[h45];rfl
          clear hnm h45
          exact Xz1
      · rw[if_neg hnm] at hgo
        have hdc:FY c=false:=by
         cases h:FY c with
         | true=>rw[h] at hnm;exact absurd rfl hnm
         | false=>rfl
        have hn45:c.toNat≠45:=by rw[hdc,Bool.false_or,beq_iff_eq] at hnm;exact hnm
        have hb4:((c.toNat:Int) == 45)=false:=by simp;omega
        have hsg:sgnC c=true:=by
         unfold J5 at hch
         have e32:(c.toNat == 32)=false:=by rw[beq_eq_false_iff_ne];intro h;rw[h] at hb;cases hb
         have e45:(c.toNat == 45)=false:=by rw[beq_eq_false_iff_ne];exact hn45
         rw[hle,hdc,e32,e45] at hch
         exact hch
        have HG:=lh hgo;clear hgo hch hnm hn45
        have hsg':c.toNat=44∨c.toNat=58∨c.toNat=40∨c.toNat=41∨c.toNat=46:=by unfold sgnC at hsg;simpa [or_assoc] using hsg
        clear hsg
        rcases hsg' with h|h|h|h|h
        have q44:((c.toNat:Int) == 44)=true:=by rw[h];rfl
        have q58:((c.toNat:Int) == 58)=false:=by rw[h];rfl
        have q40:((c.toNat:Int) == 40)=false:=by rw[h];rfl
        have q41:((c.toNat:Int) == 41)=false:=by rw[h];rfl
        have q46:((c.toNat:Int) == 46)=false:=by rw[h];rfl
        rotate_left
        have q44:((c.toNat:Int) == 44)=false:=by rw[h];rfl
        have q58:((c.toNat:Int) == 58)=true:=by rw[h];rfl
        have q40:((c.toNat:Int) == 40)=false:=by rw[h];rfl
        have q41:((c.toNat:Int) == 41)=false:=by rw[h];rfl
        have q46:((c.toNat:Int) == 46)=false:=by rw[h];rfl
        rotate_left
        have q44:((c.toNat:Int) == 44)=false:=by rw[h];rfl
        have q58:((c.toNat:Int) == 58)=false:=by rw[h];rfl
        have q40:((c.toNat:Int) == 40)=true:=by rw[h];rfl
        have q41:((c.toNat:Int) == 41)=false:=by rw[h];rfl
        have q46:((c.toNat:Int) == 46)=false:=by rw[h];rfl
        rotate_left
        have q44:((c.toNat:Int) == 44)=false:=by rw[h];rfl
        have q58:((c.toNat:Int) == 58)=false:=by rw[h];rfl
        have q40:((c.toNat:Int) == 40)=false:=by rw[h];rfl
        have q41:((c.toNat:Int) == 41)=true:=by rw[h];rfl
        have q46:((c.toNat:Int) == 46)=false:=by rw[h];rfl
        rotate_left
        have q44:((c.toNat:Int) == 44)=false:=by rw[h];rfl
        have q58:((c.toNat:Int) == 58)=false:=by rw[h];rfl
        have q40:((c.toNat:Int) == 40)=false:=by rw[h];rfl
        have q41:((c.toNat:Int) == 41)=false:=by rw[h];rfl
        have q46:((c.toNat:Int) == 46)=true:=by rw[h];rfl
        rotate_left
        all_goals
         clear h
         go_wp2_with (first|(refine Ad rfl (Ax (l:=l) rfl rfl rfl τ9 HC.out) ?_)|(refine A1 (by rfl) (Ax (l:=l) rfl rfl rfl τ9 HC.out) ?_)|(go_at_call 266;(with_reducible refine (BY hle _).mono ?_);rintro e wz ⟨rfl,rfl⟩)|(go_at_call 267;(with_reducible refine (Dm hdc _).mono ?_);rintro e wz ⟨rfl,rfl⟩)|(refine Ad rfl (CZ (l:=l) (i:=j) (j:=j+1) (m:=Cs l j (j+1)) rfl rfl rfl rfl τ9 (by omega) (by rw[HN.out];omega) rfl) ?_)|(at_builtin;refine wpList_append_own _ rfl (.tmp 121) (.tmp 128) 318 rfl w.heap.size 322 i0 (.agg #[.int .i64 0,.string ⟨#[]⟩,.bool false]) 3 32 τ318 hi iz0 iz1 iz2 rfl (by decide) _ acc.length (acc.flatMap tkL) rfl (World.ownsRow.alloc HO.out _) ⟨wr.heap.size,0,none⟩ 1 1 (tkL ⟨3,Cs l j (j+1),g⟩) rfl rfl (A8 _ (tkL ⟨3,Cs l j (j+1),g⟩) _ _ (by first|rfl|simp only[sizes])) (GL _) (by unfold maxLen;omega) (by omega) (by first|exact nlr _|omega|(simp only[sizes];done)|(simp only[sizes];omega)) ?_;intro v3 w3 hown3 hgrow3 _;have hb3:=A4 bel (World.ownsRow.alloc HO.out _) hgrow3;have hz3:=hb3.size))
         go_roundw
         case rel=>exact⟨k1,j+1,false,acc++[⟨3,Cs l j (j+1),g⟩],by omega,by go_num,rfl,by omega,HG.out,by rw[List.length_append];show acc.length+1≤j+1;omega,by unfold OwnTk;rw[J8,List.length_append];exact hown3,hb3⟩
         case measure=>simp [intOf];omega
  · obtain rfl:j=n:=by omega
    have hall:acc=FF l:=by
     cases k with
     | zero=>exact hgo
     | succ k=>rw[tkGo,List.getElem?_eq_none (by rw[HN.out];omega)] at hgo;exact hgo
    have HAL:=lh hall
    clear hall hgo
    go_wp2_with fail
    go_ret2
    exact⟨_,rfl,by rw[←HAL.out];exact HO.out,hbw⟩
end Go.Proofs.YtnmpfmapncicmaaGreat
