/-
  PROVED: 'TopDowntimeSaid': for every kind, list of numbers, turns and limit, TopDowntime hands back true and leaves all memory as it was. Conditions: none.
-/
import Derived.Test.YtnmpfmapncicmaaGreatB50
namespace Go.Proofs.YtnmpfmapncicmaaGreat
set_option linter.all false
open Go.ChangeShapes Go.WideShapes Go.ChangeAt Go.RowKit
set_option maxRecDepth 100000 in
theorem topDowntime_contract {H:Type} {enc:TypeId×Value→H} (W:World) (base:Nat) (args:Array Value) (ds gs:List (DataW H)) (before:List MemPlace)
    (hval0:∀ (j:Nat) t v,Tryz.f3.params[j]?=some t→args[j]?=some v→Value.okWide Tryz.prog W .any base t v)
    (hW:DataW.Whole enc Tryz.prog Tryz.f3.params.toList Rows.topDowntimeSpec.vars false W args.toList ds gs before) :
    Calls Tryz.prog 3 args W fun e W'=>∃ v,e=.returned v∧Rows.topDowntimeSpec.post enc Tryz.prog Tryz.f3 false true false false W args v W':=by
 have hW0:=hW
 obtain⟨p,q,hA0,hV,_,_,_⟩:=hW
 have hA:DataW.TrodAll enc Tryz.prog W 0 (fun _=>true) true Tryz.f3.params.toList args.toList ds p:=hA0
 clear hA0
 rw[Tryz.params3] at hA hval0
 obtain⟨v0,vs0,d0,ds0,p0,q0,hargs0,rfl,_,h0,r0⟩:=trodAll_cons hA
 obtain⟨v1,vs1,d1,ds1,p1,q1,hargs1,rfl,_,h1,r1⟩:=trodAll_cons r0
 obtain⟨v2,vs2,d2,ds2,p2,q2,hargs2,rfl,_,h2,r2⟩:=trodAll_cons r1
 obtain⟨v3,vs3,d3,ds3,p3,q3,hargs3,rfl,_,h3,r3⟩:=trodAll_cons r2
 obtain⟨hnil,rfl,_⟩:=trodAll_nil r3
 obtain rfl:args=#[v0,v1,v2,v3]:=by cases args;simp_all
 obtain⟨kd,rfl,_,_,wk⟩:=open_int τ3 (hval0 0 _ v0 rfl rfl) h0
 obtain⟨ao,xs,cap,rfl,ha,hx,hwf⟩:=Jk τ22 τ3 (by kernel_rfl) (hval0 1 _ v1 rfl rfl) h1
 obtain⟨at_,ts,ct,rfl,ht,htx,htwf⟩:=Jk τ22 τ3 (by kernel_rfl) (hval0 2 _ v2 rfl rfl) h2
 obtain⟨limit,rfl,_,_,_⟩:=open_int τ3 (hval0 3 _ v3 rfl rfl) h3
 refine Calls.mono (R:=Ret W (.bool true)) ?_ (fun e W' ⟨he,hb⟩=>⟨_,he,law_post rfl hW0 hb (of_decide_eq_true (by kernel_rfl)) 4 rfl τ4 (fun _=>rfl)⟩)
 by_cases h:xs.length≤40∧ts.length≤30∧0≤limit∧limit≤32
 · exact down_in kd limit _ _ xs ts W (bounds_i64 wk) (RdS.of_int ha) (fun x hx=>bounds_i64 (hwf x hx)) (RdS.of_int ht) (fun x hx=>bounds_i64 (htwf x hx)) h.1 h.2.1 h.2.2.1 h.2.2.2
 · exact down_out kd limit ao at_ xs.length ts.length cap ct W h
set_option maxRecDepth 100000 in
theorem topDowntime_lifted (os:Os) (started:os.Started) (H:Type) (enc:TypeId×Value→H) :
    ReturnsInHanded {} Tryz.checked os 3 .any (Rows.topDowntimeSpec.pre6 enc Tryz.prog Tryz.f3 Rows.topDowntimeRow.domain false) (Rows.topDowntimeSpec.post enc Tryz.prog Tryz.f3 false true false false):=by
 refine returnsInHanded_of_change (C:=Tryz.checked) Tryz.own started (by kernel_rfl) Tryz.func3
  (ChangeSpec.witness6 (enc:=enc) (C:=Tryz.checked) false ⟨#[],#[.int .i64 0,.slice none 0 0,.slice none 0 0,.int .i64 0],[]⟩ 8 (by kernel_rfl) (by kernel_rfl) (by kernel_rfl) (by kernel_rfl)) ?_
 intro W base args ds gs before hval0 hW _ _
 exact topDowntime_contract W base args ds gs before hval0 hW
theorem topDowntime_holds:Rows.TopDowntimeSaid :=
 OpenClaim.holds_of_wide 3 Tryz.f3 rfl rfl rfl rfl rfl rfl rfl ⟨rfl,rfl,rfl,rfl,rfl⟩ rfl rfl rfl rfl rfl (by kernel_rfl) Tryz.func3 (by kernel_rfl)
  (of_decide_eq_true (by kernel_rfl)) (by unfold Func.isWrapper;first|(rw[if_pos (by decide +kernel)];kernel_rfl)|(rw[if_neg (by decide +kernel)];exact⟨rfl,rfl⟩))
  (fun os started H enc _=>topDowntime_lifted os started H enc)
end Go.Proofs.YtnmpfmapncicmaaGreat
