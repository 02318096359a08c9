/-
  A guest added to a pool, in the program: walked.
-/
import Derived.Test.YtjoopjgpjkmmhaaPlWrite
import Derived.Test.YtjoopjgpjkmmhaaPlNew
namespace Go.Proofs.Ytjoopjgpjkmmhaa
open Go.RowKit

def Pl.goodA (P : Pl) (q : Int) : Bool := P.ok && decide (P.M.length ≠ 8 ∧ 1 ≤ q ∧ q ≤ 32)
def Pl.add (P : Pl) (q : Int) : Pl := if P.goodA q then ⟨P.F, P.R, P.M ++ [List.replicate q.toNat (-1)]⟩ else P
set_option maxRecDepth 100000 in
set_option maxHeartbeats 4000000 in
theorem padd_own (v : Value) (P : Pl) (q : Int) (w : World) (h : PlRow w v P) (hf : P.fit) (hs : P.small) : Calls Try.prog 21 #[v, .int .i64 q] w (RetPoolB (P.add q) (P.goodA q) w) := by
  obtain ⟨of, or', om, kf, kr, km, rfl, kf1, kf2, kr1, kr2, km1, km2⟩ := h.form
  obtain ⟨n, hn⟩ : ∃ n, P.F.length = n := ⟨_, rfl⟩
  obtain ⟨r, hr⟩ : ∃ n, P.R.length = n := ⟨_, rfl⟩
  obtain ⟨m, hm⟩ : ∃ n, P.M.length = n := ⟨_, rfl⟩
  rw [hn] at h kf1 ⊢
  rw [hr] at h kr1 ⊢
  rw [hm] at h km1 ⊢
  have HN := Lib.hid hn; clear hn
  have HR := Lib.hid hr; clear hr
  have HM := Lib.hid hm; clear hm
  have V := fun w h => valid_pl (.agg #[.slice of n kf, .slice or' r kr, .slice om m km]) P w h hf
  have C := fun w h => pclone_any (.agg #[.slice of n kf, .slice or' r kr, .slice om m km]) P w h hs
  clear hf hs
  have HC := Lib.hid C; clear C
  obtain ⟨hv, hhv⟩ : ∃ b, P.ok = b := ⟨_, rfl⟩
  rw [hhv] at V
  have HV := Lib.hid V; clear V
  have HHV := Lib.hid hhv; clear hhv
  have D1 := (HasBlock.made w #[.slice of n kf, .slice or' r kr, .slice om m km] 26).alloc (.cells #[.slice none 0 0, .slice none 0 0, .slice none 0 0] 26)
  have D2 := HasBlock.made (w.alloc (.cells #[.slice of n kf, .slice or' r kr, .slice om m km] 26)) #[.slice none 0 0, .slice none 0 0, .slice none 0 0] 26
  have hbw : Below w.heap.size w ((w.alloc (.cells #[.slice of n kf, .slice or' r kr, .slice om m km] 26)).alloc (.cells #[.slice none 0 0, .slice none 0 0, .slice none 0 0] 26)) := (by repeat (first | with_reducible exact Below.refl _ _ | with_reducible refine Below.drew ?_ | (with_reducible refine Below.alloc ?_ (by first | exact Nat.le_refl _ | omega | (dsimp only; omega) | (simp only [sizes]; omega)) _) | (with_reducible refine Below.setCell ?_ (by first | exact Nat.le_refl _ | omega | (dsimp only; omega) | (simp only [sizes]; omega)) _) | (refine Below.trans ?_ (Below.mono (by with_reducible assumption) (by first | exact Nat.le_refl _ | omega | (dsimp only; omega) | (simp only [sizes]; omega))))))
  have hz : w.heap.size + 1 + 1 ≤ ((w.alloc (.cells #[.slice of n kf, .slice or' r kr, .slice om m km] 26)).alloc (.cells #[.slice none 0 0, .slice none 0 0, .slice none 0 0] 26)).heap.size := by simp only [sizes]; omega
  simp only [sizes] at D2
  replace h := h.below hbw
  go_enter Try.func21, Try.ntmps21
  go_wp2_with fail
  with_reducible refine (HC.out _ h).mono ?_
  rintro e w1 ⟨of1, or1, om1, kf1', kr1', km1', us, rfl, hO, hb1⟩
  rw [HN.out, HR.out, HM.out] at hO ⊢
  replace hO := hO.lower hz
  replace D1 := D1.below hb1
  replace D2 := D2.below hb1
  replace h := h.below hb1
  replace hbw := hbw.trans (hb1.mono hbw.size)
  replace hz := Nat.le_trans hz hb1.size
  clear hb1
  have hT := hO.lt
  obtain ⟨D1_c, D1_f, D1_z⟩ := D1.all
  obtain ⟨D2_c, D2_f, D2_z⟩ := D2.all
  go_wp2_with fail
  clear D1_c D1_f D1_z
  clear D2_c D2_f D2_z
  have hbx : Below w1.heap.size w1 (w1.alloc (.cells #[.slice of1 n kf1', .slice or1 r kr1', .slice om1 m km1'] 26)) := (Below.refl _ _).alloc (Nat.le_refl _) _
  replace D1 := D1.below hbx
  replace D2 := D2.below hbx
  have D3 := HasBlock.made w1 #[.slice of1 n kf1', .slice or1 r kr1', .slice om1 m km1'] 26
  replace h := h.below hbx
  replace hO := hO.below hbx
  replace hbw := hbw.trans (hbx.mono hbw.size)
  have hz2 : w1.heap.size + 1 ≤ (w1.alloc (.cells #[.slice of1 n kf1', .slice or1 r kr1', .slice om1 m km1'] 26)).heap.size := Nat.le_of_eq (World.size_alloc ..).symm
  clear hbx
  obtain ⟨B, hB⟩ : ∃ B, w1.heap.size = B := ⟨_, rfl⟩
  rw [hB] at D3 hz hT hz2 ⊢
  generalize hW : w1.alloc (.cells #[.slice of1 n kf1', .slice or1 r kr1', .slice om1 m km1'] 26) = w2 at D1 D2 D3 h hO hbw hz2 ⊢
  clear hW hB
  with_reducible refine (HV.out _ h).mono ?_
  rintro e w3 ⟨rfl, hb3⟩
  replace hz2 := Nat.le_trans hz2 hb3.size
  replace D1 := D1.below hb3
  replace D2 := D2.below hb3
  replace D3 := D3.below hb3
  replace h := h.below hb3
  replace hO := hO.below hb3
  replace hbw := hbw.trans (hb3.mono hbw.size)
  clear hb3
  cases hv
  · have hno : P.goodA q = false := by unfold Pl.goodA; (rw [HHV.out]; rfl)
    have HNO := Lib.hid hno; clear hno
    obtain ⟨D1_c, D1_f, D1_z⟩ := D1.all
    obtain ⟨D2_c, D2_f, D2_z⟩ := D2.all
    obtain ⟨D3_c, D3_f, D3_z⟩ := D3.all
    go_wp2_with fail
    refine bodyPost_ret (v := .tuple #[.agg #[.slice of1 n kf1', .slice or1 r kr1', .slice om1 m km1'], .bool false]) (by simp [results, Try.results21, go_sem, D2_c]) rfl ?_
    rw [HNO.out]
    exact ret_poolb HN.out HR.out HM.out (by unfold Pl.add; rw [HNO.out]; rfl) (((hO.setlow (b := w.heap.size + 1) (j := 0) (by omega) _).setlow (b := w.heap.size + 1) (j := 1) (by omega) _).setlow (b := w.heap.size + 1) (j := 2) (by omega) _) (((hbw.setCell (p := ⟨w.heap.size + 1, 0, none⟩) (by dsimp only; omega) _).setCell (p := ⟨w.heap.size + 1, 1, none⟩) (by dsimp only; omega) _).setCell (p := ⟨w.heap.size + 1, 2, none⟩) (by dsimp only; omega) _)
  have H := Pl.ok_iff.1 HHV.out
  have hm8 := H.m
  rw [HM.out] at hm8
  by_cases g1 : m = 8
  · have e1 : (m == 8) = true := by rw [beq_iff_eq]; exact g1
    have e2 : ((m : Int) == 8) = true := by rw [beq_iff_eq]; omega
    have hno : P.goodA q = false := by unfold Pl.goodA; rw [decide_eq_false (fun h => h.1 (by rw [HM.out]; exact g1)), Bool.and_false]
    have HNO := Lib.hid hno; clear hno g1
    obtain ⟨D1_c, D1_f, D1_z⟩ := D1.all
    obtain ⟨D2_c, D2_f, D2_z⟩ := D2.all
    obtain ⟨D3_c, D3_f, D3_z⟩ := D3.all
    go_wp2_with fail
    refine bodyPost_ret (v := .tuple #[.agg #[.slice of1 n kf1', .slice or1 r kr1', .slice om1 m km1'], .bool false]) (by simp [results, Try.results21, go_sem, D2_c]) rfl ?_
    rw [HNO.out]
    exact ret_poolb HN.out HR.out HM.out (by unfold Pl.add; rw [HNO.out]; rfl) (((hO.setlow (b := w.heap.size + 1) (j := 0) (by omega) _).setlow (b := w.heap.size + 1) (j := 1) (by omega) _).setlow (b := w.heap.size + 1) (j := 2) (by omega) _) (((hbw.setCell (p := ⟨w.heap.size + 1, 0, none⟩) (by dsimp only; omega) _).setCell (p := ⟨w.heap.size + 1, 1, none⟩) (by dsimp only; omega) _).setCell (p := ⟨w.heap.size + 1, 2, none⟩) (by dsimp only; omega) _)
  have e1 : (m == 8) = false := by rw [beq_eq_false_iff_ne]; exact g1
  have e2 : ((m : Int) == 8) = false := by rw [beq_eq_false_iff_ne]; omega
  by_cases g2 : 1 ≤ q
  rotate_left
  · have hno : P.goodA q = false := by unfold Pl.goodA; rw [decide_eq_false (fun h => g2 h.2.1), Bool.and_false]
    have HNO := Lib.hid hno; clear hno
    obtain ⟨D1_c, D1_f, D1_z⟩ := D1.all
    obtain ⟨D2_c, D2_f, D2_z⟩ := D2.all
    obtain ⟨D3_c, D3_f, D3_z⟩ := D3.all
    go_wp2_with fail
    refine bodyPost_ret (v := .tuple #[.agg #[.slice of1 n kf1', .slice or1 r kr1', .slice om1 m km1'], .bool false]) (by simp [results, Try.results21, go_sem, D2_c]) rfl ?_
    rw [HNO.out]
    exact ret_poolb HN.out HR.out HM.out (by unfold Pl.add; rw [HNO.out]; rfl) (((hO.setlow (b := w.heap.size + 1) (j := 0) (by omega) _).setlow (b := w.heap.size + 1) (j := 1) (by omega) _).setlow (b := w.heap.size + 1) (j := 2) (by omega) _) (((hbw.setCell (p := ⟨w.heap.size + 1, 0, none⟩) (by dsimp only; omega) _).setCell (p := ⟨w.heap.size + 1, 1, none⟩) (by dsimp only; omega) _).setCell (p := ⟨w.heap.size + 1, 2, none⟩) (by dsimp only; omega) _)
  by_cases g3 : q ≤ 32
  rotate_left
  · have hno : P.goodA q = false := by unfold Pl.goodA; rw [decide_eq_false (fun h => g3 h.2.2), Bool.and_false]
    have HNO := Lib.hid hno; clear hno
    obtain ⟨D1_c, D1_f, D1_z⟩ := D1.all
    obtain ⟨D2_c, D2_f, D2_z⟩ := D2.all
    obtain ⟨D3_c, D3_f, D3_z⟩ := D3.all
    go_wp2_with fail
    refine bodyPost_ret (v := .tuple #[.agg #[.slice of1 n kf1', .slice or1 r kr1', .slice om1 m km1'], .bool false]) (by simp [results, Try.results21, go_sem, D2_c]) rfl ?_
    rw [HNO.out]
    exact ret_poolb HN.out HR.out HM.out (by unfold Pl.add; rw [HNO.out]; rfl) (((hO.setlow (b := w.heap.size + 1) (j := 0) (by omega) _).setlow (b := w.heap.size + 1) (j := 1) (by omega) _).setlow (b := w.heap.size + 1) (j := 2) (by omega) _) (((hbw.setCell (p := ⟨w.heap.size + 1, 0, none⟩) (by dsimp only; omega) _).setCell (p := ⟨w.heap.size + 1, 1, none⟩) (by dsimp only; omega) _).setCell (p := ⟨w.heap.size + 1, 2, none⟩) (by dsimp only; omega) _)
  obtain ⟨K, rfl⟩ : ∃ K : Nat, q = K := ⟨q.toNat, by omega⟩
  have hyes : P.goodA K = true := by unfold Pl.goodA; rw [HHV.out, decide_eq_true ⟨by rw [HM.out]; exact g1, g2, g3⟩]; rfl
  have hadd : P.add K = ⟨P.F, P.R, P.M ++ [List.replicate K (-1)]⟩ := by unfold Pl.add; rw [hyes, Int.toNat_natCast]; rfl
  have HYES := Lib.hid hyes; clear hyes
  have HADD := Lib.hid hadd; clear hadd
  have hrl : (List.replicate K (-1 : Int)).length = K := List.length_replicate ..
  have RP := fun b w h1 h2 => repeat_any b K w (by omega) (by omega) h1 h2
  obtain ⟨l, hl⟩ : ∃ l, List.replicate K (-1 : Int) = l := ⟨_, rfl⟩
  rw [hl] at RP HADD hrl
  have HRP := Lib.hid RP; clear RP hl
  have HRL := Lib.hid hrl; clear hrl
  obtain ⟨i0, hi0, iz0, iz1, iz2⟩ := info_parts info_ints
  obtain ⟨D1_c, D1_f, D1_z⟩ := D1.all
  obtain ⟨D2_c, D2_f, D2_z⟩ := D2.all
  obtain ⟨D3_c, D3_f, D3_z⟩ := D3.all
  go_wp2_with fail
  clear D1_c D1_f D1_z
  clear D2_c D2_f D2_z
  clear D3_c D3_f D3_z
  have hom : w3.ownsRow (w.heap.size + 1 + 1) 23 1 (.slice om1 m km1') m us := by have h := hO.m; rw [HM.out] at h; exact h
  have HOM := Lib.hid hom; clear hom
  clear h
  obtain ⟨D1_c, D1_f, D1_z⟩ := D1.all
  obtain ⟨D2_c, D2_f, D2_z⟩ := D2.all
  obtain ⟨D3_c, D3_f, D3_z⟩ := D3.all
  go_region_law (go_loud (first
    | (refine step_append_own rfl (.tmp 28) (.tmp 32) 24 rfl (w.heap.size + 1 + 1) 23 i0 (.slice none 0 0) 1 24 Try.underlying24 hi0 iz0 iz1 iz2 rfl (by decide) (.slice om1 m km1') m us rfl (HOM5.out.alloc _) ⟨_, 0, none⟩ 1 1 [.slice uo5 K uk5] rfl rfl (cells_made _ [.slice uo5 K uk5] _ _ rfl) (one_slice _ _ _) (by unfold maxLen; omega) (by omega) (by simp only [sizes]; omega) ?_
       intro v6 w6 hown6 hgrow6 _
       obtain ⟨o6, c6, rfl, hc61, hc62⟩ := own_form' hown6
       have HO6 := (HO5.alloc (.cells #[.slice uo5 K uk5] 23)).push (l := l) (O5.alloc _) hr5 hu5 (by rw [HM.out]; exact hown6) hgrow6
       have F1 := (E1.alloc (.cells #[.slice uo5 K uk5] 23)).append (HOM5.out.alloc _) hgrow6 (by omega)
       have F2 := (E2.alloc (.cells #[.slice uo5 K uk5] 23)).append (HOM5.out.alloc _) hgrow6 (by omega)
       have F3 : HasBlock w6 B #[.slice of1 n kf1', .slice or1 r kr1', .slice om1 m km1'] 26 := (hgrow6.block B (E3.alloc _).lt (fun e => own_off HOM5.out E3 (by decide) e.symm)).trans (E3.alloc _)
       have hbw6 : Below w.heap.size w w6 := below_grown (hbw5.alloc (by omega) _) (HOM5.out.alloc _) hgrow6 (by omega) (by simp only [sizes]; omega)
       obtain ⟨F1_c, F1_f, F1_z⟩ := F1.all
       obtain ⟨F2_c, F2_f, F2_z⟩ := F2.all
       obtain ⟨F3_c, F3_f, F3_z⟩ := F3.all)
    | (go_simp; go_at_call 38
       with_reducible refine (HRP.out _ _ (((HasBlock.made w3 #[.int .i64 (-1)] 3).drew.cell 0).trans rfl) (HasBlock.made w3 #[.int .i64 (-1)] 3).drew.lt).mono ?_
       rintro _ w5 ⟨v5, rfl, o5, hb5⟩
       obtain ⟨uo5, uk5, rfl, _, _⟩ := o5.formN HRL.out
       have HB5 : Below w3.heap.size w3 w5 := (((Below.refl _ w3).alloc (Nat.le_refl _) (.cells #[.int .i64 (-1)] 3)).drew).trans (hb5.mono (by simp only [sizes]; omega))
       have hzb : w3.heap.size ≤ (w3.alloc (.cells #[.int .i64 (-1)] 3)).drew.heap.size := by simp only [sizes]; omega
       replace o5 := o5.lower hzb
       clear hb5 hzb
       have E1 := D1.below HB5
       have E2 := D2.below HB5
       have E3 := D3.below HB5
       have HO5 := hO.below HB5
       have hz5 := HB5.size
       have hbw5 : Below w.heap.size w w5 := hbw.trans (HB5.mono hbw.size)
       have HOM5 : Hid (w5.ownsRow (w.heap.size + 1 + 1) 23 1 (.slice om1 m km1') m us) := Lib.hid (owns_below HOM.out HB5)
       have hr5 : Apart (.slice or1 r kr1') (.slice uo5 K uk5) := apart_lt (B := w3.heap.size) (fun k hk => (World.ownsRow.lt hO.r.raw k hk).2) (fun k hk => (World.ownsRow.lt o5.raw k hk).1)
       have hu5 : ∀ (j : Nat) (u' : Value), us[j]? = some u' → Apart u' (.slice uo5 K uk5) := fun j u' hj => apart_lt (B := w3.heap.size) (fun k hk => hO.lt.u j u' hj k hk) (fun k hk => (World.ownsRow.lt o5.raw k hk).1)
       have O5 := OwnEnc.lower (base' := w.heap.size + 1 + 1) o5 (by omega)
       clear o5
       obtain ⟨E3_c, E3_f, E3_z⟩ := E3.all)))
  all_goals
    go_wp2_with fail
    refine bodyPost_ret (v := .tuple #[.agg #[.slice of1 n kf1', .slice or1 r kr1', .slice o6 (m + 1) c6], .bool true]) (by simp [results, Try.results21, go_sem, F2_c]) rfl ?_
    have HO7 := HO6.setbox (j := 2) F3 (by decide) (by decide) (by decide) (.slice o6 (m + 1) c6)
    replace hbw6 := hbw6.setCell (p := ⟨B, 2, none⟩) (by dsimp only; omega) (.slice o6 (m + 1) c6)
    have hbw := hbw6
    rw [HYES.out]
    exact ret_poolb (Q := ⟨P.F, P.R, P.M ++ [l]⟩) HN.out HR.out (by rw [List.length_append, HM.out]; rfl) HADD.out (((HO7.setlow (b := w.heap.size + 1) (j := 0) (by omega) _).setlow (b := w.heap.size + 1) (j := 1) (by omega) _).setlow (b := w.heap.size + 1) (j := 2) (by omega) _) (((hbw.setCell (p := ⟨w.heap.size + 1, 0, none⟩) (by dsimp only; omega) _).setCell (p := ⟨w.heap.size + 1, 1, none⟩) (by dsimp only; omega) _).setCell (p := ⟨w.heap.size + 1, 2, none⟩) (by dsimp only; omega) _)
theorem padd_any (v : Value) (P : Pl) (q : Int) (w : World) (h : PlRow w v P) (hf : P.fit) (hs : P.small) : Calls Try.prog 21 #[v, .int .i64 q] w (RetPool2 (P.add q) (P.goodA q) w) := (padd_own v P q w h hf hs).mono fun _ _ h => h.two
end Go.Proofs.Ytjoopjgpjkmmhaa
