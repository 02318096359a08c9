/-
  Whether a pool has a page; the reference's word for it: walked.
-/
import Derived.Test.YtjoopjgpjkmmhaaPlOwn
import Derived.Test.YtjoopjgpjkmmhaaPoolValid
namespace Go.Proofs.Ytjoopjgpjkmmhaa
open Go.RowKit

theorem Pl.is_no {P : Pl} {g p : Int} (h : ¬ (0 ≤ g ∧ g < P.M.length ∧ 0 ≤ p ∧ p < (P.pages g.toNat).length)) : P.is g p = false := decide_eq_false h
theorem Pl.is_yes {P : Pl} {g p : Int} (h : 0 ≤ g ∧ g < P.M.length ∧ 0 ≤ p ∧ p < (P.pages g.toNat).length) : P.is g p = true := decide_eq_true h
theorem Pl.pages_eq {P : Pl} {g : Nat} {l : List Int} (hl : P.M[g]? = some l) : P.pages g = l := by unfold Pl.pages; rw [hl]; rfl
theorem valid_pl (v : Value) (P : Pl) (w : World) (h : PlRow w v P) (hf : P.fit) : Calls Try.prog 16 #[v] w (Ret w (.bool P.ok)) := by
  obtain ⟨vf, vr, vm, rfl, h1, h2, h3⟩ := h
  exact pvalid_any vf vr vm P.F P.R P.M w h1 h2 h3 hf.1 hf.2
set_option maxHeartbeats 1000000 in
theorem ris_any (v : Value) (P : Pl) (g p : Int) (w : World) (h : PlRow w v P) : Calls Try.prog 40 #[v, .int .i64 g, .int .i64 p] w (Ret w (.bool (P.is g p))) := by
  obtain ⟨of, or', om, kf, kr, km, rfl, kf1, kf2, kr1, kr2, km1, km2⟩ := h.form
  obtain ⟨n, hn⟩ : ∃ n, P.F.length = n := ⟨_, rfl⟩
  obtain ⟨r, hr⟩ : ∃ n, P.R.length = n := ⟨_, rfl⟩
  obtain ⟨m, hm⟩ : ∃ n, P.M.length = n := ⟨_, rfl⟩
  rw [hn] at h kf1 ⊢
  rw [hr] at h kr1 ⊢
  rw [hm] at h km1 ⊢
  have HN := Lib.hid hn; clear hn
  have HR := Lib.hid hr; clear hr
  have HM := Lib.hid hm; clear hm
  by_cases g0 : 0 ≤ g
  rotate_left
  · have hno : P.is g p = false := Pl.is_no (fun hh => g0 hh.1)
    have HNO := Lib.hid hno; clear hno
    go_enter Try.func40, Try.ntmps40
    go_wp2_with fail
    skip
    go_ret
    exact Ret.mk' (by rw [HNO.out]; first | rfl | exact congrArg Value.bool (decide_eq_false (by omega))) (by repeat (first | with_reducible exact Below.refl _ _ | with_reducible refine Below.drew ?_ | (with_reducible refine Below.alloc ?_ (by first | exact Nat.le_refl _ | omega | (dsimp only; omega) | (simp only [sizes]; omega)) _) | (with_reducible refine Below.setCell ?_ (by first | exact Nat.le_refl _ | omega | (dsimp only; omega) | (simp only [sizes]; omega)) _) | (refine Below.trans ?_ (Below.mono (by with_reducible assumption) (by first | exact Nat.le_refl _ | omega | (dsimp only; omega) | (simp only [sizes]; omega))))))
  by_cases g1 : g < m
  rotate_left
  · have hno : P.is g p = false := Pl.is_no (fun hh => g1 (by rw [← HM.out]; exact hh.2.1))
    have HNO := Lib.hid hno; clear hno
    go_enter Try.func40, Try.ntmps40
    go_wp2_with fail
    skip
    go_ret
    exact Ret.mk' (by rw [HNO.out]; first | rfl | exact congrArg Value.bool (decide_eq_false (by omega))) (by repeat (first | with_reducible exact Below.refl _ _ | with_reducible refine Below.drew ?_ | (with_reducible refine Below.alloc ?_ (by first | exact Nat.le_refl _ | omega | (dsimp only; omega) | (simp only [sizes]; omega)) _) | (with_reducible refine Below.setCell ?_ (by first | exact Nat.le_refl _ | omega | (dsimp only; omega) | (simp only [sizes]; omega)) _) | (refine Below.trans ?_ (Below.mono (by with_reducible assumption) (by first | exact Nat.le_refl _ | omega | (dsimp only; omega) | (simp only [sizes]; omega))))))
  obtain ⟨i, rfl⟩ : ∃ i : Nat, g = i := ⟨g.toNat, by omega⟩
  obtain ⟨l, hl⟩ := get_lt (xs := P.M) (k := i) (by rw [HM.out]; omega)
  have hpl := Pl.pages_eq hl
  obtain ⟨mb, moff, uo, uc, rfl, hmb, cm, u1, u2, hrow⟩ := h.guest hl
  clear hrow
  have HPL := Lib.hid hpl; clear hpl
  have HL := Lib.hid hl; clear hl
  by_cases p0 : 0 ≤ p
  rotate_left
  · have hno : P.is i p = false := Pl.is_no (fun hh => p0 hh.2.2.1)
    have HNO := Lib.hid hno; clear hno
    go_enter Try.func40, Try.ntmps40
    go_wp2_with fail
    skip
    go_ret
    exact Ret.mk' (by rw [HNO.out]; first | rfl | exact congrArg Value.bool (decide_eq_false (by omega))) (by repeat (first | with_reducible exact Below.refl _ _ | with_reducible refine Below.drew ?_ | (with_reducible refine Below.alloc ?_ (by first | exact Nat.le_refl _ | omega | (dsimp only; omega) | (simp only [sizes]; omega)) _) | (with_reducible refine Below.setCell ?_ (by first | exact Nat.le_refl _ | omega | (dsimp only; omega) | (simp only [sizes]; omega)) _) | (refine Below.trans ?_ (Below.mono (by with_reducible assumption) (by first | exact Nat.le_refl _ | omega | (dsimp only; omega) | (simp only [sizes]; omega))))))
  by_cases p1 : p < l.length
  rotate_left
  · have hno : P.is i p = false := Pl.is_no (fun hh => p1 (by rw [← HPL.out]; exact hh.2.2.2))
    have HNO := Lib.hid hno; clear hno
    go_enter Try.func40, Try.ntmps40
    go_wp2_with fail
    skip
    go_ret
    exact Ret.mk' (by rw [HNO.out]; first | rfl | exact congrArg Value.bool (decide_eq_false (by omega))) (by repeat (first | with_reducible exact Below.refl _ _ | with_reducible refine Below.drew ?_ | (with_reducible refine Below.alloc ?_ (by first | exact Nat.le_refl _ | omega | (dsimp only; omega) | (simp only [sizes]; omega)) _) | (with_reducible refine Below.setCell ?_ (by first | exact Nat.le_refl _ | omega | (dsimp only; omega) | (simp only [sizes]; omega)) _) | (refine Below.trans ?_ (Below.mono (by with_reducible assumption) (by first | exact Nat.le_refl _ | omega | (dsimp only; omega) | (simp only [sizes]; omega))))))
  · have hyes : P.is i p = true := Pl.is_yes ⟨g0, by rw [HM.out]; exact g1, p0, by rw [Int.toNat_natCast, HPL.out]; exact p1⟩
    have HNO := Lib.hid hyes; clear hyes
    go_enter Try.func40, Try.ntmps40
    go_wp2_with fail
    skip
    go_ret
    exact Ret.mk' (by rw [HNO.out]; first | rfl | exact congrArg Value.bool (decide_eq_false (by omega))) (by repeat (first | with_reducible exact Below.refl _ _ | with_reducible refine Below.drew ?_ | (with_reducible refine Below.alloc ?_ (by first | exact Nat.le_refl _ | omega | (dsimp only; omega) | (simp only [sizes]; omega)) _) | (with_reducible refine Below.setCell ?_ (by first | exact Nat.le_refl _ | omega | (dsimp only; omega) | (simp only [sizes]; omega)) _) | (refine Below.trans ?_ (Below.mono (by with_reducible assumption) (by first | exact Nat.le_refl _ | omega | (dsimp only; omega) | (simp only [sizes]; omega))))))
set_option maxHeartbeats 2000000 in
theorem phas_any (v : Value) (P : Pl) (g p : Int) (w : World) (h : PlRow w v P) (hf : P.fit) : Calls Try.prog 33 #[v, .int .i64 g, .int .i64 p] w (Ret w (.bool (P.has g p))) := by
  obtain ⟨of, or', om, kf, kr, km, rfl, kf1, kf2, kr1, kr2, km1, km2⟩ := h.form
  obtain ⟨n, hn⟩ : ∃ n, P.F.length = n := ⟨_, rfl⟩
  obtain ⟨r, hr⟩ : ∃ n, P.R.length = n := ⟨_, rfl⟩
  obtain ⟨m, hm⟩ : ∃ n, P.M.length = n := ⟨_, rfl⟩
  rw [hn] at h kf1 ⊢
  rw [hr] at h kr1 ⊢
  rw [hm] at h km1 ⊢
  have HN := Lib.hid hn; clear hn
  have HR := Lib.hid hr; clear hr
  have HM := Lib.hid hm; clear hm
  have V := fun w h => valid_pl (.agg #[.slice of n kf, .slice or' r kr, .slice om m km]) P w h hf
  have hhas : P.has g p = (P.ok && P.is g p) := rfl
  rw [hhas]
  clear hhas hf
  cases hok : P.ok
  · rw [hok] at V
    rw [Bool.false_and]
    clear hok
    have HV := Lib.hid V; clear V
    go_enter Try.func33, Try.ntmps33
    go_wp2_with fail
    with_reducible refine (HV.out _ (h.below (by repeat (first | with_reducible exact Below.refl _ _ | with_reducible refine Below.drew ?_ | (with_reducible refine Below.alloc ?_ (by first | exact Nat.le_refl _ | omega | (dsimp only; omega) | (simp only [sizes]; omega)) _) | (with_reducible refine Below.setCell ?_ (by first | exact Nat.le_refl _ | omega | (dsimp only; omega) | (simp only [sizes]; omega)) _) | (refine Below.trans ?_ (Below.mono (by with_reducible assumption) (by first | exact Nat.le_refl _ | omega | (dsimp only; omega) | (simp only [sizes]; omega)))))))).mono ?_
    rintro e w1 ⟨rfl, hb1⟩
    obtain ⟨hc1, hf1⟩ := bcell hb1
    have hz1 := bsize hb1
    try simp only [sizes1] at hz1
    try simp only [sizes] at hc1 hf1
    go_wp2_with fail
    go_ret
    exact Ret.mk (by repeat (first | with_reducible exact Below.refl _ _ | with_reducible refine Below.drew ?_ | (with_reducible refine Below.alloc ?_ (by first | exact Nat.le_refl _ | omega | (dsimp only; omega) | (simp only [sizes]; omega)) _) | (with_reducible refine Below.setCell ?_ (by first | exact Nat.le_refl _ | omega | (dsimp only; omega) | (simp only [sizes]; omega)) _) | (refine Below.trans ?_ (Below.mono (by with_reducible assumption) (by first | exact Nat.le_refl _ | omega | (dsimp only; omega) | (simp only [sizes]; omega))))))
  · rw [hok] at V
    rw [Bool.true_and]
    clear hok
    have HV := Lib.hid V; clear V
    by_cases g0 : 0 ≤ g
    rotate_left
    · have hno : P.is g p = false := Pl.is_no (fun hh => g0 hh.1)
      have HNO := Lib.hid hno; clear hno
      go_enter Try.func33, Try.ntmps33
      go_wp2_with fail
      with_reducible refine (HV.out _ (h.below (by repeat (first | with_reducible exact Below.refl _ _ | with_reducible refine Below.drew ?_ | (with_reducible refine Below.alloc ?_ (by first | exact Nat.le_refl _ | omega | (dsimp only; omega) | (simp only [sizes]; omega)) _) | (with_reducible refine Below.setCell ?_ (by first | exact Nat.le_refl _ | omega | (dsimp only; omega) | (simp only [sizes]; omega)) _) | (refine Below.trans ?_ (Below.mono (by with_reducible assumption) (by first | exact Nat.le_refl _ | omega | (dsimp only; omega) | (simp only [sizes]; omega)))))))).mono ?_
      rintro e w1 ⟨rfl, hb1⟩
      obtain ⟨hc1, hf1⟩ := bcell hb1
      have hz1 := bsize hb1
      try simp only [sizes1] at hz1
      try simp only [sizes] at hc1 hf1
      go_wp2_with fail
      go_ret
      exact Ret.mk' (by rw [HNO.out]; first | rfl | exact congrArg Value.bool (decide_eq_false (by omega))) (by repeat (first | with_reducible exact Below.refl _ _ | with_reducible refine Below.drew ?_ | (with_reducible refine Below.alloc ?_ (by first | exact Nat.le_refl _ | omega | (dsimp only; omega) | (simp only [sizes]; omega)) _) | (with_reducible refine Below.setCell ?_ (by first | exact Nat.le_refl _ | omega | (dsimp only; omega) | (simp only [sizes]; omega)) _) | (refine Below.trans ?_ (Below.mono (by with_reducible assumption) (by first | exact Nat.le_refl _ | omega | (dsimp only; omega) | (simp only [sizes]; omega))))))
    by_cases g1 : g < m
    rotate_left
    · have hno : P.is g p = false := Pl.is_no (fun hh => g1 (by rw [← HM.out]; exact hh.2.1))
      have HNO := Lib.hid hno; clear hno
      go_enter Try.func33, Try.ntmps33
      go_wp2_with fail
      with_reducible refine (HV.out _ (h.below (by repeat (first | with_reducible exact Below.refl _ _ | with_reducible refine Below.drew ?_ | (with_reducible refine Below.alloc ?_ (by first | exact Nat.le_refl _ | omega | (dsimp only; omega) | (simp only [sizes]; omega)) _) | (with_reducible refine Below.setCell ?_ (by first | exact Nat.le_refl _ | omega | (dsimp only; omega) | (simp only [sizes]; omega)) _) | (refine Below.trans ?_ (Below.mono (by with_reducible assumption) (by first | exact Nat.le_refl _ | omega | (dsimp only; omega) | (simp only [sizes]; omega)))))))).mono ?_
      rintro e w1 ⟨rfl, hb1⟩
      obtain ⟨hc1, hf1⟩ := bcell hb1
      have hz1 := bsize hb1
      try simp only [sizes1] at hz1
      try simp only [sizes] at hc1 hf1
      go_wp2_with fail
      go_ret
      exact Ret.mk' (by rw [HNO.out]; first | rfl | exact congrArg Value.bool (decide_eq_false (by omega))) (by repeat (first | with_reducible exact Below.refl _ _ | with_reducible refine Below.drew ?_ | (with_reducible refine Below.alloc ?_ (by first | exact Nat.le_refl _ | omega | (dsimp only; omega) | (simp only [sizes]; omega)) _) | (with_reducible refine Below.setCell ?_ (by first | exact Nat.le_refl _ | omega | (dsimp only; omega) | (simp only [sizes]; omega)) _) | (refine Below.trans ?_ (Below.mono (by with_reducible assumption) (by first | exact Nat.le_refl _ | omega | (dsimp only; omega) | (simp only [sizes]; omega))))))
    obtain ⟨i, rfl⟩ : ∃ i : Nat, g = i := ⟨g.toNat, by omega⟩
    obtain ⟨l, hl⟩ := get_lt (xs := P.M) (k := i) (by rw [HM.out]; omega)
    have hpl := Pl.pages_eq hl
    obtain ⟨mb, moff, uo, uc, rfl, hmb, cm, u1, u2, hrow⟩ := h.guest hl
    clear hrow
    have HPL := Lib.hid hpl; clear hpl
    have HL := Lib.hid hl; clear hl
    by_cases p0 : 0 ≤ p
    rotate_left
    · have hno : P.is i p = false := Pl.is_no (fun hh => p0 hh.2.2.1)
      have HNO := Lib.hid hno; clear hno
      go_enter Try.func33, Try.ntmps33
      go_wp2_with fail
      with_reducible refine (HV.out _ (h.below (by repeat (first | with_reducible exact Below.refl _ _ | with_reducible refine Below.drew ?_ | (with_reducible refine Below.alloc ?_ (by first | exact Nat.le_refl _ | omega | (dsimp only; omega) | (simp only [sizes]; omega)) _) | (with_reducible refine Below.setCell ?_ (by first | exact Nat.le_refl _ | omega | (dsimp only; omega) | (simp only [sizes]; omega)) _) | (refine Below.trans ?_ (Below.mono (by with_reducible assumption) (by first | exact Nat.le_refl _ | omega | (dsimp only; omega) | (simp only [sizes]; omega)))))))).mono ?_
      rintro e w1 ⟨rfl, hb1⟩
      obtain ⟨hc1, hf1⟩ := bcell hb1
      have hz1 := bsize hb1
      try simp only [sizes1] at hz1
      try simp only [sizes] at hc1 hf1
      go_wp2_with fail
      go_ret
      exact Ret.mk' (by rw [HNO.out]; first | rfl | exact congrArg Value.bool (decide_eq_false (by omega))) (by repeat (first | with_reducible exact Below.refl _ _ | with_reducible refine Below.drew ?_ | (with_reducible refine Below.alloc ?_ (by first | exact Nat.le_refl _ | omega | (dsimp only; omega) | (simp only [sizes]; omega)) _) | (with_reducible refine Below.setCell ?_ (by first | exact Nat.le_refl _ | omega | (dsimp only; omega) | (simp only [sizes]; omega)) _) | (refine Below.trans ?_ (Below.mono (by with_reducible assumption) (by first | exact Nat.le_refl _ | omega | (dsimp only; omega) | (simp only [sizes]; omega))))))
    by_cases p1 : p < l.length
    rotate_left
    · have hno : P.is i p = false := Pl.is_no (fun hh => p1 (by rw [← HPL.out]; exact hh.2.2.2))
      have HNO := Lib.hid hno; clear hno
      go_enter Try.func33, Try.ntmps33
      go_wp2_with fail
      with_reducible refine (HV.out _ (h.below (by repeat (first | with_reducible exact Below.refl _ _ | with_reducible refine Below.drew ?_ | (with_reducible refine Below.alloc ?_ (by first | exact Nat.le_refl _ | omega | (dsimp only; omega) | (simp only [sizes]; omega)) _) | (with_reducible refine Below.setCell ?_ (by first | exact Nat.le_refl _ | omega | (dsimp only; omega) | (simp only [sizes]; omega)) _) | (refine Below.trans ?_ (Below.mono (by with_reducible assumption) (by first | exact Nat.le_refl _ | omega | (dsimp only; omega) | (simp only [sizes]; omega)))))))).mono ?_
      rintro e w1 ⟨rfl, hb1⟩
      obtain ⟨hc1, hf1⟩ := bcell hb1
      have hz1 := bsize hb1
      try simp only [sizes1] at hz1
      try simp only [sizes] at hc1 hf1
      go_wp2_with fail
      go_ret
      exact Ret.mk' (by rw [HNO.out]; first | rfl | exact congrArg Value.bool (decide_eq_false (by omega))) (by repeat (first | with_reducible exact Below.refl _ _ | with_reducible refine Below.drew ?_ | (with_reducible refine Below.alloc ?_ (by first | exact Nat.le_refl _ | omega | (dsimp only; omega) | (simp only [sizes]; omega)) _) | (with_reducible refine Below.setCell ?_ (by first | exact Nat.le_refl _ | omega | (dsimp only; omega) | (simp only [sizes]; omega)) _) | (refine Below.trans ?_ (Below.mono (by with_reducible assumption) (by first | exact Nat.le_refl _ | omega | (dsimp only; omega) | (simp only [sizes]; omega))))))
    · have hyes : P.is i p = true := Pl.is_yes ⟨g0, by rw [HM.out]; exact g1, p0, by rw [Int.toNat_natCast, HPL.out]; exact p1⟩
      have HNO := Lib.hid hyes; clear hyes
      go_enter Try.func33, Try.ntmps33
      go_wp2_with fail
      with_reducible refine (HV.out _ (h.below (by repeat (first | with_reducible exact Below.refl _ _ | with_reducible refine Below.drew ?_ | (with_reducible refine Below.alloc ?_ (by first | exact Nat.le_refl _ | omega | (dsimp only; omega) | (simp only [sizes]; omega)) _) | (with_reducible refine Below.setCell ?_ (by first | exact Nat.le_refl _ | omega | (dsimp only; omega) | (simp only [sizes]; omega)) _) | (refine Below.trans ?_ (Below.mono (by with_reducible assumption) (by first | exact Nat.le_refl _ | omega | (dsimp only; omega) | (simp only [sizes]; omega)))))))).mono ?_
      rintro e w1 ⟨rfl, hb1⟩
      obtain ⟨hc1, hf1⟩ := bcell hb1
      have hz1 := bsize hb1
      try simp only [sizes1] at hz1
      try simp only [sizes] at hc1 hf1
      go_wp2_with fail
      go_ret
      exact Ret.mk' (by rw [HNO.out]; first | rfl | exact congrArg Value.bool (decide_eq_false (by omega))) (by repeat (first | with_reducible exact Below.refl _ _ | with_reducible refine Below.drew ?_ | (with_reducible refine Below.alloc ?_ (by first | exact Nat.le_refl _ | omega | (dsimp only; omega) | (simp only [sizes]; omega)) _) | (with_reducible refine Below.setCell ?_ (by first | exact Nat.le_refl _ | omega | (dsimp only; omega) | (simp only [sizes]; omega)) _) | (refine Below.trans ?_ (Below.mono (by with_reducible assumption) (by first | exact Nat.le_refl _ | omega | (dsimp only; omega) | (simp only [sizes]; omega))))))
end Go.Proofs.Ytjoopjgpjkmmhaa
