/-
  A guest's frames and a page's content, in the reference: walked.
-/
import Derived.Test.YtjoopjgpjkmmhaaPlRefRead
namespace Go.Proofs.Ytjoopjgpjkmmhaa
open Go.RowKit

theorem Pl.charge_no {P : Pl} {g : Int} (h : ¬ (P.ok = true ∧ 0 ≤ g ∧ g < P.M.length)) : P.charge g = 0 := by
  unfold Pl.charge
  rw [if_neg]
  intro hh
  unfold Pl.has Pl.is at hh
  rw [Bool.and_eq_true, decide_eq_true_eq] at hh
  exact h ⟨hh.1, hh.2.1, hh.2.2.1⟩
theorem Pl.charge_yes {P : Pl} {g : Nat} (hok : P.ok = true) (hg : g < P.M.length) : P.charge g = P.chargeN g := by
  unfold Pl.charge
  rw [if_pos, Int.toNat_natCast]
  obtain ⟨l, hl⟩ := get_lt hg
  have := ((Pl.ok_iff.1 hok).l l (mem_at hl)).1
  unfold Pl.has
  rw [hok, Bool.true_and]
  refine Pl.is_yes ⟨by omega, by omega, by omega, ?_⟩
  rw [Int.toNat_natCast, Pl.pages_eq hl]
  omega
set_option maxHeartbeats 2000000 in
theorem rChargeP_any (v : Value) (P : Pl) (g : Int) (w : World) (h : PlRow w v P) (hf : P.fit) : Calls Try.prog 29 #[v, .int .i64 g] w (Ret w (.int .i64 (P.charge g))) := by
  obtain ⟨of, or', om, kf, kr, km, rfl, kf1, kf2, kr1, kr2, km1, km2⟩ := h.form
  obtain ⟨n, hn⟩ : ∃ n, P.F.length = n := ⟨_, rfl⟩
  obtain ⟨r, hr⟩ : ∃ n, P.R.length = n := ⟨_, rfl⟩
  obtain ⟨m, hm⟩ : ∃ n, P.M.length = n := ⟨_, rfl⟩
  rw [hn] at h kf1 ⊢
  rw [hr] at h kr1 ⊢
  rw [hm] at h km1 ⊢
  have HN := Lib.hid hn; clear hn
  have HR := Lib.hid hr; clear hr
  have HM := Lib.hid hm; clear hm
  have V := fun w h => rvalid_pl (.agg #[.slice of n kf, .slice or' r kr, .slice om m km]) P w h hf
  have U := fun i w hi h => rcharge_any (.agg #[.slice of n kf, .slice or' r kr, .slice om m km]) P i w h hi hf
  clear hf
  have HU := Lib.hid U; clear U
  cases hok : P.ok
  · rw [hok] at V
    have HV := Lib.hid V; clear V
    have hz := Pl.charge_no (P := P) (g := g) (fun hh => (by rw [hok] at hh; exact absurd hh.1 (by decide)))
    have HZ := Lib.hid hz; clear hz
    go_enter Try.func29, Try.ntmps29
    go_wp2_with fail
    with_reducible refine (HV.out _ (h.below (by repeat (first | with_reducible exact Below.refl _ _ | with_reducible refine Below.drew ?_ | (with_reducible refine Below.alloc ?_ (by first | exact Nat.le_refl _ | omega | (dsimp only; omega) | (simp only [sizes]; omega)) _) | (with_reducible refine Below.setCell ?_ (by first | exact Nat.le_refl _ | omega | (dsimp only; omega) | (simp only [sizes]; omega)) _) | (refine Below.trans ?_ (Below.mono (by with_reducible assumption) (by first | exact Nat.le_refl _ | omega | (dsimp only; omega) | (simp only [sizes]; omega)))))))).mono ?_
    rintro e w1 ⟨rfl, hb1⟩
    obtain ⟨hc1, hf1⟩ := bcell hb1
    have hz1 := bsize hb1
    try simp only [sizes1] at hz1
    try simp only [sizes] at hc1 hf1
    go_wp2_with fail
    go_ret
    exact Ret.mk' (by rw [HZ.out]; rfl) (by repeat (first | with_reducible exact Below.refl _ _ | with_reducible refine Below.drew ?_ | (with_reducible refine Below.alloc ?_ (by first | exact Nat.le_refl _ | omega | (dsimp only; omega) | (simp only [sizes]; omega)) _) | (with_reducible refine Below.setCell ?_ (by first | exact Nat.le_refl _ | omega | (dsimp only; omega) | (simp only [sizes]; omega)) _) | (refine Below.trans ?_ (Below.mono (by with_reducible assumption) (by first | exact Nat.le_refl _ | omega | (dsimp only; omega) | (simp only [sizes]; omega))))))
  · rw [hok] at V
    have HV := Lib.hid V; clear V
    by_cases g0 : 0 ≤ g
    rotate_left
    · have hz := Pl.charge_no (P := P) (g := g) (fun hh => g0 hh.2.1)
      have HZ := Lib.hid hz; clear hz
      go_enter Try.func29, Try.ntmps29
      go_wp2_with fail
      with_reducible refine (HV.out _ (h.below (by repeat (first | with_reducible exact Below.refl _ _ | with_reducible refine Below.drew ?_ | (with_reducible refine Below.alloc ?_ (by first | exact Nat.le_refl _ | omega | (dsimp only; omega) | (simp only [sizes]; omega)) _) | (with_reducible refine Below.setCell ?_ (by first | exact Nat.le_refl _ | omega | (dsimp only; omega) | (simp only [sizes]; omega)) _) | (refine Below.trans ?_ (Below.mono (by with_reducible assumption) (by first | exact Nat.le_refl _ | omega | (dsimp only; omega) | (simp only [sizes]; omega)))))))).mono ?_
      rintro e w1 ⟨rfl, hb1⟩
      obtain ⟨hc1, hf1⟩ := bcell hb1
      have hz1 := bsize hb1
      try simp only [sizes1] at hz1
      try simp only [sizes] at hc1 hf1
      go_wp2_with fail
      go_ret
      exact Ret.mk' (by rw [HZ.out]; rfl) (by repeat (first | with_reducible exact Below.refl _ _ | with_reducible refine Below.drew ?_ | (with_reducible refine Below.alloc ?_ (by first | exact Nat.le_refl _ | omega | (dsimp only; omega) | (simp only [sizes]; omega)) _) | (with_reducible refine Below.setCell ?_ (by first | exact Nat.le_refl _ | omega | (dsimp only; omega) | (simp only [sizes]; omega)) _) | (refine Below.trans ?_ (Below.mono (by with_reducible assumption) (by first | exact Nat.le_refl _ | omega | (dsimp only; omega) | (simp only [sizes]; omega))))))
    by_cases g1 : g < m
    rotate_left
    · have hz := Pl.charge_no (P := P) (g := g) (fun hh => g1 (by rw [← HM.out]; exact hh.2.2))
      have HZ := Lib.hid hz; clear hz
      go_enter Try.func29, Try.ntmps29
      go_wp2_with fail
      with_reducible refine (HV.out _ (h.below (by repeat (first | with_reducible exact Below.refl _ _ | with_reducible refine Below.drew ?_ | (with_reducible refine Below.alloc ?_ (by first | exact Nat.le_refl _ | omega | (dsimp only; omega) | (simp only [sizes]; omega)) _) | (with_reducible refine Below.setCell ?_ (by first | exact Nat.le_refl _ | omega | (dsimp only; omega) | (simp only [sizes]; omega)) _) | (refine Below.trans ?_ (Below.mono (by with_reducible assumption) (by first | exact Nat.le_refl _ | omega | (dsimp only; omega) | (simp only [sizes]; omega)))))))).mono ?_
      rintro e w1 ⟨rfl, hb1⟩
      obtain ⟨hc1, hf1⟩ := bcell hb1
      have hz1 := bsize hb1
      try simp only [sizes1] at hz1
      try simp only [sizes] at hc1 hf1
      go_wp2_with fail
      go_ret
      exact Ret.mk' (by rw [HZ.out]; rfl) (by repeat (first | with_reducible exact Below.refl _ _ | with_reducible refine Below.drew ?_ | (with_reducible refine Below.alloc ?_ (by first | exact Nat.le_refl _ | omega | (dsimp only; omega) | (simp only [sizes]; omega)) _) | (with_reducible refine Below.setCell ?_ (by first | exact Nat.le_refl _ | omega | (dsimp only; omega) | (simp only [sizes]; omega)) _) | (refine Below.trans ?_ (Below.mono (by with_reducible assumption) (by first | exact Nat.le_refl _ | omega | (dsimp only; omega) | (simp only [sizes]; omega))))))
    obtain ⟨i, rfl⟩ : ∃ i : Nat, g = i := ⟨g.toNat, by omega⟩
    have him : i < P.M.length := by rw [HM.out]; omega
    have hz := Pl.charge_yes hok him
    have HIM := Lib.hid him; clear him
    have HZ := Lib.hid hz; clear hz hok
    go_enter Try.func29, Try.ntmps29
    go_wp2_with fail
    with_reducible refine (HV.out _ (h.below (by repeat (first | with_reducible exact Below.refl _ _ | with_reducible refine Below.drew ?_ | (with_reducible refine Below.alloc ?_ (by first | exact Nat.le_refl _ | omega | (dsimp only; omega) | (simp only [sizes]; omega)) _) | (with_reducible refine Below.setCell ?_ (by first | exact Nat.le_refl _ | omega | (dsimp only; omega) | (simp only [sizes]; omega)) _) | (refine Below.trans ?_ (Below.mono (by with_reducible assumption) (by first | exact Nat.le_refl _ | omega | (dsimp only; omega) | (simp only [sizes]; omega)))))))).mono ?_
    rintro e w1 ⟨rfl, hb1⟩
    have D1 := (HasBlock.made w #[.slice of n kf, .slice or' r kr, .slice om m km] 26).below hb1
    have hbw : Below w.heap.size w w1 := (by repeat (first | with_reducible exact Below.refl _ _ | with_reducible refine Below.drew ?_ | (with_reducible refine Below.alloc ?_ (by first | exact Nat.le_refl _ | omega | (dsimp only; omega) | (simp only [sizes]; omega)) _) | (with_reducible refine Below.setCell ?_ (by first | exact Nat.le_refl _ | omega | (dsimp only; omega) | (simp only [sizes]; omega)) _) | (refine Below.trans ?_ (Below.mono (by with_reducible assumption) (by first | exact Nat.le_refl _ | omega | (dsimp only; omega) | (simp only [sizes]; omega))))))
    have hrow := h.below hbw
    clear hb1 h
    obtain ⟨D1_c, D1_f, D1_z⟩ := D1.all
    go_wp2_with fail
    with_reducible refine (HU.out i _ HIM.out hrow).mono ?_
    rintro e w2 ⟨rfl, hb2⟩
    go_wp2_with fail
    go_ret
    exact Ret.mk' (by rw [HZ.out]; rfl) (hbw.trans (hb2.mono hbw.size))
set_option maxHeartbeats 2000000 in
theorem rread_any (v : Value) (P : Pl) (g p : Int) (w : World) (h : PlRow w v P) (hf : P.fit) : Calls Try.prog 24 #[v, .int .i64 g, .int .i64 p] w (Ret w (.tuple #[.string (P.read g p), .bool (P.has g p)])) := by
  have hrd : P.read g p = if P.has g p then (if P.fr g.toNat p.toNat < 0 then zeros128 else P.txt (P.fr g.toNat p.toNat).toNat) else ⟨#[]⟩ := rfl
  have hhas : P.has g p = (P.ok && P.is g p) := rfl
  have HHAS := Lib.hid hhas; clear hhas
  have HRD := Lib.hid hrd; clear hrd
  obtain ⟨of, or', om, kf, kr, km, rfl, kf1, kf2, kr1, kr2, km1, km2⟩ := h.form
  obtain ⟨n, hn⟩ : ∃ n, P.F.length = n := ⟨_, rfl⟩
  obtain ⟨r, hr⟩ : ∃ n, P.R.length = n := ⟨_, rfl⟩
  obtain ⟨m, hm⟩ : ∃ n, P.M.length = n := ⟨_, rfl⟩
  rw [hn] at h kf1 ⊢
  rw [hr] at h kr1 ⊢
  rw [hm] at h km1 ⊢
  have HN := Lib.hid hn; clear hn
  have HR := Lib.hid hr; clear hr
  have HM := Lib.hid hm; clear hm
  have V := fun w h => rvalid_pl (.agg #[.slice of n kf, .slice or' r kr, .slice om m km]) P w h hf
  have U := fun w h => ris_any (.agg #[.slice of n kf, .slice or' r kr, .slice om m km]) P g p w h
  clear hf
  cases hok : P.ok
  · have hh : P.has g p = false := by rw [HHAS.out, hok]; rfl
    rw [hh] at HRD
    rw [hok] at V
    have HH := Lib.hid hh; clear hh hok U
    have HV := Lib.hid V; clear V
    go_enter Try.func24, Try.ntmps24
    go_wp2_with fail
    with_reducible refine (HV.out _ (h.below (by repeat (first | with_reducible exact Below.refl _ _ | with_reducible refine Below.drew ?_ | (with_reducible refine Below.alloc ?_ (by first | exact Nat.le_refl _ | omega | (dsimp only; omega) | (simp only [sizes]; omega)) _) | (with_reducible refine Below.setCell ?_ (by first | exact Nat.le_refl _ | omega | (dsimp only; omega) | (simp only [sizes]; omega)) _) | (refine Below.trans ?_ (Below.mono (by with_reducible assumption) (by first | exact Nat.le_refl _ | omega | (dsimp only; omega) | (simp only [sizes]; omega)))))))).mono ?_
    rintro e w1 ⟨rfl, hb1⟩
    obtain ⟨hc1, hf1⟩ := bcell hb1
    have hz1 := bsize hb1
    try simp only [sizes1] at hz1
    try simp only [sizes] at hc1 hf1
    go_wp2_with fail
    go_ret2
    exact Ret.mk' (by rw [HRD.out, HH.out]; rfl) (by repeat (first | with_reducible exact Below.refl _ _ | with_reducible refine Below.drew ?_ | (with_reducible refine Below.alloc ?_ (by first | exact Nat.le_refl _ | omega | (dsimp only; omega) | (simp only [sizes]; omega)) _) | (with_reducible refine Below.setCell ?_ (by first | exact Nat.le_refl _ | omega | (dsimp only; omega) | (simp only [sizes]; omega)) _) | (refine Below.trans ?_ (Below.mono (by with_reducible assumption) (by first | exact Nat.le_refl _ | omega | (dsimp only; omega) | (simp only [sizes]; omega))))))
  rw [hok] at V
  have HV := Lib.hid V; clear V
  cases his : P.is g p
  · have hh : P.has g p = false := by rw [HHAS.out, his, Bool.and_false]
    rw [hh] at HRD
    rw [his] at U
    have HH := Lib.hid hh; clear hh hok his
    have HU := Lib.hid U; clear U
    go_enter Try.func24, Try.ntmps24
    go_wp2_with fail
    with_reducible refine (HV.out _ (h.below (by repeat (first | with_reducible exact Below.refl _ _ | with_reducible refine Below.drew ?_ | (with_reducible refine Below.alloc ?_ (by first | exact Nat.le_refl _ | omega | (dsimp only; omega) | (simp only [sizes]; omega)) _) | (with_reducible refine Below.setCell ?_ (by first | exact Nat.le_refl _ | omega | (dsimp only; omega) | (simp only [sizes]; omega)) _) | (refine Below.trans ?_ (Below.mono (by with_reducible assumption) (by first | exact Nat.le_refl _ | omega | (dsimp only; omega) | (simp only [sizes]; omega)))))))).mono ?_
    rintro e w1 ⟨rfl, hb1⟩
    have D1 := (HasBlock.made w #[.slice of n kf, .slice or' r kr, .slice om m km] 26).below hb1
    have hbw : Below w.heap.size w w1 := (by repeat (first | with_reducible exact Below.refl _ _ | with_reducible refine Below.drew ?_ | (with_reducible refine Below.alloc ?_ (by first | exact Nat.le_refl _ | omega | (dsimp only; omega) | (simp only [sizes]; omega)) _) | (with_reducible refine Below.setCell ?_ (by first | exact Nat.le_refl _ | omega | (dsimp only; omega) | (simp only [sizes]; omega)) _) | (refine Below.trans ?_ (Below.mono (by with_reducible assumption) (by first | exact Nat.le_refl _ | omega | (dsimp only; omega) | (simp only [sizes]; omega))))))
    have hrow := h.below hbw
    clear hb1 h
    obtain ⟨D1_c, D1_f, D1_z⟩ := D1.all
    go_wp2_with fail
    with_reducible refine (HU.out _ hrow).mono ?_
    rintro e w2 ⟨rfl, hb2⟩
    go_wp2_with fail
    go_ret2
    exact Ret.mk' (by rw [HRD.out, HH.out]; rfl) (hbw.trans (hb2.mono hbw.size))
  · have hh : P.has g p = true := by rw [HHAS.out, his, hok]; rfl
    rw [hh] at HRD
    rw [his] at U
    have HH := Lib.hid hh; clear hh
    have HU := Lib.hid U; clear U
    have H := Pl.ok_iff.1 hok
    have hi := his
    unfold Pl.is at hi
    rw [decide_eq_true_eq] at hi
    obtain ⟨i, rfl⟩ : ∃ i : Nat, g = i := ⟨g.toNat, by omega⟩
    obtain ⟨k, rfl⟩ : ∃ i : Nat, p = i := ⟨p.toNat, by omega⟩
    obtain ⟨l, f, hl, hp⟩ := Pl.is_at his
    have hfb := H.page hl hp
    rw [HN.out] at hfb
    have hfr := Pl.fr_eq hl hp
    rw [if_pos rfl, Int.toNat_natCast, Int.toNat_natCast, hfr] at HRD
    have hpl := Pl.pages_eq hl
    rw [HM.out, Int.toNat_natCast, hpl] at hi
    clear hok his H hfr hpl
    have HL := Lib.hid hl; clear hl
    have HP := Lib.hid hp; clear hp
    go_enter Try.func24, Try.ntmps24
    go_wp2_with fail
    with_reducible refine (HV.out _ (h.below (by repeat (first | with_reducible exact Below.refl _ _ | with_reducible refine Below.drew ?_ | (with_reducible refine Below.alloc ?_ (by first | exact Nat.le_refl _ | omega | (dsimp only; omega) | (simp only [sizes]; omega)) _) | (with_reducible refine Below.setCell ?_ (by first | exact Nat.le_refl _ | omega | (dsimp only; omega) | (simp only [sizes]; omega)) _) | (refine Below.trans ?_ (Below.mono (by with_reducible assumption) (by first | exact Nat.le_refl _ | omega | (dsimp only; omega) | (simp only [sizes]; omega)))))))).mono ?_
    rintro e w1 ⟨rfl, hb1⟩
    have D1 := (HasBlock.made w #[.slice of n kf, .slice or' r kr, .slice om m km] 26).below hb1
    have hbw : Below w.heap.size w w1 := (by repeat (first | with_reducible exact Below.refl _ _ | with_reducible refine Below.drew ?_ | (with_reducible refine Below.alloc ?_ (by first | exact Nat.le_refl _ | omega | (dsimp only; omega) | (simp only [sizes]; omega)) _) | (with_reducible refine Below.setCell ?_ (by first | exact Nat.le_refl _ | omega | (dsimp only; omega) | (simp only [sizes]; omega)) _) | (refine Below.trans ?_ (Below.mono (by with_reducible assumption) (by first | exact Nat.le_refl _ | omega | (dsimp only; omega) | (simp only [sizes]; omega))))))
    have hrow := h.below hbw
    clear hb1 h
    obtain ⟨D1_c, D1_f, D1_z⟩ := D1.all
    go_wp2_with fail
    with_reducible refine (HU.out _ hrow).mono ?_
    rintro e w2 ⟨rfl, hb2⟩
    replace D1 := D1.below hb2
    replace hbw := hbw.trans (hb2.mono hbw.size)
    replace hrow := hrow.below hb2
    clear hb2 D1_c D1_f D1_z
    obtain ⟨mb, moff, uo, uc, rfl, hmb, cm, u1, u2, hr⟩ := hrow.guest HL.out
    obtain ⟨lb, loff, rfl, hlb, cl⟩ := hr.elem HP.out
    clear hr
    obtain ⟨D1_c, D1_f, D1_z⟩ := D1.all
    by_cases h0 : f < 0
    · rw [if_pos h0] at HRD
      clear hrow
      go_wp2_with fail
      with_reducible refine (blank_any _).mono ?_
      rintro e w3 ⟨rfl, hb3⟩
      go_wp2_with fail
      go_ret2
      exact Ret.mk' (by rw [HRD.out, HH.out]; rfl) (hbw.trans (hb3.mono hbw.size))
    · rw [if_neg h0] at HRD
      obtain ⟨j, rfl⟩ : ∃ i : Nat, f = i := ⟨f.toNat, by omega⟩
      obtain ⟨s, hs⟩ := get_lt (xs := P.F) (k := j) (by rw [HN.out]; omega)
      obtain ⟨fb, foff, rfl, hfb1, cf⟩ := (hrow.parts.1).elem hs
      have ht : P.txt (j : Int).toNat = s := by unfold Pl.txt; rw [Int.toNat_natCast, hs]; rfl
      rw [ht] at HRD
      clear ht hs hrow
      go_wp2_with fail
      go_ret2
      exact Ret.mk' (by rw [HRD.out, HH.out]; rfl) hbw
end Go.Proofs.Ytjoopjgpjkmmhaa
