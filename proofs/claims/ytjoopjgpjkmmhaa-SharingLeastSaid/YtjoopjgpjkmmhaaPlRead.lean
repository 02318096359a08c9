/-
  A page read, frames and pages counted, in the program: walked.
-/
import Derived.Test.YtjoopjgpjkmmhaaPlHas
import Derived.Test.YtjoopjgpjkmmhaaPlLaws
namespace Go.Proofs.Ytjoopjgpjkmmhaa
open Go.RowKit

def Pl.read (P : Pl) (g p : Int) : ByteArray := if P.has g p then (if P.fr g.toNat p.toNat < 0 then zeros128 else P.txt (P.fr g.toNat p.toNat).toNat) else ⟨#[]⟩
set_option maxHeartbeats 2000000 in
theorem pread_any (v : Value) (P : Pl) (g p : Int) (w : World) (h : PlRow w v P) (hf : P.fit) : Calls Try.prog 17 #[v, .int .i64 g, .int .i64 p] w (Ret w (.tuple #[.string (P.read g p), .bool (P.has g p)])) := by
  have hrd : P.read g p = if P.has g p then (if P.fr g.toNat p.toNat < 0 then zeros128 else P.txt (P.fr g.toNat p.toNat).toNat) else ⟨#[]⟩ := rfl
  have HRD := Lib.hid hrd; clear hrd
  obtain ⟨of, or', om, kf, kr, km, rfl, kf1, kf2, kr1, kr2, km1, km2⟩ := h.form
  obtain ⟨n, hn⟩ : ∃ n, P.F.length = n := ⟨_, rfl⟩
  obtain ⟨r, hr⟩ : ∃ n, P.R.length = n := ⟨_, rfl⟩
  obtain ⟨m, hm⟩ : ∃ n, P.M.length = n := ⟨_, rfl⟩
  rw [hn] at h kf1 ⊢
  rw [hr] at h kr1 ⊢
  rw [hm] at h km1 ⊢
  have HN := Lib.hid hn; clear hn
  have HR := Lib.hid hr; clear hr
  have HM := Lib.hid hm; clear hm
  have V := fun w h => phas_any (.agg #[.slice of n kf, .slice or' r kr, .slice om m km]) P g p w h hf
  clear hf
  cases hh : P.has g p
  · rw [hh] at V HRD
    have HV := Lib.hid V; clear V
    have HH := Lib.hid hh; clear hh
    go_enter Try.func17, Try.ntmps17
    go_wp2_with fail
    with_reducible refine (HV.out _ (h.below (by repeat (first | with_reducible exact Below.refl _ _ | with_reducible refine Below.drew ?_ | (with_reducible refine Below.alloc ?_ (by first | exact Nat.le_refl _ | omega | (dsimp only; omega) | (simp only [sizes]; omega)) _) | (with_reducible refine Below.setCell ?_ (by first | exact Nat.le_refl _ | omega | (dsimp only; omega) | (simp only [sizes]; omega)) _) | (refine Below.trans ?_ (Below.mono (by with_reducible assumption) (by first | exact Nat.le_refl _ | omega | (dsimp only; omega) | (simp only [sizes]; omega)))))))).mono ?_
    rintro e w1 ⟨rfl, hb1⟩
    obtain ⟨hc1, hf1⟩ := bcell hb1
    have hz1 := bsize hb1
    try simp only [sizes1] at hz1
    try simp only [sizes] at hc1 hf1
    go_wp2_with fail
    go_ret2
    exact Ret.mk' (by rw [HRD.out]; rfl) (by repeat (first | with_reducible exact Below.refl _ _ | with_reducible refine Below.drew ?_ | (with_reducible refine Below.alloc ?_ (by first | exact Nat.le_refl _ | omega | (dsimp only; omega) | (simp only [sizes]; omega)) _) | (with_reducible refine Below.setCell ?_ (by first | exact Nat.le_refl _ | omega | (dsimp only; omega) | (simp only [sizes]; omega)) _) | (refine Below.trans ?_ (Below.mono (by with_reducible assumption) (by first | exact Nat.le_refl _ | omega | (dsimp only; omega) | (simp only [sizes]; omega))))))
  · rw [hh] at V HRD
    have HV := Lib.hid V; clear V
    unfold Pl.has at hh
    rw [Bool.and_eq_true] at hh
    obtain ⟨hok, his⟩ := hh
    have H := Pl.ok_iff.1 hok
    have hi := his
    unfold Pl.is at hi
    rw [decide_eq_true_eq] at hi
    obtain ⟨i, rfl⟩ : ∃ i : Nat, g = i := ⟨g.toNat, by omega⟩
    obtain ⟨k, rfl⟩ : ∃ i : Nat, p = i := ⟨p.toNat, by omega⟩
    obtain ⟨l, f, hl, hp⟩ := Pl.is_at his
    have hfb := H.page hl hp
    rw [HN.out] at hfb
    have hfr := Pl.fr_eq hl hp
    rw [if_pos rfl, Int.toNat_natCast, Int.toNat_natCast, hfr] at HRD
    have hpl := Pl.pages_eq hl
    rw [HM.out, Int.toNat_natCast, hpl] at hi
    clear hok his H hfr hpl
    obtain ⟨mb, moff, uo, uc, rfl, hmb, cm, u1, u2, hrow⟩ := h.guest hl
    obtain ⟨lb, loff, rfl, hlb, cl⟩ := hrow.elem hp
    clear hrow hl hp
    by_cases h0 : f < 0
    · rw [if_pos h0] at HRD
      go_enter Try.func17, Try.ntmps17
      go_wp2_with fail
      with_reducible refine (HV.out _ (h.below (by repeat (first | with_reducible exact Below.refl _ _ | with_reducible refine Below.drew ?_ | (with_reducible refine Below.alloc ?_ (by first | exact Nat.le_refl _ | omega | (dsimp only; omega) | (simp only [sizes]; omega)) _) | (with_reducible refine Below.setCell ?_ (by first | exact Nat.le_refl _ | omega | (dsimp only; omega) | (simp only [sizes]; omega)) _) | (refine Below.trans ?_ (Below.mono (by with_reducible assumption) (by first | exact Nat.le_refl _ | omega | (dsimp only; omega) | (simp only [sizes]; omega)))))))).mono ?_
      rintro e w1 ⟨rfl, hb1⟩
      obtain ⟨hc1, hf1⟩ := bcell hb1
      have hz1 := bsize hb1
      try simp only [sizes1] at hz1
      try simp only [sizes] at hc1 hf1
      go_wp2_with fail
      with_reducible refine (rep_any _).mono ?_
      rintro e w2 ⟨rfl, hb2⟩
      obtain ⟨hc2, hf2⟩ := bcell hb2
      have hz2 := bsize hb2
      try simp only [sizes1] at hz2
      try simp only [sizes] at hc2 hf2
      go_wp2_with fail
      go_ret2
      exact Ret.mk' (by rw [HRD.out]; rfl) (by repeat (first | with_reducible exact Below.refl _ _ | with_reducible refine Below.drew ?_ | (with_reducible refine Below.alloc ?_ (by first | exact Nat.le_refl _ | omega | (dsimp only; omega) | (simp only [sizes]; omega)) _) | (with_reducible refine Below.setCell ?_ (by first | exact Nat.le_refl _ | omega | (dsimp only; omega) | (simp only [sizes]; omega)) _) | (refine Below.trans ?_ (Below.mono (by with_reducible assumption) (by first | exact Nat.le_refl _ | omega | (dsimp only; omega) | (simp only [sizes]; omega))))))
    · rw [if_neg h0] at HRD
      obtain ⟨j, rfl⟩ : ∃ i : Nat, f = i := ⟨f.toNat, by omega⟩
      obtain ⟨s, hs⟩ := get_lt (xs := P.F) (k := j) (by rw [HN.out]; omega)
      obtain ⟨fb, foff, rfl, hfb1, cf⟩ := (h.parts.1).elem hs
      have ht : P.txt (j : Int).toNat = s := by unfold Pl.txt; rw [Int.toNat_natCast, hs]; rfl
      rw [ht] at HRD
      clear ht hs
      go_enter Try.func17, Try.ntmps17
      go_wp2_with fail
      with_reducible refine (HV.out _ (h.below (by repeat (first | with_reducible exact Below.refl _ _ | with_reducible refine Below.drew ?_ | (with_reducible refine Below.alloc ?_ (by first | exact Nat.le_refl _ | omega | (dsimp only; omega) | (simp only [sizes]; omega)) _) | (with_reducible refine Below.setCell ?_ (by first | exact Nat.le_refl _ | omega | (dsimp only; omega) | (simp only [sizes]; omega)) _) | (refine Below.trans ?_ (Below.mono (by with_reducible assumption) (by first | exact Nat.le_refl _ | omega | (dsimp only; omega) | (simp only [sizes]; omega)))))))).mono ?_
      rintro e w1 ⟨rfl, hb1⟩
      obtain ⟨hc1, hf1⟩ := bcell hb1
      have hz1 := bsize hb1
      try simp only [sizes1] at hz1
      try simp only [sizes] at hc1 hf1
      go_wp2_with fail
      go_ret2
      exact Ret.mk' (by rw [HRD.out]; rfl) (by repeat (first | with_reducible exact Below.refl _ _ | with_reducible refine Below.drew ?_ | (with_reducible refine Below.alloc ?_ (by first | exact Nat.le_refl _ | omega | (dsimp only; omega) | (simp only [sizes]; omega)) _) | (with_reducible refine Below.setCell ?_ (by first | exact Nat.le_refl _ | omega | (dsimp only; omega) | (simp only [sizes]; omega)) _) | (refine Below.trans ?_ (Below.mono (by with_reducible assumption) (by first | exact Nat.le_refl _ | omega | (dsimp only; omega) | (simp only [sizes]; omega))))))
end Go.Proofs.Ytjoopjgpjkmmhaa
