/-
  How many frames a write and a share take and free, in plain words. Nothing of the program is walked.
-/
import Derived.Test.YtjoopjgpjkmmhaaPlFilled
namespace Go.Proofs.Ytjoopjgpjkmmhaa
open Go.RowKit

theorem countP_set {α : Type} {q : α → Bool} {l : List α} {i : Nat} {a x : α} (h : l[i]? = some a) : (l.set i x).countP q + (if q a then 1 else 0) = l.countP q + (if q x then 1 else 0) := by
  induction l generalizing i with
  | nil => simp at h
  | cons b l ih =>
    cases i with
    | zero =>
      simp at h
      subst h
      rw [List.set_cons_zero, List.countP_cons, List.countP_cons]
      omega
    | succ i =>
      simp at h
      rw [List.set_cons_succ, List.countP_cons, List.countP_cons]
      have := ih h
      omega
theorem Shape.map {n : Nat} {P : Pl} (h : Shape n P) : ∃ l0 l1, P.M = [l0, l1] ∧ l0.length = 4 ∧ l1.length = 4 := by
  have hrow : ∀ (g : Nat) (l : List Int), P.M[g]? = some l → g < 2 ∧ l.length = 4 := by
    intro g l hl
    have h1 := (h.ok.l l (mem_at hl)).1
    obtain ⟨f, hf⟩ := get_lt (xs := l) (k := 0) (by omega)
    have hg := ((h.at' g 0).1 ⟨l, f, hl, hf⟩).1
    refine ⟨hg, ?_⟩
    have h3 : l.length ≤ 4 := by
      rcases Nat.lt_or_ge 4 l.length with h4 | h4
      · obtain ⟨f, hf⟩ := get_lt (xs := l) (k := 4) h4
        have := ((h.at' g 4).1 ⟨l, f, hl, hf⟩).2
        omega
      · exact h4
    obtain ⟨l', f', hl', hf'⟩ := (h.at' g 3).2 ⟨hg, by omega⟩
    rw [hl] at hl'
    injection hl' with hl'
    subst hl'
    have := lt_of_get hf'
    omega
  obtain ⟨l0, f0, h0, _⟩ := (h.at' 0 0).2 ⟨by omega, by omega⟩
  obtain ⟨l1, f1, h1, _⟩ := (h.at' 1 0).2 ⟨by omega, by omega⟩
  refine ⟨l0, l1, ?_, (hrow 0 l0 h0).2, (hrow 1 l1 h1).2⟩
  have hlen : P.M.length ≤ 2 := by
    rcases Nat.lt_or_ge 2 P.M.length with h4 | h4
    · obtain ⟨l, hl⟩ := get_lt (xs := P.M) (k := 2) h4
      have := (hrow 2 l hl).1
      omega
    · exact h4
  match hM : P.M, h0, h1, hlen with
  | [], h0, _, _ => simp at h0
  | [a], _, h1, _ => simp at h1
  | [a, b], h0, h1, _ =>
    simp at h0 h1
    rw [h0, h1]
  | _ :: _ :: _ :: _, _, _, hl => simp at hl
def sumC (L : List Int) : Nat → Nat
  | 0 => 0
  | n + 1 => sumC L n + L.count (n : Int)
theorem sumC_cons (a : Int) (L : List Int) : ∀ n : Nat, sumC (a :: L) n = sumC L n + if 0 ≤ a ∧ a < n then 1 else 0
  | 0 => by rw [if_neg (by omega)]; rfl
  | n + 1 => by
    rw [sumC, sumC, sumC_cons a L n, List.count_cons]
    by_cases h : a = (n : Int)
    · subst h
      rw [if_neg (by omega), if_pos (by simp), if_pos (by omega)]
      omega
    · rw [if_neg (show ¬ (a == (n : Int)) = true by rw [beq_iff_eq]; exact h)]
      by_cases h2 : 0 ≤ a ∧ a < n
      · rw [if_pos h2, if_pos (by omega)]
        omega
      · rw [if_neg h2, if_neg (by omega)]
        omega
theorem sumC_eq {n : Nat} : ∀ (L : List Int), (∀ f ∈ L, f < (n : Int)) → sumC L n = L.countP hasB
  | [], _ => by
    have : ∀ k, sumC [] k = 0 := fun k => by
      induction k with
      | zero => rfl
      | succ k ih => rw [sumC, ih]; rfl
    rw [this]
    rfl
  | a :: L, h => by
    have ha := h a (List.mem_cons_self ..)
    rw [sumC_cons, sumC_eq L (fun f hf => h f (List.mem_cons_of_mem _ hf)), List.countP_cons]
    congr 1
    unfold hasB
    by_cases h0 : 0 ≤ a
    · rw [if_pos ⟨h0, ha⟩, decide_eq_true h0, if_pos rfl]
    · rw [if_neg (fun h => h0 h.1), decide_eq_false h0]
      rfl
/-- If no frame is free, then each has a page; one page more where a frame has two. -/
theorem sum_ge {L : List Int} : ∀ n : Nat, (∀ v : Nat, v < n → 0 < L.count (v : Int)) → n ≤ sumC L n ∧ ((∃ v : Nat, v < n ∧ 2 ≤ L.count (v : Int)) → n + 1 ≤ sumC L n)
  | 0, _ => ⟨Nat.zero_le _, fun ⟨v, hv, _⟩ => absurd hv (Nat.not_lt_zero _)⟩
  | n + 1, h => by
    have ih := sum_ge n (fun v hv => h v (by omega))
    have hn := h n (by omega)
    rw [sumC]
    refine ⟨by omega, fun ⟨v, hv, h2⟩ => ?_⟩
    by_cases e : v = n
    · subst e
      omega
    · have := ih.2 ⟨v, by omega, h2⟩
      omega
theorem countP_lt {α : Type} {q : α → Bool} {l : List α} {i : Nat} {a : α} (h : l[i]? = some a) (hq : q a = false) : l.countP q < l.length := by
  have h1 := countP_set (q := q) (x := a) h
  have h2 : l.countP q ≠ l.length := by
    intro e
    rw [List.countP_eq_length] at e
    have := e a (mem_at h)
    rw [hq] at this
    cases this
  have := List.countP_le_length (p := q) (l := l)
  omega
/-- With eight frames for eight pages a write always finds a frame. -/
theorem Shape.wok {P : Pl} (h : Shape 8 P) {g p : Nat} {d : ByteArray} (hg : g < 2) (hp : p < 4) (hd : d.size = 128) : P.wok g p d = true := by
  have hat := (h.at' g p).2 ⟨hg, hp⟩
  rw [(Pl.wr_eq h.ok hat hd).2]
  unfold Pl.wok'
  cases hz : zeroB d
  · rw [Bool.false_or]
    cases ho : P.own g p
    · rw [Bool.false_or]
      cases hfo : firstOf P.F ⟨#[]⟩ with
      | some i => rfl
      | none =>
        exfalso
        have hn := firstOf_none.1 hfo
        have hpos : ∀ v : Nat, v < 8 → 0 < P.M.flatten.count (v : Int) := fun v hv => by
          rcases Nat.eq_zero_or_pos (P.cnt v) with e | e
          · obtain ⟨s, hs, _, h1, _⟩ := h.ok.fr v (by rw [h.f]; exact hv)
            rw [empty_of_size (h1.1 e)] at hs
            exact absurd hs (hn v)
          · exact e
        obtain ⟨s1, s2⟩ := sum_ge 8 hpos
        obtain ⟨l0, l1, hM, e0, e1⟩ := h.map
        have hlen : P.M.flatten.length = 8 := by rw [hM]; simp [e0, e1]
        have hbd : ∀ f ∈ P.M.flatten, f < ((8 : Nat) : Int) := fun f hf => by
          rw [List.mem_flatten] at hf
          obtain ⟨l, hl, hf⟩ := hf
          have := (h.ok.pg l hl f hf).2
          rw [h.f] at this
          exact this
        have hs := sumC_eq (n := 8) P.M.flatten hbd
        have hle := List.countP_le_length (p := hasB) (l := P.M.flatten)
        have hb := h.ok.at_bd hat
        by_cases h0 : P.fr g p < 0
        · have hmem : P.fr g p ∈ P.M.flatten := by
            obtain ⟨l, hl, hpp⟩ := Pl.at_fr hat
            rw [List.mem_flatten]
            exact ⟨l, mem_at hl, mem_at hpp⟩
          obtain ⟨i, hi⟩ := List.getElem?_of_mem hmem
          have := countP_lt (q := hasB) hi (decide_eq_false (by omega))
          omega
        · obtain ⟨j, hj⟩ : ∃ j : Nat, P.fr g p = j := ⟨(P.fr g p).toNat, by omega⟩
          have hjl : j < 8 := by rw [hj, h.f] at hb; omega
          have h2 : 2 ≤ P.M.flatten.count (j : Int) := by
            have hc1 : 0 < P.M.flatten.count (j : Int) := hpos j hjl
            rcases Nat.lt_or_ge 1 (P.M.flatten.count (j : Int)) with h3 | h3
            · exact h3
            · exfalso
              unfold Pl.own at ho
              rw [hj, Int.toNat_natCast, h.ok.ref_eq (by rw [h.f]; exact hjl), decide_eq_true (by omega), Bool.true_and] at ho
              have hc : P.cnt j = 1 := by
                show P.M.flatten.count (j : Int) = 1
                omega
              rw [hc] at ho
              simp at ho
          have := s2 ⟨j, hjl, h2⟩
          omega
    · rfl
  · rfl
/-! frames that are free -/
theorem Pl.free_gave {P : Pl} (H : P.Ok) {g p : Nat} (h : P.at g p) : P.freeN ≤ (P.giveUp g p).freeN ∧ (P.giveUp g p).freeN ≤ P.freeN + 1 := by
  unfold Pl.giveUp
  split
  · exact ⟨Nat.le_refl _, by omega⟩
  · rename_i h0
    have hb := H.at_bd h
    split
    · show P.F.countP emptyB ≤ (P.F.set (P.fr g p).toNat ⟨#[]⟩).countP emptyB ∧ (P.F.set (P.fr g p).toNat ⟨#[]⟩).countP emptyB ≤ P.F.countP emptyB + 1
      obtain ⟨s, hs⟩ := get_lt (xs := P.F) (k := (P.fr g p).toNat) (by omega)
      have := countP_set (q := emptyB) (x := (⟨#[]⟩ : ByteArray)) hs
      rw [if_pos (show emptyB ⟨#[]⟩ = true from rfl)] at this
      split at this <;> omega
    · exact ⟨Nat.le_refl _, by show P.F.countP emptyB ≤ P.F.countP emptyB + 1; omega⟩
theorem Pl.free_wr {P : Pl} (H : P.Ok) {g p : Nat} {d : ByteArray} (h : P.at g p) (hd : d.size = 128) : P.freeN ≤ (P.wr' g p d).freeN + 1 ∧ (P.wr' g p d).freeN ≤ P.freeN + 1 ∧ (zeroB d = true → P.freeN ≤ (P.wr' g p d).freeN) := by
  have G := Pl.free_gave H h
  have hde : emptyB d = false := decide_eq_false (by omega)
  unfold Pl.wr'
  cases hz : zeroB d
  · simp only [Bool.false_eq_true, if_false]
    cases ho : P.own g p
    · simp only [Bool.false_eq_true, if_false]
      cases hfo : firstOf P.F ⟨#[]⟩ with
      | none =>
        dsimp only
        exact ⟨by omega, by omega, fun h => by cases h⟩
      | some i =>
        have hi := (firstOf_some.1 hfo).1
        have hG := H.gave h
        have hc := (Pl.take_put (d := d) H h hi).2
        have ht := hG.txt i (lt_of_get hi)
        rw [if_pos hc] at ht
        have := countP_set (q := emptyB) (x := d) ht
        rw [if_pos (show emptyB ⟨#[]⟩ = true from rfl), hde] at this
        have e : (P.take g p i d).freeN = ((P.giveUp g p).F.set i d).countP emptyB := rfl
        have e2 : (P.giveUp g p).freeN = (P.giveUp g p).F.countP emptyB := rfl
        dsimp only
        rw [e]
        simp only [Bool.false_eq_true, if_false] at this
        exact ⟨by omega, by omega, fun h => by cases h⟩
    · simp only [if_true]
      unfold Pl.own at ho
      rw [Bool.and_eq_true, decide_eq_true_eq] at ho
      have hb := H.at_bd h
      obtain ⟨s, hs⟩ := get_lt (xs := P.F) (k := (P.fr g p).toNat) (by omega)
      have := countP_set (q := emptyB) (x := d) hs
      rw [hde] at this
      have e : (P.setF (P.fr g p).toNat d).freeN = (P.F.set (P.fr g p).toNat d).countP emptyB := rfl
      have e2 : P.freeN = P.F.countP emptyB := rfl
      rw [e]
      simp only [Bool.false_eq_true, if_false] at this
      split at this
      · exact ⟨by omega, by omega, fun h => by cases h⟩
      · exact ⟨by omega, by omega, fun h => by cases h⟩
  · simp only [if_true]
    exact ⟨by omega, by omega, fun _ => by omega⟩
theorem Pl.free_sh {P : Pl} (H : P.Ok) {g p : Nat} (h : P.at g p) : P.freeN ≤ (P.sh g p).freeN ∧ (P.sh g p).freeN ≤ P.freeN + 1 := by
  have G := Pl.free_gave H h
  unfold Pl.sh
  split
  · rw [Int.toNat_natCast, Int.toNat_natCast]
    unfold Pl.sh'
    split
    · split
      · exact ⟨Nat.le_refl _, by omega⟩
      · exact G
    · exact ⟨Nat.le_refl _, by omega⟩
  · exact ⟨Nat.le_refl _, by omega⟩
/-! a guest's frames -/
theorem Pl.charge_set {P : Pl} {g p : Nat} (h : P.at g p) (x : Int) (a : Nat) : (P.setM g p x).chargeN a + (if g = a ∧ 0 ≤ P.fr g p then 1 else 0) = P.chargeN a + (if g = a ∧ 0 ≤ x then 1 else 0) := by
  obtain ⟨l, hl, hp⟩ := Pl.at_fr h
  unfold Pl.chargeN
  rw [Pl.setM_pages]
  by_cases e : g = a
  · subst e
    rw [if_pos ⟨rfl, lt_of_get hl⟩, Pl.pages_eq hl]
    have := countP_set (q := hasB) (x := x) hp
    unfold hasB at this ⊢
    simp only [decide_eq_true_eq, true_and] at this ⊢
    exact this
  · rw [if_neg (fun h => e h.1), if_neg (fun h => e h.1), if_neg (fun h => e h.1)]
theorem Pl.charge_give {P : Pl} {g p : Nat} (h : P.at g p) (a : Nat) : (P.giveUp g p).chargeN a + (if g = a ∧ 0 ≤ P.fr g p then 1 else 0) = P.chargeN a := by
  have h1 := Pl.charge_set h (-1) a
  rw [if_neg (show ¬ (g = a ∧ (0 : Int) ≤ -1) by omega)] at h1
  unfold Pl.giveUp
  split
  · rw [if_neg (by omega)]
    rfl
  · split <;> exact h1
theorem Pl.charge_zero {P : Pl} {g p : Nat} {d : ByteArray} (h : P.at g p) (hz : zeroB d = true) (a : Nat) : (P.wr' g p d).chargeN a ≤ P.chargeN a := by
  unfold Pl.wr'
  rw [if_pos hz]
  have := Pl.charge_give h a
  omega
theorem Pl.charge_sh {P : Pl} (H : P.Ok) {g p : Nat} (h : P.at g p) (a : Nat) : (P.sh g p).chargeN a = P.chargeN a := by
  unfold Pl.sh
  split
  · rename_i hg
    unfold Pl.goodS at hg
    rw [Bool.and_eq_true, decide_eq_true_eq, Int.toNat_natCast, Int.toNat_natCast] at hg
    rw [Int.toNat_natCast, Int.toNat_natCast]
    unfold Pl.sh'
    split
    · rename_i q _
      split
      · rfl
      · have h1 := Pl.charge_give h a
        have hat : (P.giveUp g p).at g p := ((Pl.giveUp_alike P g p).at g p).2 h
        have h2 := Pl.charge_set hat (q : Int) a
        have e : (P.join g p q).chargeN a = ((P.giveUp g p).setM g p q).chargeN a := rfl
        rw [e]
        rw [(H.gave h).fr_self] at h2
        by_cases ea : g = a
        · rw [if_pos ⟨ea, hg.2⟩] at h1
          rw [if_neg (by omega), if_pos ⟨ea, by omega⟩] at h2
          omega
        · rw [if_neg (fun h => ea h.1)] at h1
          rw [if_neg (fun h => ea h.1), if_neg (fun h => ea h.1)] at h2
          omega
    · rfl
  · rfl
end Go.Proofs.Ytjoopjgpjkmmhaa
