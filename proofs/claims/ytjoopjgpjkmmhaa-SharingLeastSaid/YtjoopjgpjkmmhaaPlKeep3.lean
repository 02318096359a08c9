/-
  What writing and sharing a page do to a valid pool, in plain words. Nothing of the program is walked.
-/
import Derived.Test.YtjoopjgpjkmmhaaPlKeep2
namespace Go.Proofs.Ytjoopjgpjkmmhaa
open Go.RowKit

theorem zero_is {d : ByteArray} (h : d.size = 128) (hz : zeroB d = true) : d = zeros128 := by
  cases d with
  | mk a =>
    unfold zeroB at hz
    rw [List.all_eq_true] at hz
    have hl : a.toList.length = 128 := by rw [Array.length_toList]; exact h
    have e : a.toList = List.replicate 128 0 := by
      rw [List.eq_replicate_iff]
      exact ⟨hl, fun b hb => by have := hz b hb; rwa [beq_iff_eq] at this⟩
    unfold zeros128
    rw [← e]
/-- A page has been written; all else reads as before. -/
structure Pl.Wrote (P Q : Pl) (g p : Nat) (d : ByteArray) : Prop where
  ok : Q.Ok
  al : P.Alike Q
  text : ∀ a b, P.at a b → Q.text a b = if g = a ∧ p = b then d else P.text a b
theorem Pl.fr_neg {P : Pl} (H : P.Ok) {g p : Nat} (h : P.at g p) (h0 : P.fr g p < 0) : P.fr g p = -1 := by
  have := H.at_bd h
  omega
theorem Pl.Gave.fr_self {P Q : Pl} {g p : Nat} (G : P.Gave Q g p) : Q.fr g p = -1 := by rw [G.fr, if_pos ⟨rfl, rfl⟩]
theorem Pl.free_cnt {P : Pl} (H : P.Ok) {i : Nat} (h : P.F[i]? = some ⟨#[]⟩) : P.cnt i = 0 := by
  obtain ⟨s, hs, _, h1, _⟩ := H.fr i (lt_of_get h)
  rw [h] at hs
  injection hs with hs
  exact h1.2 (by rw [← hs]; rfl)
theorem Pl.take_put {P : Pl} (H : P.Ok) {g p i : Nat} {d : ByteArray} (h : P.at g p) (hi : P.F[i]? = some ⟨#[]⟩) : (P.giveUp g p).Put (P.take g p i d) g p i d ∧ (P.giveUp g p).cnt i = 0 := by
  have G := H.gave h
  have HQ := G.ok H
  have hil := lt_of_get hi
  have hc : (P.giveUp g p).cnt i = 0 := by
    have h1 := G.cnt i
    have h2 := Pl.free_cnt H hi
    omega
  refine ⟨Pl.put_of (x := 1) HQ ((G.al.at g p).2 h) G.fr_self (by rw [G.al.f]; exact hil) (by rw [hc]; rfl) _ rfl rfl (List.length_set ..) (fun v hv => ?_), hc⟩
  show ((P.giveUp g p).F.set i d)[v]? = _
  rw [List.getElem?_set]
  by_cases e : v = i
  · subst e
    rw [if_pos rfl, if_pos hv, if_pos rfl]
  · rw [if_neg (fun h => e h.symm), if_neg e]
theorem Pl.wr_law {P : Pl} (H : P.Ok) {g p : Nat} {d : ByteArray} (h : P.at g p) (hd : d.size = 128) : (P.wok' g p d = true → P.Wrote (P.wr' g p d) g p d) ∧ (P.wok' g p d = false → P.wr' g p d = P) := by
  have G := H.gave h
  have HQ := G.ok H
  unfold Pl.wok' Pl.wr'
  cases hz : zeroB d
  · simp only [Bool.false_or, Bool.false_eq_true, if_false]
    cases ho : P.own g p
    · simp only [Bool.false_or, Bool.false_eq_true, if_false]
      cases hfo : firstOf P.F ⟨#[]⟩ with
      | none => exact ⟨fun h => by simp at h, fun _ => rfl⟩
      | some i =>
        refine ⟨fun _ => ?_, fun h => by simp at h⟩
        have hi := (firstOf_some.1 hfo).1
        obtain ⟨T, hc⟩ := Pl.take_put (d := d) H h hi
        have hil : i < (P.giveUp g p).F.length := by rw [G.al.f]; exact lt_of_get hi
        refine ⟨T.ok HQ hil ⟨hd, hz⟩, G.al.trans T.al, fun a b hab => ?_⟩
        rw [T.text HQ hil (.inl hc) ((G.al.at a b).2 hab), G.text H hab]
        split <;> rfl
    · simp only [Bool.true_or, if_true]
      refine ⟨fun _ => ?_, fun h => by simp at h⟩
      unfold Pl.own at ho
      rw [Bool.and_eq_true, decide_eq_true_eq, decide_eq_true_eq] at ho
      obtain ⟨h0, h1⟩ := ho
      obtain ⟨j, hj⟩ : ∃ j : Nat, P.fr g p = j := ⟨(P.fr g p).toNat, by omega⟩
      have hb := H.at_bd h
      have hjl : j < P.F.length := by omega
      rw [hj, Int.toNat_natCast, H.ref_eq hjl] at h1
      rw [hj, Int.toNat_natCast]
      have hal := Pl.setF_alike P j d
      have hF : ∀ v : Nat, (P.setF j d).F[v]? = if v = j ∧ v < P.F.length then some d else P.F[v]? := fun v => by
        show (P.F.set j d)[v]? = _
        rw [List.getElem?_set]
        by_cases e : v = j
        · subst e
          rw [if_pos rfl, if_pos hjl, if_pos ⟨rfl, hjl⟩]
        · rw [if_neg (fun h => e h.symm), if_neg (fun h => e h.1)]
      refine ⟨H.of hal (fun a b hab => H.at_bd ((hal.at a b).1 hab)) (fun f hf => ?_), hal, fun a b hab => ?_⟩
      · obtain ⟨s, hs, hx, e1, e2⟩ := H.fr f hf
        have hf2 := hF f
        by_cases e : f = j
        · subst e
          rw [if_pos ⟨rfl, hjl⟩] at hf2
          exact ⟨d, hf2, hx, ⟨fun h => (by have : P.cnt f = 0 := h; omega), fun h => (by omega)⟩, .inr ⟨hd, hz⟩⟩
        · rw [if_neg (fun h => e h.1)] at hf2
          exact ⟨s, hf2.trans hs, hx, e1, e2⟩
      · unfold Pl.text
        have e : (P.setF j d).fr a b = P.fr a b := rfl
        rw [e]
        by_cases eq : g = a ∧ p = b
        · rw [if_pos eq, ← eq.1, ← eq.2, hj, if_neg (by omega), Int.toNat_natCast]
          unfold Pl.txt
          rw [hF, if_pos ⟨rfl, hjl⟩]
          rfl
        · rw [if_neg eq]
          by_cases h2 : P.fr a b < 0
          · rw [if_pos h2, if_pos h2]
          · rw [if_neg h2, if_neg h2]
            unfold Pl.txt
            rw [hF, if_neg]
            rintro ⟨e3, _⟩
            have := Pl.cnt_two h hab eq hj (by omega)
            omega
  · simp only [Bool.true_or, if_true]
    refine ⟨fun _ => ⟨HQ, G.al, fun a b hab => ?_⟩, fun h => by simp at h⟩
    rw [G.text H hab, zero_is hd hz]
/-- The least frame of a page's content. -/
theorem Pl.least_some {P : Pl} (H : P.Ok) {g p : Nat} (h : P.at g p) (h0 : 0 ≤ P.fr g p) : ∃ q : Nat, P.least g p = some q ∧ (q : Int) ≤ P.fr g p ∧ P.F[q]? = some (P.text g p) ∧ ∀ u : Nat, u < q → P.F[u]? ≠ some (P.text g p) := by
  have hb := H.at_bd h
  obtain ⟨s, hs⟩ := get_lt (xs := P.F) (k := (P.fr g p).toNat) (by omega)
  have ht : P.txt (P.fr g p).toNat = s := by unfold Pl.txt; rw [hs]; rfl
  have htx : P.text g p = s := by unfold Pl.text; rw [if_neg (by omega), ht]
  unfold Pl.least
  rw [ht, htx]
  cases hfo : firstOf P.F s with
  | none => exact absurd hs (firstOf_none.1 hfo _)
  | some q =>
    obtain ⟨h1, h2⟩ := firstOf_some.1 hfo
    refine ⟨q, rfl, ?_, h1, h2⟩
    rcases Nat.lt_or_ge (P.fr g p).toNat q with h3 | h3
    · exact absurd hs (h2 _ h3)
    · omega
theorem Pl.join_put {P : Pl} (H : P.Ok) {g p q : Nat} (h : P.at g p) (hq : (q : Int) < P.fr g p) (ht : P.F[q]? = some (P.text g p)) (h0 : 0 ≤ P.fr g p) : (P.giveUp g p).Put (P.join g p q) g p q (P.text g p) ∧ (P.giveUp g p).F[q]? = some (P.text g p) := by
  have G := H.gave h
  have HQ := G.ok H
  have hb := H.at_bd h
  have hql : q < P.F.length := by omega
  have hc : (P.giveUp g p).cnt q = P.cnt q := by
    have h1 := G.cnt q
    rw [if_neg (by omega)] at h1
    exact h1
  have hF : (P.giveUp g p).F[q]? = some (P.text g p) := by
    rw [G.txt q hql, hc]
    split
    · rename_i e
      obtain ⟨s, hs, _, h1, h2⟩ := H.fr q hql
      have hjl : (P.fr g p).toNat < P.F.length := by omega
      obtain ⟨s', hs', _, h1', _⟩ := H.fr (P.fr g p).toNat hjl
      have hcp : 0 < P.cnt (P.fr g p).toNat := Pl.cnt_of_fr h (by omega)
      have htx : P.text g p = s' := by unfold Pl.text Pl.txt; rw [if_neg (by omega), hs']; rfl
      rw [ht] at hs
      injection hs with hs
      have := h1.1 e
      rw [← hs, htx] at this
      have := h1'.2 this
      omega
    · exact ht
  have hrf : (P.giveUp g p).ref q + 1 = ((P.giveUp g p).cnt q : Int) + 1 := by rw [G.ref q hql]
  refine ⟨Pl.put_of (x := (P.giveUp g p).ref q + 1) HQ ((G.al.at g p).2 h) G.fr_self (by rw [G.al.f]; exact hql) hrf _ rfl rfl rfl (fun v hv => ?_), hF⟩
  show (P.giveUp g p).F[v]? = _
  split
  · rename_i e
    rw [e]
    exact hF
  · rfl
theorem Pl.text_good {P : Pl} (H : P.Ok) {g p : Nat} (h : P.at g p) (h0 : 0 ≤ P.fr g p) : (P.text g p).size = 128 ∧ zeroB (P.text g p) = false := by
  have hb := H.at_bd h
  obtain ⟨s, hs, _, h1, h2⟩ := H.fr (P.fr g p).toNat (by omega)
  have hcp : 0 < P.cnt (P.fr g p).toNat := Pl.cnt_of_fr h (by omega)
  have htx : P.text g p = s := by unfold Pl.text Pl.txt; rw [if_neg (by omega), hs]; rfl
  rw [htx]
  rcases h2 with h2 | h2
  · have := h1.2 h2
    omega
  · exact h2
/-- A page has been shared: all reads as before. -/
structure Pl.Shared (P Q : Pl) : Prop where
  ok : Q.Ok
  al : P.Alike Q
  text : ∀ a b, P.at a b → Q.text a b = P.text a b
theorem Pl.sh_law {P : Pl} (H : P.Ok) {g p : Nat} (h : P.at g p) : P.Shared (P.sh g p) ∧ (P.sok g p = false → P.sh g p = P) := by
  have hsame : P.Shared P := ⟨H, Pl.Alike.refl P, fun _ _ _ => rfl⟩
  unfold Pl.sh Pl.sok Pl.goodS
  rw [Pl.at_has H h, Bool.true_and, Int.toNat_natCast, Int.toNat_natCast]
  by_cases h0 : 0 ≤ P.fr g p
  rotate_left
  · rw [decide_eq_false h0, if_neg (by decide)]
    exact ⟨hsame, fun _ => rfl⟩
  rw [decide_eq_true h0, if_pos rfl, Bool.true_and]
  obtain ⟨q, hq, hle, hF, hmin⟩ := Pl.least_some H h h0
  unfold Pl.sh' Pl.sok'
  rw [hq]
  dsimp only
  by_cases e : (q : Int) = P.fr g p
  · rw [if_pos e]
    exact ⟨hsame, fun _ => rfl⟩
  · rw [if_neg e, decide_eq_false e]
    refine ⟨?_, fun h => by simp at h⟩
    have G := H.gave h
    have HQ := G.ok H
    obtain ⟨T, hF'⟩ := Pl.join_put H h (by omega) hF h0
    have hql : q < (P.giveUp g p).F.length := lt_of_get hF'
    refine ⟨T.ok HQ hql (Pl.text_good H h h0), G.al.trans T.al, fun a b hab => ?_⟩
    rw [T.text HQ hql (.inr hF') ((G.al.at a b).2 hab), G.text H hab]
    split
    · rename_i e
      rw [e.1, e.2]
    · rfl
end Go.Proofs.Ytjoopjgpjkmmhaa
