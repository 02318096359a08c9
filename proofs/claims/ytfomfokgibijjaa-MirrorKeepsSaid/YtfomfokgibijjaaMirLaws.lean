/-
  What is true of mirrors: copying and writing keep them valid; a mirror that is done is the same on both sides. Nothing of the program is walked.
-/
import Derived.Test.YtfomfokgibijjaaMirRBegin
import Derived.Test.YtfomfokgibijjaaMirRCopy
namespace Go.Proofs.Ytfomfokgibijjaa
open Go.RowKit

def EachP (S T : List ByteArray) (c : Int) : Prop := ∀ i, i < S.length → ∃ s t, S[i]? = some s ∧ T[i]? = some t ∧ s.size = 128 ∧ t.size = 128 ∧ ((i : Int) < c → s = t)
def HeadP (S T : List ByteArray) (c : Int) : Prop := 1 ≤ S.length ∧ S.length ≤ 64 ∧ T.length = S.length ∧ 0 ≤ c ∧ c ≤ S.length
theorem upB_iff {S T : List ByteArray} {c : Int} (hl : T.length = S.length) : ∀ k, k ≤ S.length → (upB S T c k = true ↔ ∀ i, i < k → ∃ s t, S[i]? = some s ∧ T[i]? = some t ∧ s.size = 128 ∧ t.size = 128 ∧ ((i : Int) < c → s = t))
  | 0, _ => ⟨fun _ i hi => absurd hi (Nat.not_lt_zero _), fun _ => rfl⟩
  | k + 1, hk => by
    obtain ⟨s, hs⟩ := get_lt (xs := S) (k := k) (by omega)
    obtain ⟨t, ht⟩ := get_lt (xs := T) (k := k) (by omega)
    rw [upB, elB_eq hs ht, Bool.and_eq_true, upB_iff hl k (by omega)]
    constructor
    · rintro ⟨h1, h2⟩ i hi
      by_cases e : i = k
      · subst e
        simp only [Bool.and_eq_true, Bool.or_eq_true, decide_eq_true_eq] at h2
        exact ⟨s, t, hs, ht, h2.1.1, h2.1.2, fun h => h2.2.resolve_left (by omega)⟩
      · exact h1 i (by omega)
    · intro h
      refine ⟨fun i hi => h i (by omega), ?_⟩
      obtain ⟨s', t', hs', ht', q1, q2, q3⟩ := h k (by omega)
      rw [hs] at hs'
      rw [ht] at ht'
      injection hs' with hs'
      injection ht' with ht'
      subst hs' ht'
      simp only [Bool.and_eq_true, Bool.or_eq_true, decide_eq_true_eq]
      refine ⟨⟨q1, q2⟩, ?_⟩
      by_cases hc : (k : Int) < c
      · exact .inr (q3 hc)
      · exact .inl (by omega)
theorem validB_iff {S T : List ByteArray} {c : Int} : validB S T c = true ↔ HeadP S T c ∧ EachP S T c := by
  unfold validB headB HeadP EachP
  rw [Bool.and_eq_true, decide_eq_true_eq]
  constructor
  · rintro ⟨h1, h2⟩
    exact ⟨h1, (upB_iff h1.2.2.1 _ (Nat.le_refl _)).1 h2⟩
  · rintro ⟨h1, h2⟩
    exact ⟨h1, (upB_iff h1.2.2.1 _ (Nat.le_refl _)).2 h2⟩
theorem cpC_bd {S T : List ByteArray} {c q : Int} (h : HeadP S T c) : c ≤ cpC S T c q ∧ cpC S T c q ≤ S.length := by
  obtain ⟨_, _, _, h4, h5⟩ := h
  unfold cpC
  split
  · rename_i hg
    unfold goodC at hg
    rw [Bool.and_eq_true, decide_eq_true_eq] at hg
    omega
  · omega
theorem cpT_len (S T : List ByteArray) (c q : Int) : (cpT S T c q).length = T.length := by
  unfold cpT
  split
  · exact cpL_len _ _ _ _
  · rfl
theorem cpT_at {S T : List ByteArray} {c q : Int} (h : HeadP S T c) (i : Nat) : (cpT S T c q)[i]? = if c ≤ i ∧ (i : Int) < cpC S T c q then S[i]? else T[i]? := by
  unfold cpT cpC
  split
  · rename_i hg
    unfold goodC at hg
    rw [Bool.and_eq_true, decide_eq_true_eq] at hg
    obtain ⟨_, _, h3, h4, h5⟩ := h
    rw [cpL_at h3]
    by_cases hi : c ≤ i ∧ (i : Int) < c + min q (S.length - c)
    · rw [if_pos hi, if_pos (by omega)]
    · rw [if_neg hi, if_neg (by omega)]
  · rw [if_neg (by omega)]
theorem copy_valid {S T : List ByteArray} {c q : Int} (h : validB S T c = true) : validB S (cpT S T c q) (cpC S T c q) = true := by
  obtain ⟨hd, he⟩ := validB_iff.1 h
  have hb := cpC_bd (q := q) hd
  refine validB_iff.2 ⟨⟨hd.1, hd.2.1, (cpT_len S T c q).trans hd.2.2.1, by have := hd.2.2.2.1; omega, hb.2⟩, fun i hi => ?_⟩
  obtain ⟨s, t, hs, ht, q1, q2, q3⟩ := he i hi
  rw [cpT_at hd]
  by_cases hc : c ≤ i ∧ (i : Int) < cpC S T c q
  · rw [if_pos hc]
    exact ⟨s, s, hs, hs, q1, q1, fun _ => rfl⟩
  · rw [if_neg hc]
    exact ⟨s, t, hs, ht, q1, q2, fun h => q3 (by omega)⟩
theorem wS_len (S T : List ByteArray) (c b : Int) (d : ByteArray) : (wS S T c b d).length = S.length := by
  unfold wS; split
  · rw [List.length_set]
  · rfl
theorem wT_len (S T : List ByteArray) (c b : Int) (d : ByteArray) : (wT S T c b d).length = T.length := by
  unfold wT; split
  · rw [List.length_set]
  · rfl
theorem write_valid {S T : List ByteArray} {c b : Int} {d : ByteArray} (h : validB S T c = true) : validB (wS S T c b d) (wT S T c b d) c = true := by
  obtain ⟨hd, he⟩ := validB_iff.1 h
  have hdd := hd
  obtain ⟨d1, d2, d3, d4, d5⟩ := hd
  have hl := wS_len S T c b d
  have hlt := wT_len S T c b d
  refine validB_iff.2 ⟨⟨by omega, by omega, by omega, d4, by omega⟩, fun i hi => ?_⟩
  rw [hl] at hi
  obtain ⟨s, t, hs, ht, q1, q2, q3⟩ := he i hi
  by_cases hg : goodW S T c b d = true
  · have hg' := hg
    unfold goodW at hg'
    rw [Bool.and_eq_true, decide_eq_true_eq] at hg'
    obtain ⟨_, g1, g2, g3⟩ := hg'
    obtain ⟨j, rfl⟩ : ∃ j : Nat, b = j := ⟨b.toNat, by omega⟩
    by_cases hbc : (j : Int) < c
    · have e1 : wS S T c j d = S.set j d := by simp [wS, hg]
      have e2 : wT S T c j d = T.set j d := by simp [wT, hg, hbc]
      rw [e1, e2, List.getElem?_set, List.getElem?_set]
      by_cases e : j = i
      · subst e
        rw [if_pos rfl, if_pos rfl, if_pos hi, if_pos (by omega)]
        exact ⟨d, d, rfl, rfl, g3, g3, fun _ => rfl⟩
      · rw [if_neg e, if_neg e]
        exact ⟨s, t, hs, ht, q1, q2, q3⟩
    · have e1 : wS S T c j d = S.set j d := by simp [wS, hg]
      have e2 : wT S T c j d = T := by
        unfold wT
        rw [hg, decide_eq_false hbc]
        rfl
      rw [e1, e2, List.getElem?_set]
      by_cases e : j = i
      · subst e
        rw [if_pos rfl, if_pos hi]
        exact ⟨d, t, rfl, ht, g3, q2, fun h => absurd h hbc⟩
      · rw [if_neg e]
        exact ⟨s, t, hs, ht, q1, q2, q3⟩
  · have e1 : wS S T c b d = S := by unfold wS; rw [if_neg hg]
    have e2 : wT S T c b d = T := by
      unfold wT
      rw [Bool.not_eq_true] at hg
      rw [hg]
      rfl
    rw [e1, e2]
    exact ⟨s, t, hs, ht, q1, q2, q3⟩
theorem done_eq {S T : List ByteArray} {c : Int} (h : doneB S T c = true) : T = S := by
  unfold doneB at h
  rw [Bool.and_eq_true, decide_eq_true_eq] at h
  obtain ⟨hd, he⟩ := validB_iff.1 h.1
  apply List.ext_getElem?
  intro i
  by_cases hi : i < S.length
  · obtain ⟨s, t, hs, ht, _, _, q3⟩ := he i hi
    rw [hs, ht, q3 (by omega)]
  · have hl : T.length = S.length := hd.2.2.1
    rw [List.getElem?_eq_none (by omega), List.getElem?_eq_none (by omega)]
end Go.Proofs.Ytfomfokgibijjaa
