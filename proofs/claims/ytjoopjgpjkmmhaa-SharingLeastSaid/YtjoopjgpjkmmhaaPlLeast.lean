/-
  Sharing until nothing changes leaves one frame for each content, in plain words. Nothing of the program is walked.
-/
import Derived.Test.YtjoopjgpjkmmhaaPlSaves
namespace Go.Proofs.Ytjoopjgpjkmmhaa
open Go.RowKit

/-- No lesser frame has the page's content. -/
def Pl.least' (P : Pl) (g p : Nat) : Prop := ∀ u : Nat, (u : Int) < P.fr g p → P.F[u]? ≠ some (P.text g p)
theorem Pl.sok_least {P : Pl} (H : P.Ok) {g p : Nat} (h : P.at g p) : P.sok g p = false ↔ P.least' g p := by
  unfold Pl.sok Pl.goodS
  rw [Pl.at_has H h, Bool.true_and, Int.toNat_natCast, Int.toNat_natCast]
  by_cases h0 : 0 ≤ P.fr g p
  · obtain ⟨q, hq, hle, hF, hmin⟩ := Pl.least_some H h h0
    rw [decide_eq_true h0, Bool.true_and]
    unfold Pl.sok'
    rw [hq]
    dsimp only
    rw [Bool.not_eq_false', decide_eq_true_eq]
    constructor
    · intro e u hu
      exact hmin u (by omega)
    · intro hl
      rcases Int.lt_or_eq_of_le hle with h1 | h1
      · exact absurd hF (hl q h1)
      · exact h1
  · rw [decide_eq_false h0, Bool.false_and]
    exact ⟨fun _ u hu => by omega, fun _ => rfl⟩
theorem Pl.least_sh {P : Pl} {g p : Nat} (H : P.Ok) (h : P.at g p) (hl : P.least' g p) : P.sh g p = P := (Pl.sh_law H h).2 ((Pl.sok_least H h).2 hl)
/-- What a share does to frames and pages. -/
theorem Pl.sh_frames {P : Pl} (H : P.Ok) {g p : Nat} (h : P.at g p) : (∀ v : Nat, (P.sh g p).F[v]? = P.F[v]? ∨ (P.sh g p).F[v]? = some ⟨#[]⟩) ∧ (∀ a b, ¬ (g = a ∧ p = b) → (P.sh g p).fr a b = P.fr a b) ∧ (P.sh g p).least' g p ∧ (0 ≤ (P.sh g p).fr g p ↔ 0 ≤ P.fr g p) := by
  by_cases hs : P.sok g p = false
  · rw [(Pl.sh_law H h).2 hs]
    exact ⟨fun _ => .inl rfl, fun _ _ _ => rfl, (Pl.sok_least H h).1 hs, Iff.rfl⟩
  · have hsame := (Pl.sh_law H h).1.text g p h
    have hst : P.sok g p = true := by simpa using hs
    have hst' := hst
    unfold Pl.sok Pl.goodS at hst
    rw [Pl.at_has H h, Bool.true_and, Int.toNat_natCast, Int.toNat_natCast, Bool.and_eq_true, decide_eq_true_eq] at hst
    obtain ⟨h0, hk⟩ := hst
    obtain ⟨q, hq, hle, hF, hmin⟩ := Pl.least_some H h h0
    unfold Pl.sok' at hk
    rw [hq] at hk
    simp only [Bool.not_eq_true', decide_eq_false_iff_not] at hk
    have e : P.sh g p = P.join g p q := by
      unfold Pl.sh Pl.goodS
      rw [Pl.at_has H h, Bool.true_and, Int.toNat_natCast, Int.toNat_natCast, decide_eq_true h0, if_pos rfl]
      unfold Pl.sh'
      rw [hq]
      dsimp only
      rw [if_neg hk]
    obtain ⟨T, hF'⟩ := Pl.join_put H h (by omega) hF h0
    have G := H.gave h
    have hgood := Pl.text_good H h h0
    rw [← e] at T
    have hfr : ∀ v : Nat, (P.sh g p).F[v]? = P.F[v]? ∨ (P.sh g p).F[v]? = some ⟨#[]⟩ := by
      intro v
      rcases Nat.lt_or_ge v P.F.length with hv | hv
      · rw [T.txt v (by rw [G.al.f]; exact hv)]
        split
        · rename_i e
          rw [e, hF]
          exact .inl rfl
        · rw [G.txt v hv]
          split
          · exact .inr rfl
          · exact .inl rfl
      · left
        rw [List.getElem?_eq_none hv, List.getElem?_eq_none (by rw [T.al.f, G.al.f]; exact hv)]
    refine ⟨hfr, fun a b hab => ?_, ?_, ?_⟩
    · rw [T.fr, if_neg hab, G.fr, if_neg hab]
    · intro u hu
      rw [T.fr, if_pos ⟨rfl, rfl⟩] at hu
      rw [hsame]
      rcases hfr u with e1 | e1
      · rw [e1]
        exact hmin u (by omega)
      · rw [e1]
        intro e2
        injection e2 with e2
        rw [← e2] at hgood
        exact absurd hgood.1 (by decide)
    · rw [T.fr, if_pos ⟨rfl, rfl⟩]
      omega
theorem Pl.least_keep {P : Pl} (H : P.Ok) {g p a b : Nat} (h : P.at g p) (h' : P.at a b) (hl : P.least' a b) : (P.sh g p).least' a b := by
  obtain ⟨F1, F2, F3, F4⟩ := Pl.sh_frames H h
  by_cases e : g = a ∧ p = b
  · rw [← e.1, ← e.2]
    exact F3
  · intro u hu
    rw [F2 a b e] at hu
    rw [(Pl.sh_law H h).1.text a b h']
    rcases F1 u with e1 | e1
    · rw [e1]
      exact hl u hu
    · rw [e1]
      intro e2
      injection e2 with e2
      have := (Pl.text_good H h' (by omega)).1
      rw [← e2] at this
      exact absurd this (by decide)
/-! different contents are counted -/
theorem nodup_le {α : Type} [DecidableEq α] : ∀ {l m : List α}, l.Nodup → (∀ x ∈ l, x ∈ m) → l.length ≤ m.length
  | [], _, _, _ => Nat.zero_le _
  | a :: l, m, hn, hs => by
    rw [List.nodup_cons] at hn
    have ha := hs a (List.mem_cons_self ..)
    have ih := nodup_le (l := l) (m := m.erase a) hn.2 (fun x hx => by
      have hne : x ≠ a := fun e => hn.1 (e ▸ hx)
      exact (List.mem_erase_of_ne hne).2 (hs x (List.mem_cons_of_mem _ hx)))
    rw [List.length_erase_of_mem ha] at ih
    have : 0 < m.length := List.length_pos_of_mem ha
    rw [List.length_cons]
    omega
/-- The contents of the pages seen so far that have a frame, each once. -/
structure Seen (P : Pl) (vis : Nat → Nat → Prop) (S : List ByteArray) : Prop where
  nd : S.Nodup
  src : ∀ s ∈ S, ∃ a b, vis a b ∧ P.at a b ∧ 0 ≤ P.fr a b ∧ P.text a b = s
  all : ∀ a b, vis a b → P.at a b → 0 ≤ P.fr a b → P.text a b ∈ S
theorem Seen.nil (P : Pl) {vis : Nat → Nat → Prop} (h : ∀ a b, ¬ vis a b) : Seen P vis [] := ⟨List.nodup_nil, fun s hs => by simp at hs, fun a b hv => absurd hv (h a b)⟩
theorem Seen.stay {P : Pl} {vis vis' : Nat → Nat → Prop} {S : List ByteArray} (h : Seen P vis S) {g p : Nat} (hv : ∀ a b, vis' a b ↔ vis a b ∨ (a = g ∧ b = p)) (hm : P.fr g p < 0 ∨ P.text g p ∈ S) : Seen P vis' S :=
  ⟨h.nd, fun s hs => by
    obtain ⟨a, b, h1, h2⟩ := h.src s hs
    exact ⟨a, b, (hv a b).2 (.inl h1), h2⟩, fun a b h1 h2 h3 => by
    rcases (hv a b).1 h1 with h4 | ⟨rfl, rfl⟩
    · exact h.all a b h4 h2 h3
    · rcases hm with hm | hm
      · omega
      · exact hm⟩
theorem Seen.push {P : Pl} {vis vis' : Nat → Nat → Prop} {S : List ByteArray} (h : Seen P vis S) {g p : Nat} (hat : P.at g p) (hv : ∀ a b, vis' a b ↔ vis a b ∨ (a = g ∧ b = p)) (h0 : 0 ≤ P.fr g p) (hm : P.text g p ∉ S) : Seen P vis' (S ++ [P.text g p]) :=
  ⟨by
    rw [List.nodup_append]
    refine ⟨h.nd, by simp, fun x hx y hy e => ?_⟩
    simp at hy
    exact hm (by rw [← hy, ← e]; exact hx), fun s hs => by
    rw [List.mem_append] at hs
    rcases hs with hs | hs
    · obtain ⟨a, b, h1, h2⟩ := h.src s hs
      exact ⟨a, b, (hv a b).2 (.inl h1), h2⟩
    · simp at hs
      exact ⟨g, p, (hv g p).2 (.inr ⟨rfl, rfl⟩), hat, h0, hs.symm⟩, fun a b h1 h2 h3 => by
    rw [List.mem_append]
    rcases (hv a b).1 h1 with h4 | ⟨rfl, rfl⟩
    · exact .inl (h.all a b h4 h2 h3)
    · exact .inr (by simp)⟩
/-- The frames in use. -/
def Pl.used (P : Pl) (k : Nat) : List Nat := (List.range k).filter (fun v => !emptyB (P.txt v))
theorem Pl.used_len {P : Pl} : ∀ k : Nat, k ≤ P.F.length → (P.F.take k).countP emptyB + (P.used k).length = k
  | 0, _ => rfl
  | k + 1, h => by
    have ih := Pl.used_len (P := P) k (by omega)
    obtain ⟨s, hs⟩ := get_lt (xs := P.F) (k := k) (by omega)
    rw [countP_succ hs]
    have ht : P.txt k = s := by unfold Pl.txt; rw [hs]; rfl
    unfold Pl.used at ih ⊢
    rw [List.range_succ, List.filter_append, List.length_append]
    have e : (List.filter (fun v => !emptyB (P.txt v)) [k]).length = if emptyB s then 0 else 1 := by
      rw [List.filter_cons, ht]
      cases emptyB s <;> rfl
    rw [e]
    cases emptyB s
    · simp only [Bool.false_eq_true, if_false]
      omega
    · simp only [if_true]
      omega
theorem Pl.used_mem {P : Pl} (H : P.Ok) {v : Nat} : v ∈ P.used P.F.length ↔ ∃ a b, P.at a b ∧ P.fr a b = (v : Int) := by
  unfold Pl.used
  rw [List.mem_filter, List.mem_range]
  constructor
  · rintro ⟨hv, he⟩
    obtain ⟨s, hs, _, h1, _⟩ := H.fr v hv
    have ht : P.txt v = s := by unfold Pl.txt; rw [hs]; rfl
    rw [ht] at he
    have hc : P.cnt v ≠ 0 := fun e => by
      have := h1.1 e
      unfold emptyB at he
      rw [decide_eq_true this] at he
      cases he
    have hm : (v : Int) ∈ P.M.flatten := List.count_pos_iff.1 (Nat.pos_of_ne_zero hc)
    rw [List.mem_flatten] at hm
    obtain ⟨l, hl, hf⟩ := hm
    obtain ⟨a, ha⟩ := List.getElem?_of_mem hl
    obtain ⟨b, hb⟩ := List.getElem?_of_mem hf
    exact ⟨a, b, ⟨l, v, ha, hb⟩, Pl.fr_eq ha hb⟩
  · rintro ⟨a, b, hab, hf⟩
    have hb := H.at_bd hab
    have hv : v < P.F.length := by omega
    refine ⟨hv, ?_⟩
    have hg := Pl.text_good H hab (by omega)
    have ht : P.text a b = P.txt v := by unfold Pl.text; rw [hf, if_neg (by omega), Int.toNat_natCast]
    rw [ht] at hg
    unfold emptyB
    rw [decide_eq_false (by omega)]
    rfl
/-- As many frames in use as different contents. -/
theorem Seen.count {P : Pl} {vis : Nat → Nat → Prop} {S : List ByteArray} (h : Seen P vis S) (H : P.Ok) (hv : ∀ a b, P.at a b → vis a b) (hl : ∀ a b, P.at a b → P.least' a b) : P.freeN + S.length = P.F.length := by
  have h1 := Pl.used_len (P := P) P.F.length (Nat.le_refl _)
  rw [List.take_length] at h1
  have hU : ((P.used P.F.length).map P.txt).Nodup := by
    have hnd : (P.used P.F.length).Nodup := List.Pairwise.filter _ List.nodup_range
    unfold List.Nodup at hnd ⊢
    rw [List.pairwise_map]
    refine List.Pairwise.imp_of_mem (fun {u v} hu hw hne he => ?_) hnd
    obtain ⟨a, b, hab, hf⟩ := (Pl.used_mem H).1 hu
    obtain ⟨a', b', hab', hf'⟩ := (Pl.used_mem H).1 hw
    have e1 : P.text a b = P.txt u := by unfold Pl.text; rw [hf, if_neg (by omega), Int.toNat_natCast]
    have e2 : P.text a' b' = P.txt v := by unfold Pl.text; rw [hf', if_neg (by omega), Int.toNat_natCast]
    have b1 := H.at_bd hab
    have b2 := H.at_bd hab'
    have g1 : P.F[u]? = some (P.txt u) := by
      obtain ⟨s, hs⟩ := get_lt (xs := P.F) (k := u) (by omega)
      unfold Pl.txt
      rw [hs]
      rfl
    have g2 : P.F[v]? = some (P.txt v) := by
      obtain ⟨s, hs⟩ := get_lt (xs := P.F) (k := v) (by omega)
      unfold Pl.txt
      rw [hs]
      rfl
    rcases Nat.lt_or_gt_of_ne hne with hlt | hlt
    · exact hl a' b' hab' u (by omega) (by rw [g1, e2, he])
    · exact hl a b hab v (by omega) (by rw [g2, e1, he])
  have l1 := nodup_le hU (m := S) (fun x hx => by
    rw [List.mem_map] at hx
    obtain ⟨v, hv', rfl⟩ := hx
    obtain ⟨a, b, hab, hf⟩ := (Pl.used_mem H).1 hv'
    have e1 : P.text a b = P.txt v := by unfold Pl.text; rw [hf, if_neg (by omega), Int.toNat_natCast]
    rw [← e1]
    exact h.all a b (hv a b hab) hab (by omega))
  have l2 := nodup_le h.nd (m := (P.used P.F.length).map P.txt) (fun s hs => by
    obtain ⟨a, b, _, hab, h0, rfl⟩ := h.src s hs
    obtain ⟨j, hj⟩ : ∃ j : Nat, P.fr a b = j := ⟨(P.fr a b).toNat, by omega⟩
    rw [List.mem_map]
    refine ⟨j, (Pl.used_mem H).2 ⟨a, b, hab, hj⟩, ?_⟩
    unfold Pl.text
    rw [hj, if_neg (by omega), Int.toNat_natCast])
  rw [List.length_map] at l1 l2
  unfold Pl.freeN
  omega
end Go.Proofs.Ytjoopjgpjkmmhaa
