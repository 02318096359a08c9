/-
  What giving up, taking and joining do to a valid pool, in plain words. Nothing of the program is walked.
-/
import Derived.Test.YtjoopjgpjkmmhaaPlKeep
namespace Go.Proofs.Ytjoopjgpjkmmhaa
open Go.RowKit

theorem Pl.cnt_of_fr {P : Pl} {a b j : Nat} (h : P.at a b) (hf : P.fr a b = (j : Int)) : 0 < P.cnt j := by
  obtain ⟨l, f, hl, hp⟩ := h
  rw [Pl.fr_eq hl hp] at hf
  subst hf
  exact Pl.cnt_pos hl hp
theorem Pl.at_fr {P : Pl} {g p : Nat} (h : P.at g p) : ∃ l, P.M[g]? = some l ∧ l[p]? = some (P.fr g p) := by
  obtain ⟨l, f, hl, hp⟩ := h
  exact ⟨l, hl, by rw [Pl.fr_eq hl hp]; exact hp⟩
/-- Two pages with one frame. -/
theorem Pl.cnt_two {P : Pl} {g p a b j : Nat} (h : P.at g p) (h' : P.at a b) (hne : ¬ (g = a ∧ p = b)) (hf : P.fr g p = (j : Int)) (hf' : P.fr a b = (j : Int)) : 2 ≤ P.cnt j := by
  obtain ⟨l, hl, hp⟩ := Pl.at_fr h
  have h1 := Pl.setM_cnt (x := -1) hl hp j
  have h2 : 0 < (P.setM g p (-1)).cnt j := Pl.cnt_of_fr ((Pl.setM_at (-1) a b).2 h') (by rw [Pl.setM_fr h, if_neg hne]; exact hf')
  rw [if_pos hf, if_neg (by omega)] at h1
  omega
/-- Same pages, same size. -/
structure Pl.Alike (P Q : Pl) : Prop where
  f : Q.F.length = P.F.length
  r : Q.R.length = P.R.length
  m : Q.M.length = P.M.length
  pg : ∀ a, (Q.pages a).length = (P.pages a).length
theorem Pl.Alike.at {P Q : Pl} (h : P.Alike Q) (a b : Nat) : Q.at a b ↔ P.at a b := by
  have h1 : ∀ Q : Pl, Q.at a b ↔ (a < Q.M.length ∧ b < (Q.pages a).length) := by
    intro Q
    constructor
    · rintro ⟨l, f, hl, hp⟩
      exact ⟨lt_of_get hl, by rw [Pl.pages_eq hl]; exact lt_of_get hp⟩
    · rintro ⟨ha, hb⟩
      obtain ⟨l, hl⟩ := get_lt ha
      rw [Pl.pages_eq hl] at hb
      obtain ⟨f, hf⟩ := get_lt hb
      exact ⟨l, f, hl, hf⟩
  rw [h1, h1, h.m, h.pg]
theorem Pl.Alike.refl (P : Pl) : P.Alike P := ⟨rfl, rfl, rfl, fun _ => rfl⟩
theorem Pl.Alike.trans {P Q S : Pl} (h : P.Alike Q) (h' : Q.Alike S) : P.Alike S := ⟨h'.f.trans h.f, h'.r.trans h.r, h'.m.trans h.m, fun a => (h'.pg a).trans (h.pg a)⟩
theorem Pl.setM_alike (P : Pl) (g p : Nat) (x : Int) : P.Alike (P.setM g p x) := ⟨rfl, rfl, List.length_set .., fun a => by
  rw [Pl.setM_pages]
  split
  · rename_i h
    rw [List.length_set, h.1]
  · rfl⟩
theorem Pl.setR_alike (P : Pl) (f : Nat) (x : Int) : P.Alike (P.setR f x) := ⟨rfl, List.length_set .., rfl, fun _ => rfl⟩
theorem Pl.setF_alike (P : Pl) (f : Nat) (s : ByteArray) : P.Alike (P.setF f s) := ⟨List.length_set .., rfl, rfl, fun _ => rfl⟩
theorem Pl.giveUp_alike (P : Pl) (g p : Nat) : P.Alike (P.giveUp g p) := by
  unfold Pl.giveUp
  split
  · exact Pl.Alike.refl P
  · split
    · exact ((Pl.setM_alike P g p (-1)).trans (Pl.setR_alike _ _ _)).trans (Pl.setF_alike _ _ _)
    · exact (Pl.setM_alike P g p (-1)).trans (Pl.setR_alike _ _ _)
/-- To be valid, once the pages are as before and the frames are well counted. -/
theorem Pl.Ok.of {P Q : Pl} (H : P.Ok) (h : P.Alike Q) (hp : ∀ a b, Q.at a b → -1 ≤ Q.fr a b ∧ Q.fr a b < P.F.length) (hf : ∀ f, f < P.F.length → Q.frameP f) : Q.Ok := by
  refine ⟨by rw [h.f]; exact H.n1, by rw [h.f]; exact H.n2, by rw [h.r, h.f]; exact H.r, by rw [h.m]; exact H.m, fun l hl => ?_, fun l hl f hff => ?_, by rw [h.f]; exact hf⟩
  · obtain ⟨g, hg⟩ := List.getElem?_of_mem hl
    have hgl := lt_of_get hg
    rw [h.m] at hgl
    obtain ⟨l', hl'⟩ := get_lt hgl
    have e := h.pg g
    rw [Pl.pages_eq hg, Pl.pages_eq hl'] at e
    rw [e]
    exact H.l l' (mem_at hl')
  · obtain ⟨g, hg⟩ := List.getElem?_of_mem hl
    obtain ⟨p, hpp⟩ := List.getElem?_of_mem hff
    have := hp g p ⟨l, f, hg, hpp⟩
    rw [Pl.fr_eq hg hpp] at this
    rw [h.f]
    exact this
theorem Pl.Ok.at_bd {P : Pl} (H : P.Ok) {g p : Nat} (h : P.at g p) : -1 ≤ P.fr g p ∧ P.fr g p < P.F.length := by
  obtain ⟨l, hl, hp⟩ := Pl.at_fr h
  exact H.page hl hp
/-- The frame's text and count after a page's frame is taken away. -/
structure Pl.Gave (P Q : Pl) (g p : Nat) : Prop where
  al : P.Alike Q
  fr : ∀ a b, Q.fr a b = if g = a ∧ p = b then -1 else P.fr a b
  cnt : ∀ v : Nat, Q.cnt v + (if P.fr g p = (v : Int) then 1 else 0) = P.cnt v
  ref : ∀ v : Nat, v < P.F.length → Q.ref v = Q.cnt v
  txt : ∀ v : Nat, v < P.F.length → Q.F[v]? = if Q.cnt v = 0 then some ⟨#[]⟩ else P.F[v]?
theorem empty_of_size {s : ByteArray} (h : s.size = 0) : s = ⟨#[]⟩ := by
  cases s with
  | mk d =>
    have : d = #[] := Array.eq_empty_of_size_eq_zero h
    rw [this]
theorem Pl.Ok.gave {P : Pl} (H : P.Ok) {g p : Nat} (h : P.at g p) : P.Gave (P.giveUp g p) g p := by
  obtain ⟨l, hl, hp⟩ := Pl.at_fr h
  have hb := H.at_bd h
  by_cases h0 : P.fr g p < 0
  · have hg : P.giveUp g p = P := by unfold Pl.giveUp; rw [if_pos h0]
    rw [hg]
    refine ⟨Pl.Alike.refl P, fun a b => ?_, fun v => ?_, fun v hv => H.ref_eq hv, fun v hv => ?_⟩
    · split
      · rename_i e
        rw [← e.1, ← e.2]
        omega
      · rfl
    · rw [if_neg (by omega)]
      rfl
    · obtain ⟨s, hs, _, h1, _⟩ := H.fr v hv
      rw [hs]
      split
      · rename_i e
        rw [empty_of_size (h1.1 e)]
      · rfl
  · obtain ⟨j, hj⟩ : ∃ j : Nat, P.fr g p = j := ⟨(P.fr g p).toNat, by omega⟩
    have hjl : j < P.F.length := by omega
    have hr := H.ref_eq hjl
    have hal := Pl.giveUp_alike P g p
    have hg : P.giveUp g p = if (P.cnt j : Int) - 1 = 0 then (((P.setM g p (-1)).setR j ((P.cnt j : Int) - 1)).setF j ⟨#[]⟩) else ((P.setM g p (-1)).setR j ((P.cnt j : Int) - 1)) := by
      unfold Pl.giveUp
      rw [if_neg h0, hj, Int.toNat_natCast, hr]
    have hM : ∀ Q : Pl, Q = P.giveUp g p → (∀ a b, Q.fr a b = (P.setM g p (-1)).fr a b) ∧ (∀ v, Q.cnt v = (P.setM g p (-1)).cnt v) := by
      rintro Q rfl
      rw [hg]
      split <;> exact ⟨fun _ _ => rfl, fun _ => rfl⟩
    obtain ⟨e1, e2⟩ := hM _ rfl
    have hc : ∀ v : Nat, (P.giveUp g p).cnt v + (if P.fr g p = (v : Int) then 1 else 0) = P.cnt v := fun v => by
      rw [e2]
      have := Pl.setM_cnt (x := -1) hl hp v
      rw [if_neg (show ¬ (-1 : Int) = (v : Int) by omega)] at this
      exact this
    have hcj := hc j
    rw [hj, if_pos rfl] at hcj
    refine ⟨hal, fun a b => by rw [e1, Pl.setM_fr h], hc, fun v hv => ?_, fun v hv => ?_⟩
    · have hR : (P.giveUp g p).ref v = if v = j then (P.cnt j : Int) - 1 else P.ref v := by
        rw [hg]
        have e : ((P.setM g p (-1)).setR j ((P.cnt j : Int) - 1)).ref v = if v = j then (P.cnt j : Int) - 1 else P.ref v := by
          unfold Pl.ref Pl.setR Pl.setM
          dsimp only
          rw [List.getElem?_set]
          by_cases ej : j = v
          · subst ej
            rw [if_pos rfl, if_pos (by rw [H.r]; exact hjl), if_pos rfl]
            rfl
          · rw [if_neg ej, if_neg (fun e => ej e.symm)]
        split <;> exact e
      rw [hR]
      split
      · rename_i e
        subst e
        omega
      · rename_i e
        have := hc v
        rw [hj, if_neg (by omega)] at this
        rw [H.ref_eq hv]
        omega
    · obtain ⟨s, hs, _, h1, _⟩ := H.fr v hv
      have hcv := hc v
      rw [hj] at hcv
      by_cases ej : v = j
      · subst ej
        rw [if_pos rfl] at hcv
        rw [hg]
        by_cases e : (P.cnt v : Int) - 1 = 0
        · rw [if_pos e]
          have : (((P.setM g p (-1)).setR v ((P.cnt v : Int) - 1)).setF v ⟨#[]⟩).F[v]? = some ⟨#[]⟩ := by
            unfold Pl.setF
            dsimp only
            rw [List.getElem?_set, if_pos rfl]
            exact if_pos hjl
          rw [this, if_pos]
          have e4 : (((P.setM g p (-1)).setR v ((P.cnt v : Int) - 1)).setF v ⟨#[]⟩).cnt v = (P.setM g p (-1)).cnt v := rfl
          rw [e4, ← e2]
          omega
        · rw [if_neg e, if_neg]
          · rfl
          · have e4 : ((P.setM g p (-1)).setR v ((P.cnt v : Int) - 1)).cnt v = (P.setM g p (-1)).cnt v := rfl
            rw [e4, ← e2]
            omega
      · rw [if_neg (by omega)] at hcv
        have hF : (P.giveUp g p).F[v]? = P.F[v]? := by
          rw [hg]
          split
          · unfold Pl.setF
            dsimp only
            rw [List.getElem?_set, if_neg (fun e => ej e.symm)]
            rfl
          · rfl
        rw [hF, hs]
        split
        · rename_i e
          rw [empty_of_size (h1.1 (by omega))]
        · rfl
theorem Pl.Gave.ok {P Q : Pl} (H : P.Ok) {g p : Nat} (G : P.Gave Q g p) : Q.Ok := by
  refine H.of G.al (fun a b hab => ?_) (fun f hf => ?_)
  · have hab' := (G.al.at a b).1 hab
    rw [G.fr]
    split
    · have := H.n1; omega
    · exact H.at_bd hab'
  · obtain ⟨s, hs, hx, h1, h2⟩ := H.fr f hf
    have ht := G.txt f hf
    have hr := G.ref f hf
    have hR : Q.R[f]? = some ((Q.cnt f : Nat) : Int) := by
      obtain ⟨x, hx⟩ := get_lt (xs := Q.R) (k := f) (by rw [G.al.r, H.r]; exact hf)
      unfold Pl.ref at hr
      rw [hx] at hr ⊢
      exact congrArg some hr
    by_cases e : Q.cnt f = 0
    · rw [if_pos e] at ht
      exact ⟨_, ht, hR, ⟨fun _ => rfl, fun _ => e⟩, .inl rfl⟩
    · rw [if_neg e, hs] at ht
      have hc := G.cnt f
      refine ⟨s, ht, hR, ⟨fun h => absurd h e, fun h => ?_⟩, h2⟩
      have := h1.2 h
      omega
/-- The content of the other pages stays. -/
theorem Pl.Gave.text {P Q : Pl} (H : P.Ok) {g p : Nat} (G : P.Gave Q g p) {a b : Nat} (h' : P.at a b) : Q.text a b = if g = a ∧ p = b then zeros128 else P.text a b := by
  unfold Pl.text
  rw [G.fr]
  by_cases e : g = a ∧ p = b
  · rw [if_pos e, if_pos e, if_pos (by omega)]
  · rw [if_neg e, if_neg e]
    by_cases h0 : P.fr a b < 0
    · rw [if_pos h0, if_pos h0]
    · rw [if_neg h0, if_neg h0]
      obtain ⟨j, hj⟩ : ∃ j : Nat, P.fr a b = j := ⟨(P.fr a b).toNat, by omega⟩
      have hb := H.at_bd h'
      rw [hj, Int.toNat_natCast]
      have hc : Q.cnt j ≠ 0 := by
        have h1 : 0 < Q.cnt j := Pl.cnt_of_fr ((G.al.at a b).2 h') (by rw [G.fr, if_neg e]; exact hj)
        omega
      have ht := G.txt j (by omega)
      rw [if_neg hc] at ht
      unfold Pl.txt
      rw [ht]
/-- A page with no frame gets one whose count is known. -/
structure Pl.Put (Q S : Pl) (g p i : Nat) (d : ByteArray) : Prop where
  al : Q.Alike S
  fr : ∀ a b, S.fr a b = if g = a ∧ p = b then (i : Int) else Q.fr a b
  cnt : ∀ v : Nat, S.cnt v = Q.cnt v + (if v = i then 1 else 0)
  ref : ∀ v : Nat, v < Q.F.length → S.R[v]? = some ((S.cnt v : Nat) : Int)
  txt : ∀ v : Nat, v < Q.F.length → S.F[v]? = if v = i then some d else Q.F[v]?
theorem Pl.put_of {Q : Pl} (H : Q.Ok) {g p i : Nat} {d : ByteArray} (h : Q.at g p) (hf : Q.fr g p = -1) (hi : i < Q.F.length) {x : Int} (hx : x = Q.cnt i + 1) (T : Pl) (hM : T.M = (Q.setM g p i).M) (hR : T.R = Q.R.set i x) (hl : T.F.length = Q.F.length) (hF : ∀ v : Nat, v < Q.F.length → T.F[v]? = if v = i then some d else Q.F[v]?) : Q.Put T g p i d := by
  obtain ⟨l, hl', hp⟩ := Pl.at_fr h
  have hpg : ∀ a, T.pages a = (Q.setM g p i).pages a := fun a => by unfold Pl.pages; rw [hM]
  have hc : ∀ v : Nat, T.cnt v = Q.cnt v + (if v = i then 1 else 0) := fun v => by
    have h1 := Pl.setM_cnt (x := (i : Int)) hl' hp v
    have e : T.cnt v = (Q.setM g p i).cnt v := by unfold Pl.cnt; rw [hM]
    rw [e]
    rw [hf, if_neg (show ¬ (-1 : Int) = (v : Int) by omega)] at h1
    by_cases ev : v = i
    · subst ev
      rw [if_pos rfl] at h1 ⊢
      omega
    · rw [if_neg (by omega)] at h1
      rw [if_neg ev]
      omega
  have hal := Pl.setM_alike Q g p i
  refine ⟨⟨hl, by rw [hR]; exact List.length_set .., by rw [hM]; exact hal.m, fun a => by rw [hpg]; exact hal.pg a⟩, fun a b => ?_, hc, fun v hv => ?_, hF⟩
  · have e : T.fr a b = (Q.setM g p i).fr a b := by unfold Pl.fr; rw [hpg]
    rw [e, Pl.setM_fr h]
  · rw [hc]
    obtain ⟨s, _, hxv, _⟩ := H.fr v hv
    rw [hR, List.getElem?_set]
    by_cases ev : v = i
    · subst ev
      rw [if_pos rfl, if_pos (by rw [H.r]; exact hi), if_pos rfl, hx]
      rfl
    · rw [if_neg (fun e => ev e.symm), if_neg ev, hxv, Nat.add_zero]
theorem Pl.Put.ok {Q S : Pl} (H : Q.Ok) {g p i : Nat} {d : ByteArray} (hi : i < Q.F.length) (G : Q.Put S g p i d) (hd : d.size = 128 ∧ zeroB d = false) : S.Ok := by
  refine H.of G.al (fun a b hab => ?_) (fun f hf => ?_)
  · have hab' := (G.al.at a b).1 hab
    rw [G.fr]
    split
    · omega
    · exact H.at_bd hab'
  · obtain ⟨s, hs, hx, h1, h2⟩ := H.fr f hf
    have ht := G.txt f hf
    have hR := G.ref f hf
    have hc := G.cnt f
    by_cases e : f = i
    · rw [if_pos e] at ht hc
      exact ⟨d, ht, hR, ⟨fun h => by omega, fun h => by omega⟩, .inr hd⟩
    · rw [if_neg e] at ht hc
      rw [hs] at ht
      refine ⟨s, ht, hR, ?_, h2⟩
      rw [hc, Nat.add_zero]
      exact h1
theorem Pl.Put.text {Q S : Pl} (H : Q.Ok) {g p i : Nat} {d : ByteArray} (hi : i < Q.F.length) (G : Q.Put S g p i d) (hd : Q.cnt i = 0 ∨ Q.F[i]? = some d) {a b : Nat} (h' : Q.at a b) : S.text a b = if g = a ∧ p = b then d else Q.text a b := by
  unfold Pl.text
  rw [G.fr]
  by_cases e : g = a ∧ p = b
  · rw [if_pos e, if_pos e, if_neg (by omega), Int.toNat_natCast]
    unfold Pl.txt
    rw [G.txt i hi, if_pos rfl]
    rfl
  · rw [if_neg e, if_neg e]
    by_cases h0 : Q.fr a b < 0
    · rw [if_pos h0, if_pos h0]
    · rw [if_neg h0, if_neg h0]
      obtain ⟨j, hj⟩ : ∃ j : Nat, Q.fr a b = j := ⟨(Q.fr a b).toNat, by omega⟩
      have hb := H.at_bd h'
      rw [hj, Int.toNat_natCast]
      unfold Pl.txt
      rw [G.txt j (by omega)]
      split
      · rename_i ev
        subst ev
        have : 0 < Q.cnt j := Pl.cnt_of_fr h' hj
        rcases hd with hd | hd
        · omega
        · rw [hd]
      · rfl
end Go.Proofs.Ytjoopjgpjkmmhaa
