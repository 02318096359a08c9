/-
  The division of frames: what it gives, that one frame more goes to one guest, that it is fair. Plain Lean: nothing is walked here.
-/
import Derived.Test.YtclnjjppcdgkiaaTaxPlain
import Derived.Test.YtclnjjppcdgkiaaTaxTargets
namespace Go.Proofs.Ytclnjjppcdgkiaa

theorem ric_neg {cs : List Clm} {fr : List Int} {t : Int} : ∀ k : Nat, (ricF cs fr t k).1 < 0 → ∀ (i : Nat) (c : Clm) (f : Int), i < k → cs[i]? = some c → fr[i]? = some f → c.l ≤ f
  | 0, _, i, _, _, hi, _, _ => absurd hi (Nat.not_lt_zero _)
  | k + 1, h, i, c, f, hi, hc, hf => by
    have ih := ric_neg (cs := cs) (fr := fr) (t := t) k
    unfold ricF at h
    split at h
    · rename_i c' f' hc' hf'
      unfold ricStep at h
      split at h
      · rename_i hle
        by_cases e : i = k
        · subst e
          rw [hc] at hc'; cases hc'
          rw [hf] at hf'; cases hf'
          exact hle
        · exact ih h i c f (by omega) hc hf
      · split at h
        · exact absurd h (by dsimp only; omega)
        · rename_i hno
          rw [decide_eq_true h] at hno
          simp at hno
    · rename_i hno
      by_cases e : i = k
      · subst e
        exact absurd hf (hno c f hc)
      · exact ih h i c f (by omega) hc hf
theorem ric_best {cs : List Clm} {fr : List Int} {t : Int} (hf0 : ∀ (i : Nat) (f : Int), fr[i]? = some f → 0 ≤ f) : ∀ k : Nat, 0 ≤ (ricF cs fr t k).1 →
    (∃ (j : Nat) (c : Clm) (f : Int), ricF cs fr t k = ((j : Int), priced c f) ∧ j < k ∧ cs[j]? = some c ∧ fr[j]? = some f ∧ f < c.l) ∧
    (∀ (i : Nat) (c : Clm) (f : Int), i < k → cs[i]? = some c → fr[i]? = some f → f < c.l → poorB (ricF cs fr t k).2 (priced c f) t = false)
  | 0, h => by simp [ricF] at h
  | k + 1, h => by
    have ih := ric_best (cs := cs) (t := t) hf0 k
    have hneg := ric_neg (cs := cs) (fr := fr) (t := t) k
    unfold ricF at h ⊢
    split
    · rename_i c' f' hc' hf'
      rw [hc', hf'] at h
      dsimp only at h
      unfold ricStep at h ⊢
      split
      · rename_i hle
        rw [if_pos hle] at h
        obtain ⟨⟨j, c, f, e, hj, h2⟩, h3⟩ := ih h
        refine ⟨⟨j, c, f, e, by omega, h2⟩, fun i c f hi hc hf hlt => ?_⟩
        by_cases e : i = k
        · subst e
          rw [hc] at hc'; cases hc'
          rw [hf] at hf'; cases hf'
          omega
        · exact h3 i c f (by omega) hc hf hlt
      · rename_i hle
        rw [if_neg hle] at h
        split
        · rename_i hyes
          refine ⟨⟨k, c', f', rfl, by omega, hc', hf', by omega⟩, fun i c f hi hc hf hlt => ?_⟩
          dsimp only
          by_cases e : i = k
          · subst e
            rw [hc] at hc'; cases hc'
            rw [hf] at hf'; cases hf'
            exact poor_irrefl _ _
          · by_cases hpn : (ricF cs fr t k).1 < 0
            · have := hneg hpn i c f (by omega) hc hf
              omega
            · rw [decide_eq_false hpn, Bool.false_or] at hyes
              obtain ⟨⟨j, cj, fj, ej, hj, _, hfj, _⟩, h3⟩ := ih (by omega)
              have := h3 i c f (by omega) hc hf hlt
              cases h6 : poorB (priced c' f') (priced c f) t
              · rfl
              · rw [ej] at hyes this
                have q1 := hf0 i f hf
                have q2 := hf0 k f' hf'
                have q3 := hf0 j fj hfj
                rw [poor_trans hyes h6 (show 0 < fj + 1 by omega) (show 0 < f' + 1 by omega) (show 0 < f + 1 by omega)] at this
                cases this
        · rename_i hno
          rw [if_neg hno] at h
          obtain ⟨⟨j, c, f, e, hj, h2⟩, h3⟩ := ih h
          refine ⟨⟨j, c, f, e, by omega, h2⟩, fun i c f hi hc hf hlt => ?_⟩
          by_cases e : i = k
          · subst e
            rw [hc] at hc'; cases hc'
            rw [hf] at hf'; cases hf'
            simp only [Bool.or_eq_true, not_or, Bool.not_eq_true] at hno
            exact hno.2
          · exact h3 i c f (by omega) hc hf hlt
    · rename_i hno
      split at h
      · rename_i c f hc hf
        exact absurd hf (hno c f hc)
      · obtain ⟨⟨j, c, f, e, hj, h2⟩, h3⟩ := ih h
        refine ⟨⟨j, c, f, e, by omega, h2⟩, fun i c f hi hc hf hlt => ?_⟩
        by_cases e : i = k
        · subst e
          exact absurd hf (hno c f hc)
        · exact h3 i c f (by omega) hc hf hlt

/-! ranges and sums -/
def InL (cs : List Clm) (fr : List Int) : Prop := fr.length = cs.length ∧ ∀ (i : Nat) (c : Clm) (f : Int), cs[i]? = some c → fr[i]? = some f → c.r ≤ f ∧ f ≤ c.l
theorem InL.fine {cs : List Clm} {fr : List Int} (h : InL cs fr) (hv : allV cs = true) : Fine cs fr := by
  refine ⟨h.1, fun i f hf => ?_⟩
  obtain ⟨c, hc⟩ := get_lt (xs := cs) (k := i) (by rw [← h.1]; exact lt_of_get hf)
  have := h.2 i c f hc hf
  have := (validB_iff c).1 (allV_at hv hc)
  omega
theorem InL.resv {cs : List Clm} (hv : allV cs = true) : InL cs (resv cs) := by
  refine ⟨by simp [Go.Proofs.Ytclnjjppcdgkiaa.resv], fun i c f hc hf => ?_⟩
  unfold Go.Proofs.Ytclnjjppcdgkiaa.resv at hf
  rw [List.getElem?_map, hc] at hf
  simp at hf
  have := (validB_iff c).1 (allV_at hv hc)
  omega
theorem InL.bump {cs : List Clm} {fr : List Int} (h : InL cs fr) {j : Nat} {c : Clm} {f : Int} (hc : cs[j]? = some c) (hf : fr[j]? = some f) (hlt : f < c.l) : InL cs (fr.set j (f + 1)) := by
  refine ⟨by rw [List.length_set]; exact h.1, fun i c' g hc' hg => ?_⟩
  rw [List.getElem?_set] at hg
  split at hg
  · rename_i e
    subst e
    rw [hc] at hc'; cases hc'
    have := h.2 j c f hc hf
    split at hg
    · simp at hg; omega
    · simp at hg
  · exact h.2 i c' g hc' hg
theorem sumI_set : ∀ (fr : List Int) (j : Nat) (f x : Int), fr[j]? = some f → sumI (fr.set j x) = sumI fr + x - f
  | [], j, f, x, h => by simp at h
  | y :: fr, 0, f, x, h => by
    simp at h
    subst h
    simp only [List.set_cons_zero, sumI]; omega
  | y :: fr, j + 1, f, x, h => by
    have := sumI_set fr j f x (by simpa using h)
    simp only [List.set_cons_succ, sumI, this]; omega
theorem sumI_le : ∀ (xs ys : List Int), xs.length = ys.length → (∀ (i : Nat) (x y : Int), xs[i]? = some x → ys[i]? = some y → x ≤ y) → sumI xs ≤ sumI ys
  | [], [], _, _ => by simp
  | x :: xs, y :: ys, hl, h => by
    have := sumI_le xs ys (by simpa using hl) (fun i a b ha hb => h (i + 1) a b (by simpa using ha) (by simpa using hb))
    have := h 0 x y rfl rfl
    simp only [sumI]; omega
  | [], _ :: _, hl, _ => by simp at hl
  | _ :: _, [], hl, _ => by simp at hl
def lims (cs : List Clm) : List Int := cs.map (·.l)
theorem lims_at {cs : List Clm} {i : Nat} {y : Int} (h : (lims cs)[i]? = some y) : ∃ c, cs[i]? = some c ∧ c.l = y := by
  unfold lims at h
  rw [List.getElem?_map] at h
  cases hc : cs[i]? with
  | none => rw [hc] at h; simp at h
  | some c => rw [hc] at h; exact ⟨c, rfl, by simpa using h⟩
theorem InL.sum_le {cs : List Clm} {fr : List Int} (h : InL cs fr) : sumI fr ≤ sumI (lims cs) :=
  sumI_le _ _ (by simp [lims, h.1]) (fun i x y hx hy => by
    obtain ⟨c, hc, rfl⟩ := lims_at hy
    exact (h.2 i c x hc hx).2)
theorem full_sum {cs : List Clm} {fr : List Int} {t : Int} (h : InL cs fr) (hn : (ricF cs fr t cs.length).1 < 0) : sumI fr = sumI (lims cs) := by
  have h1 := h.sum_le
  have h2 : sumI (lims cs) ≤ sumI fr := sumI_le _ _ (by simp [lims, h.1]) (fun i x y hx hy => by
    obtain ⟨c, hc, rfl⟩ := lims_at hx
    exact ric_neg cs.length hn i c y (lt_of_get hc) hc hy)
  omega
theorem give_bump {cs : List Clm} {fr : List Int} {t : Int} (h : ¬ (ricF cs fr t cs.length).1 < 0) : ∃ (j : Nat) (c : Clm) (f : Int), (ricF cs fr t cs.length).1 = j ∧ j < cs.length ∧ cs[j]? = some c ∧ fr[j]? = some f ∧ f < c.l ∧ bump fr (ricF cs fr t cs.length).1 = fr.set j (f + 1) := by
  obtain ⟨j, c, f, e, h1, h2, h3, h4⟩ := ricF_pos (cs := cs) (fr := fr) (t := t) cs.length (by omega)
  refine ⟨j, c, f, e, h1, h2, h3, h4, ?_⟩
  rw [e]
  unfold bump
  rw [Int.toNat_natCast, h3]
theorem give_in {cs : List Clm} {t : Int} : ∀ (m : Nat) (fr : List Int), InL cs fr → InL cs (give cs t m fr) ∧ sumI (give cs t m fr) = min (sumI fr + m) (sumI (lims cs))
  | 0, fr, h => by
    have := h.sum_le
    refine ⟨h, ?_⟩
    simp only [give]; omega
  | m + 1, fr, h => by
    unfold give
    split
    · rename_i hn
      have := full_sum h hn
      exact ⟨h, by omega⟩
    · rename_i hn
      obtain ⟨j, c, f, e, h1, h2, h3, h4, h5⟩ := give_bump hn
      rw [h5]
      obtain ⟨i1, i2⟩ := give_in (t := t) m _ (h.bump h2 h3 h4)
      refine ⟨i1, ?_⟩
      rw [i2, sumI_set fr j f (f + 1) h3]
      omega
/-- The law on the division. -/
theorem divides_law {cs : List Clm} {total t : Int} (h8 : cs.length ≤ 8) (hv : allV cs = true) (h0 : 0 ≤ total) (h1 : total ≤ 96) (ht : taxB t = true) :
    goodT cs total t = decide (sumI (resv cs) ≤ total) ∧ (goodT cs total t = false → targetsL cs total t = []) ∧
    (goodT cs total t = true → InL cs (targetsL cs total t) ∧ sumI (targetsL cs total t) = min total (sumI (lims cs))) := by
  have e : goodT cs total t = decide (sumI (resv cs) ≤ total) := by unfold goodT; rw [decide_eq_true ⟨h8, h0, h1⟩, ht, hv]; rfl
  refine ⟨e, fun h => by unfold targetsL; rw [h, if_neg (by simp)], fun h => ?_⟩
  unfold targetsL
  rw [if_pos h]
  obtain ⟨i1, i2⟩ := give_in (cs := cs) (t := t) (total - sumI (resv cs)).toNat _ (InL.resv hv)
  refine ⟨i1, ?_⟩
  rw [i2]
  rw [e, decide_eq_true_iff] at h
  omega

/-! one frame more -/
theorem give_last {cs : List Clm} {t : Int} : ∀ (m : Nat) (fr : List Int), give cs t (m + 1) fr = if (ricF cs (give cs t m fr) t cs.length).1 < 0 then give cs t m fr else bump (give cs t m fr) (ricF cs (give cs t m fr) t cs.length).1
  | 0, fr => rfl
  | m + 1, fr => by
    by_cases hn : (ricF cs fr t cs.length).1 < 0
    · rw [give_stop hn, give_stop hn, if_pos hn]
    · have e1 : give cs t (m + 1 + 1) fr = give cs t (m + 1) (bump fr (ricF cs fr t cs.length).1) := by rw [give, if_neg hn]
      have e2 : give cs t (m + 1) fr = give cs t m (bump fr (ricF cs fr t cs.length).1) := by rw [give, if_neg hn]
      rw [e1, e2]
      exact give_last m _
/-- The law on one frame more. -/
theorem grows_law {cs : List Clm} {total t : Int} (h8 : cs.length ≤ 8) (hv : allV cs = true) (h0 : 0 ≤ total) (h1 : total ≤ 95) (ht : taxB t = true) (hg : goodT cs total t = true) :
    goodT cs (total + 1) t = true ∧ (targetsL cs total t).length = cs.length ∧ (targetsL cs (total + 1) t).length = cs.length ∧
    ((targetsL cs (total + 1) t = targetsL cs total t ∧ (∀ (i : Nat) (c : Clm) (f : Int), cs[i]? = some c → (targetsL cs total t)[i]? = some f → c.l ≤ f)) ∨
     (∃ (j : Nat) (c : Clm) (f : Int), cs[j]? = some c ∧ (targetsL cs total t)[j]? = some f ∧ f < c.l ∧ targetsL cs (total + 1) t = (targetsL cs total t).set j (f + 1))) := by
  obtain ⟨e1, _, _⟩ := divides_law (total := total) h8 hv h0 (by omega) ht
  obtain ⟨e2, _, _⟩ := divides_law (total := total + 1) h8 hv (by omega) (by omega) ht
  have hs : sumI (resv cs) ≤ total := by rw [e1, decide_eq_true_iff] at hg; exact hg
  have hg2 : goodT cs (total + 1) t = true := by rw [e2, decide_eq_true_iff]; omega
  have ea : targetsL cs total t = give cs t (total - sumI (resv cs)).toNat (resv cs) := by unfold targetsL; rw [if_pos hg]
  have eb : targetsL cs (total + 1) t = give cs t ((total - sumI (resv cs)).toNat + 1) (resv cs) := by
    unfold targetsL; rw [if_pos hg2, show (total + 1 - sumI (resv cs)).toNat = (total - sumI (resv cs)).toNat + 1 from by omega]
  obtain ⟨hin, _⟩ := give_in (cs := cs) (t := t) (total - sumI (resv cs)).toNat _ (InL.resv hv)
  rw [← ea] at hin
  have el := give_last (cs := cs) (t := t) (total - sumI (resv cs)).toNat (resv cs)
  rw [← ea, ← eb] at el
  generalize targetsL cs total t = p at *
  generalize targetsL cs (total + 1) t = q at *
  clear ea eb
  by_cases hn : (ricF cs p t cs.length).1 < 0
  · rw [if_pos hn] at el
    subst el
    exact ⟨hg2, hin.1, hin.1, .inl ⟨rfl, fun i c f hc hf => ric_neg cs.length hn i c f (lt_of_get hc) hc hf⟩⟩
  · rw [if_neg hn] at el
    obtain ⟨j, c, f, _, h2, h3, h4, h5, h6⟩ := give_bump hn
    rw [h6] at el
    subst el
    exact ⟨hg2, hin.1, by rw [List.length_set]; exact hin.1, .inr ⟨j, c, f, h3, h4, h5, rfl⟩⟩

/-! fairness -/
theorem cost_mono {b : Clm} {t p : Int} (h1 : validB ⟨b.r, b.l, b.s, p, b.a⟩ = true) (h2 : validB ⟨b.r, b.l, b.s, p + 1, b.a⟩ = true) (ht : taxB t = true) : costI ⟨b.r, b.l, b.s, p, b.a⟩ t < costI ⟨b.r, b.l, b.s, p + 1, b.a⟩ t := by
  rw [costI_yes h1 ht, costI_yes h2 ht]
  have v := (validB_iff _).1 h1
  have ht' := (taxB_iff t).1 ht
  dsimp only at v
  have hr := rate_pos (a := b.a) (t := t) (by omega) (by omega) (by omega) (by omega)
  unfold costR
  dsimp only
  rw [Int.add_mul, Int.one_mul]
  omega
theorem poor_mono {x b : Clm} {t p : Int} (h : poorB x ⟨b.r, b.l, b.s, p + 1, b.a⟩ t = true) (hp : 0 ≤ p) : poorB x ⟨b.r, b.l, b.s, p, b.a⟩ t = true := by
  obtain ⟨vx, vy, ht⟩ := poor_valid h
  have vy' := (validB_iff _).1 vy
  dsimp only at vy'
  have vp : validB ⟨b.r, b.l, b.s, p, b.a⟩ = true := by rw [validB_iff]; dsimp only; omega
  rw [poor_iff vx vy ht] at h
  rw [poor_iff vx vp ht]
  have hm := cost_mono vp vy ht
  have hx := (validB_iff x).1 vx
  have := Int.mul_le_mul_of_nonneg_left (show costI ⟨b.r, b.l, b.s, p, b.a⟩ t ≤ costI ⟨b.r, b.l, b.s, p + 1, b.a⟩ t by omega) (show 0 ≤ x.s by omega)
  dsimp only at h ⊢
  omega
def Bal (cs : List Clm) (t : Int) (fr : List Int) : Prop :=
  ∀ (i k : Nat) (a b : Clm) (fi fk : Int), i ≠ k → cs[i]? = some a → cs[k]? = some b → fr[i]? = some fi → fr[k]? = some fk → a.r < fi → fk < b.l → poorB (priced a (fi - 1)) (priced b fk) t = false
theorem Bal.resv (cs : List Clm) (t : Int) : Bal cs t (resv cs) := by
  intro i k a b fi fk _ ha _ hfi _ hlt _
  unfold Go.Proofs.Ytclnjjppcdgkiaa.resv at hfi
  rw [List.getElem?_map, ha] at hfi
  simp at hfi
  omega
theorem bal_bump {cs : List Clm} {t : Int} {fr : List Int} (hv : allV cs = true) (hI : InL cs fr) (h : Bal cs t fr) (hn : ¬ (ricF cs fr t cs.length).1 < 0) : Bal cs t (bump fr (ricF cs fr t cs.length).1) := by
  have hf0 : ∀ (i : Nat) (f : Int), fr[i]? = some f → 0 ≤ f := fun i f hf => ((hI.fine hv).2 i f hf).1
  obtain ⟨⟨j, c, f, e, hj, hc, hf, hlt⟩, hbest⟩ := ric_best (cs := cs) (t := t) hf0 cs.length (by omega)
  have hb : Go.Proofs.Ytclnjjppcdgkiaa.bump fr (ricF cs fr t cs.length).1 = fr.set j (f + 1) := by
    rw [e]; unfold Go.Proofs.Ytclnjjppcdgkiaa.bump; dsimp only; rw [Int.toNat_natCast, hf]
  rw [hb]
  rw [e] at hbest
  intro i k a b fi fk hne ha hb' hfi hfk hri hlk
  rw [List.getElem?_set] at hfi hfk
  have hjl : j < fr.length := lt_of_get hf
  by_cases hij : j = i
  · subst hij
    rw [if_pos rfl, if_pos hjl] at hfi
    rw [if_neg hne] at hfk
    rw [hc] at ha
    cases ha
    simp at hfi
    subst hfi
    rw [show f + 1 - 1 = f from by omega]
    exact hbest k b fk (lt_of_get hb') hb' hfk hlk
  · rw [if_neg hij] at hfi
    by_cases hkj : j = k
    · subst hkj
      rw [if_pos rfl, if_pos hjl] at hfk
      rw [hc] at hb'
      cases hb'
      simp at hfk
      subst hfk
      have := h i j a c fi f hne ha hc hfi hf hri hlt
      cases h6 : poorB (priced a (fi - 1)) (priced c (f + 1)) t
      · rfl
      · have hf0' := hf0 j f hf
        have := poor_mono (b := c) (p := f + 1) h6 (by omega)
        rw [show (⟨c.r, c.l, c.s, f + 1, c.a⟩ : Clm) = priced c f from rfl] at this
        simp_all
    · rw [if_neg hkj] at hfk
      exact h i k a b fi fk hne ha hb' hfi hfk hri hlk
theorem give_bal {cs : List Clm} {t : Int} (hv : allV cs = true) : ∀ (m : Nat) (fr : List Int), InL cs fr → Bal cs t fr → Bal cs t (give cs t m fr)
  | 0, _, _, h => h
  | m + 1, fr, hI, h => by
    unfold give
    split
    · exact h
    · rename_i hn
      have hb := bal_bump hv hI h hn
      obtain ⟨j, c, f, e, h1, h2, h3, h4, h5⟩ := give_bump hn
      rw [h5] at hb ⊢
      exact give_bal hv m _ (hI.bump h2 h3 h4) hb
/-- The law on fairness. -/
theorem balances_law {cs : List Clm} {total t : Int} (hv : allV cs = true) (hg : goodT cs total t = true) : InL cs (targetsL cs total t) ∧ Bal cs t (targetsL cs total t) := by
  unfold targetsL
  rw [if_pos hg]
  exact ⟨(give_in _ _ (InL.resv hv)).1, give_bal hv _ _ (InL.resv hv) (Bal.resv cs t)⟩

/-! two guests, the second with more shares, or more active -/
structure Pairing (a b : Clm) (t : Int) (active : Bool) : Prop where
  r : b.r = a.r
  l : b.l = a.l
  p : b.p = a.p
  sh : active = true → b.s = a.s
  ac : active = false → b.a = a.a
  ge : a.s ≤ b.s ∧ a.a ≤ b.a
def evenB (a b : Clm) (t : Int) (active : Bool) : Prop := a = b ∨ (active = true ∧ t = 0)
theorem rate_eq (a t : Int) : a * (100 - t) + 100 * (1000 - a) = 100000 - a * t := by
  rw [Int.mul_sub]; omega
theorem clm_ext {a b : Clm} (h1 : a.r = b.r) (h2 : a.l = b.l) (h3 : a.s = b.s) (h4 : a.p = b.p) (h5 : a.a = b.a) : a = b := by
  cases a; cases b; simp_all
/-- At the same number of frames the second is richer, unless they pay the same price. -/
theorem pair_poor {a b : Clm} {t f : Int} {active : Bool} (h : Pairing a b t active) (he : ¬ evenB a b t active) (ht : taxB t = true) (va : validB (priced a f) = true) (vb : validB (priced b f) = true) (hf : 0 ≤ f) : poorB (priced a f) (priced b f) t = true := by
  rw [poor_iff va vb ht, costI_yes va ht, costI_yes vb ht]
  have wa := (validB_iff _).1 va
  have wb := (validB_iff _).1 vb
  have wt := (taxB_iff t).1 ht
  unfold priced at wa wb ⊢
  dsimp only at wa wb ⊢
  unfold costR
  rw [rate_eq, rate_eq]
  have ra := rate_pos (a := a.a) (t := t) (by omega) (by omega) (by omega) (by omega)
  have rb := rate_pos (a := b.a) (t := t) (by omega) (by omega) (by omega) (by omega)
  rw [rate_eq] at ra rb
  cases active
  · have ea := h.ac rfl
    rw [ea] at rb ⊢
    have hs : a.s < b.s := by
      by_cases e : a.s = b.s
      · exact absurd (Or.inl (clm_ext h.r.symm h.l.symm e h.p.symm ea.symm)) he
      · have := h.ge.1; omega
    exact Int.mul_lt_mul_of_pos_right hs (Int.mul_pos (by omega) ra)
  · have es := h.sh rfl
    rw [es]
    have ht0 : 0 < t := by
      by_cases e : t = 0
      · exact absurd (Or.inr ⟨rfl, e⟩) he
      · omega
    have hac : a.a < b.a := by
      by_cases e : a.a = b.a
      · exact absurd (Or.inl (clm_ext h.r.symm h.l.symm es.symm h.p.symm e)) he
      · have := h.ge.2; omega
    have h1 := Int.mul_lt_mul_of_pos_right hac ht0
    have h2 : (f + 1) * (100000 - b.a * t) < (f + 1) * (100000 - a.a * t) := Int.mul_lt_mul_of_pos_left (by omega) (by omega)
    exact Int.mul_lt_mul_of_pos_left h2 (by omega)
/-- Guests that pay the same price: the one with one frame less is richer. -/
theorem even_poor {a b : Clm} {t f : Int} {active : Bool} (h : Pairing a b t active) (he : evenB a b t active) (ht : taxB t = true) (va : validB (priced a (f + 1)) = true) (vb : validB (priced b f) = true) (_hf : 0 ≤ f) : poorB (priced a (f + 1)) (priced b f) t = true := by
  rw [poor_iff va vb ht, costI_yes va ht, costI_yes vb ht]
  have wa := (validB_iff _).1 va
  have wb := (validB_iff _).1 vb
  have wt := (taxB_iff t).1 ht
  unfold priced at wa wb ⊢
  dsimp only at wa wb ⊢
  unfold costR
  have ra := rate_pos (a := a.a) (t := t) (by omega) (by omega) (by omega) (by omega)
  have e2 : b.s = a.s ∧ b.a * (100 - t) + 100 * (1000 - b.a) = a.a * (100 - t) + 100 * (1000 - a.a) := by
    rcases he with he | ⟨h1, h2⟩
    · rw [he]; exact ⟨rfl, rfl⟩
    · refine ⟨h.sh h1, ?_⟩
      rw [rate_eq, rate_eq, h2]; simp
  rw [e2.1, e2.2]
  have h2 : (f + 1) * (a.a * (100 - t) + 100 * (1000 - a.a)) < (f + 1 + 1) * (a.a * (100 - t) + 100 * (1000 - a.a)) := Int.mul_lt_mul_of_pos_right (by omega) ra
  exact Int.mul_lt_mul_of_pos_left h2 (by omega)
def ShI (even : Prop) (k : Nat) (fr : List Int) : Prop := ∀ x y : Int, fr[k]? = some x → fr[k + 1]? = some y → x ≤ y ∨ (even ∧ x = y + 1)
theorem ric_last {cs : List Clm} {fr : List Int} {t : Int} {k : Nat} {b : Clm} {y : Int} (hb : cs[k + 1]? = some b) (hy : fr[k + 1]? = some y) (h : (ricF cs fr t (k + 2)).1 = (k : Int)) :
    ricF cs fr t (k + 2) = ricF cs fr t (k + 1) ∧ (y < b.l → poorB (ricF cs fr t (k + 1)).2 (priced b y) t = false) := by
  have e := ricF_succ (l := cs) (fr := fr) (t := t) (k := k + 1) rfl hb hy
  rw [e] at h ⊢
  unfold ricStep at h ⊢
  split
  · exact ⟨rfl, fun hlt => by omega⟩
  · rename_i hle
    rw [if_neg hle] at h
    split
    · rename_i hc
      rw [if_pos hc] at h
      dsimp only at h
      omega
    · rename_i hc
      simp only [Bool.or_eq_true, not_or, Bool.not_eq_true] at hc
      exact ⟨rfl, fun _ => hc.2⟩
theorem sh_bump {cs : List Clm} {t : Int} {fr : List Int} {a b : Clm} {k : Nat} {active : Bool} (hv : allV cs = true) (ht : taxB t = true) (hlen : cs.length = k + 2) (ha : cs[k]? = some a) (hb : cs[k + 1]? = some b) (hp : Pairing a b t active)
    (hI : InL cs fr) (h : ShI (evenB a b t active) k fr) {j : Nat} {c : Clm} {f : Int} (e : (ricF cs fr t cs.length).1 = j) (hc : cs[j]? = some c) (hf : fr[j]? = some f) (hlt : f < c.l) : ShI (evenB a b t active) k (fr.set j (f + 1)) := by
  intro x y hx hy
  have hjl : j < fr.length := lt_of_get hf
  rw [List.getElem?_set] at hx hy
  have hf0 : ∀ (i : Nat) (g : Int), fr[i]? = some g → 0 ≤ g := fun i g hg => ((hI.fine hv).2 i g hg).1
  by_cases hjk : j = k
  · subst hjk
    rw [if_pos rfl, if_pos hjl] at hx
    rw [if_neg (by omega)] at hy
    simp at hx
    subst hx
    rw [ha] at hc
    cases hc
    have h0 := h f y hf hy
    obtain ⟨va, vb⟩ : validB a = true ∧ validB b = true := ⟨allV_at hv ha, allV_at hv hb⟩
    have wa := (validB_iff a).1 va
    have wb := (validB_iff b).1 vb
    have hfb := hf0 j f hf
    have hyb := hf0 (j + 1) y hy
    rw [hlen] at e
    obtain ⟨l1, l2⟩ := ric_last hb hy e
    have e1 : (ricF cs fr t (j + 1)).1 = j := by rw [← l1]; exact e
    obtain ⟨⟨j', c', f', ee, _, hc', hf', _⟩, _⟩ := ric_best (cs := cs) (t := t) hf0 (j + 1) (by omega)
    rw [ee] at e1
    dsimp only at e1
    obtain rfl : j' = j := by omega
    rw [ha] at hc'; cases hc'
    rw [hf] at hf'; cases hf'
    rw [ee] at l2
    dsimp only at l2
    by_cases hfy : f < y
    · left; omega
    · by_cases heq : f = y
      · subst heq
        by_cases hev : evenB a b t active
        · exact .inr ⟨hev, rfl⟩
        · have := pair_poor hp hev ht (f := f) (by rw [validB_iff]; unfold priced; dsimp only; omega) (by rw [validB_iff]; unfold priced; dsimp only; have := hp.l; omega) hfb
          rw [l2 (by have := hp.l; omega)] at this
          cases this
      · rcases h0 with h0 | ⟨hev, h0⟩
        · omega
        · subst h0
          have := even_poor hp hev ht (f := y) (by rw [validB_iff]; unfold priced; dsimp only; omega) (by rw [validB_iff]; unfold priced; dsimp only; have := hp.l; omega) hyb
          rw [l2 (by have := hp.l; omega)] at this
          cases this
  · rw [if_neg hjk] at hx
    by_cases hjk1 : j = k + 1
    · subst hjk1
      rw [if_pos rfl, if_pos hjl] at hy
      simp at hy
      subst hy
      rcases h x f hx hf with h0 | ⟨_, h0⟩
      · left; omega
      · left; omega
    · rw [if_neg hjk1] at hy
      exact h x y hx hy
theorem give_sh {cs : List Clm} {t : Int} {a b : Clm} {k : Nat} {active : Bool} (hv : allV cs = true) (ht : taxB t = true) (hlen : cs.length = k + 2) (ha : cs[k]? = some a) (hb : cs[k + 1]? = some b) (hp : Pairing a b t active) :
    ∀ (m : Nat) (fr : List Int), InL cs fr → ShI (evenB a b t active) k fr → ShI (evenB a b t active) k (give cs t m fr)
  | 0, _, _, h => h
  | m + 1, fr, hI, h => by
    unfold give
    split
    · exact h
    · rename_i hn
      obtain ⟨j, c, f, e, h1, h2, h3, h4, h5⟩ := give_bump hn
      rw [h5]
      exact give_sh hv ht hlen ha hb hp m _ (hI.bump h2 h3 h4) (sh_bump hv ht hlen ha hb hp hI h e h2 h3 h4)
/-- The law on shares. -/
theorem shares_law {cs : List Clm} {total t : Int} {a b : Clm} {k : Nat} {active : Bool} (hv : allV cs = true) (ht : taxB t = true) (hlen : cs.length = k + 2) (ha : cs[k]? = some a) (hb : cs[k + 1]? = some b) (hp : Pairing a b t active) (hg : goodT cs total t = true) :
    ∃ x y : Int, (targetsL cs total t).length = k + 2 ∧ (targetsL cs total t)[k]? = some x ∧ (targetsL cs total t)[k + 1]? = some y ∧ (x ≤ y ∨ (evenB a b t active ∧ x = y + 1)) := by
  unfold targetsL
  rw [if_pos hg]
  have h0 : ShI (evenB a b t active) k (resv cs) := by
    intro x y hx hy
    unfold resv at hx hy
    rw [List.getElem?_map, ha] at hx
    rw [List.getElem?_map, hb] at hy
    simp at hx hy
    have := hp.r
    left; omega
  have h1 := give_sh hv ht hlen ha hb hp (total - sumI (resv cs)).toNat _ (InL.resv hv) h0
  have h2 := (give_in (t := t) (total - sumI (resv cs)).toNat _ (InL.resv hv)).1.1
  generalize give cs t (total - sumI (resv cs)).toNat (resv cs) = fr at h1 h2
  obtain ⟨x, hx⟩ := get_lt (xs := fr) (k := k) (by omega)
  obtain ⟨y, hy⟩ := get_lt (xs := fr) (k := k + 1) (by omega)
  exact ⟨x, y, by omega, hx, hy, h1 x y hx hy⟩

/-! poorer is an order -/
theorem lazy_law {c : Clm} {t : Int} (hv : validB c = true) (ht : taxB t = true) : poorB ⟨c.r, c.l, c.s, c.p, 0⟩ ⟨c.r, c.l, c.s, c.p, 1000⟩ t = (decide (0 < c.p) && decide (0 < t)) := by
  have w := (validB_iff c).1 hv
  have wt := (taxB_iff t).1 ht
  have v0 : validB ⟨c.r, c.l, c.s, c.p, 0⟩ = true := by rw [validB_iff]; dsimp only; omega
  have v1 : validB ⟨c.r, c.l, c.s, c.p, 1000⟩ = true := by rw [validB_iff]; dsimp only; omega
  rw [Bool.eq_iff_iff, poor_iff v0 v1 ht, costI_yes v0 ht, costI_yes v1 ht, Bool.and_eq_true, decide_eq_true_iff, decide_eq_true_iff]
  unfold costR
  rw [rate_eq, rate_eq]
  dsimp only
  constructor
  · intro h
    have h1 := Int.lt_of_mul_lt_mul_left h (by omega)
    have h2 : 0 < c.p := by
      by_cases e : c.p = 0
      · rw [e] at h1; omega
      · omega
    have h3 := Int.lt_of_mul_lt_mul_left h1 (by omega)
    omega
  · rintro ⟨h1, h2⟩
    have h3 : c.p * (100000 - 1000 * t) < c.p * (100000 - 0 * t) := Int.mul_lt_mul_of_pos_left (by omega) h1
    exact Int.mul_lt_mul_of_pos_left h3 (by omega)
end Go.Proofs.Ytclnjjppcdgkiaa
