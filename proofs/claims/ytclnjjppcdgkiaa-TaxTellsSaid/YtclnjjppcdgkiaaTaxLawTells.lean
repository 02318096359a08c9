/-
  The law on the reference at whatever arguments, walked.
-/
import Derived.Test.YtclnjjppcdgkiaaTaxRefSample
import Derived.Test.YtclnjjppcdgkiaaTaxLawMade
namespace Go.Proofs.Ytclnjjppcdgkiaa
open Go.RowKit

set_option maxRecDepth 100000 in
theorem tells_out (r l s p a r' l' s' p' a' t seed pages n old total : Int) (va : Value) (cs : List Clm) (w : World) (ha : ClmRow w va cs) (h : 20 < cs.length) :
    Calls Try.prog 3 #[.agg #[.int .i64 r, .int .i64 l, .int .i64 s, .int .i64 p, .int .i64 a], .agg #[.int .i64 r', .int .i64 l', .int .i64 s', .int .i64 p', .int .i64 a'], va, .int .i64 t, .int .u64 seed, .int .i64 pages, .int .i64 n, .int .i64 old, .int .i64 total] w (Ret w (.bool true)) := by
  obtain ⟨ao, ca, rfl, a1, a2, a3⟩ := ha.out
  unfold maxLen at a2
  clear ha a3
  obtain ⟨k, hn⟩ : ∃ n, cs.length = n := ⟨_, rfl⟩
  rw [hn] at h a1 ⊢
  clear hn
  go_enter Try.func3, Try.ntmps3
  go_wp2_with fail
  refine (awake_any _).mono ?_
  rintro e w1 ⟨rfl, hb1⟩
  obtain ⟨hc1, hf1⟩ := bcell hb1
  have hz1 := bsize hb1
  try simp only [sizes1] at hz1
  try simp only [sizes] at hc1 hf1
  go_wp2_with fail
  go_ret
  exact Ret.mk (by repeat (first | with_reducible exact Below.refl _ _ | with_reducible refine Below.drew ?_ | (with_reducible refine Below.alloc ?_ (by first | exact Nat.le_refl _ | omega | (simp only [sizes]; omega)) _) | (with_reducible refine Below.setCell ?_ (by first | exact Nat.le_refl _ | omega | (simp only [sizes]; omega)) _) | (refine Below.trans ?_ (Below.mono (by with_reducible assumption) (by first | exact Nat.le_refl _ | omega | (simp only [sizes]; omega))))))

theorem tells_two (w : World) (x0 x1 x2 x3 x4 y0 y1 y2 y3 y4 : Value) (T : TypeId) : ∃ W : World, W = (w.alloc (.cells #[x0, x1, x2, x3, x4] T)).alloc (.cells #[y0, y1, y2, y3, y4] T) ∧ HasBlock W w.heap.size #[x0, x1, x2, x3, x4] T ∧ HasBlock W (w.heap.size + 1) #[y0, y1, y2, y3, y4] T := by
  refine ⟨_, rfl, (HasBlock.made w _ T).alloc _, ?_⟩
  have := HasBlock.made (w.alloc (.cells #[x0, x1, x2, x3, x4] T)) #[y0, y1, y2, y3, y4] T
  simpa only [sizes] using this

set_option maxRecDepth 100000 in
set_option maxHeartbeats 8000000 in
theorem tells_in (r l s p a r' l' s' p' a' t seed pages n old total : Int) (va : Value) (cs : List Clm) (w : World) (ha : ClmRow w va cs) (h : cs.length ≤ 20) (hs : 0 ≤ seed ∧ seed < 18446744073709551616) :
    Calls Try.prog 3 #[.agg #[.int .i64 r, .int .i64 l, .int .i64 s, .int .i64 p, .int .i64 a], .agg #[.int .i64 r', .int .i64 l', .int .i64 s', .int .i64 p', .int .i64 a'], va, .int .i64 t, .int .u64 seed, .int .i64 pages, .int .i64 n, .int .i64 old, .int .i64 total] w (Ret w (.bool true)) := by
  have hrow := ha
  obtain ⟨ao, ca, rfl, a1, a2, a3⟩ := ha.out
  unfold maxLen at a2
  clear ha a3
  obtain ⟨k, hn⟩ : ∃ n, cs.length = n := ⟨_, rfl⟩
  rw [hn] at h a1 hrow ⊢
  have HN := Lib.hid hn; clear hn
  have HROW := Lib.hid hrow; clear hrow
  have V1 := fun va w ha => idletax_Victim_any va cs t w ha
  have V2 := fun va w ha => vmfleetref35_Payer_any va cs t w ha
  obtain ⟨⟨vi, vb⟩, hvi⟩ : ∃ x, victimR cs t = x := ⟨_, rfl⟩
  rw [hvi] at V1 V2
  have HV1 := Lib.hid V1; clear V1
  have HV2 := Lib.hid V2; clear V2 hvi
  have T1 := fun va w ha => idletax_Targets_any va cs total t w ha
  have T2 := fun va w ha => vmfleetref35_Targets_any va cs total t w ha
  obtain ⟨fr, hfr⟩ : ∃ x, targetsL cs total t = x := ⟨_, rfl⟩
  obtain ⟨gd, hgd⟩ : ∃ x, goodT cs total t = x := ⟨_, rfl⟩
  rw [hfr, hgd] at T1 T2
  have HT1 := Lib.hid T1; clear T1
  have HT2 := Lib.hid T2; clear T2 hfr hgd
  have S1 := fun w => idletax_Sample_any seed pages n w hs
  have S2 := fun w => vmfleetref35_Sample_any seed pages n w hs
  obtain ⟨sl, hsl⟩ : ∃ x, sampleL seed pages n = x := ⟨_, rfl⟩
  obtain ⟨ss, hss⟩ : ∃ x, sampleS seed pages n = x := ⟨_, rfl⟩
  rw [hsl, hss] at S1 S2
  have HS1 := Lib.hid S1; clear S1
  have HS2 := Lib.hid S2; clear S2 hsl hss hs
  have E1 := fun w => idletax_Estimate_any old pages n w
  have E2 := fun w => vmfleetref35_Estimate_any old pages n w
  obtain ⟨es, hes⟩ : ∃ x, estimateI old pages n = x := ⟨_, rfl⟩
  rw [hes] at E1 E2
  have HE1 := Lib.hid E1; clear E1
  have HE2 := Lib.hid E2; clear E2 hes
  have A1 := fun w => idletax_Valid_any r l s p a w
  have A2 := fun w => vmfleetref35_ValidClaim_any r l s p a w
  obtain ⟨vx, hvx⟩ : ∃ x, validB ⟨r, l, s, p, a⟩ = x := ⟨_, rfl⟩
  rw [hvx] at A1 A2
  have HA1 := Lib.hid A1; clear A1
  have HA2 := Lib.hid A2; clear A2 hvx
  have C1 := fun w => idletax_Cost_any r l s p a t w
  have C2 := fun w => vmfleetref35_Cost_any r l s p a t w
  obtain ⟨cx, hcx⟩ : ∃ x, costI ⟨r, l, s, p, a⟩ t = x := ⟨_, rfl⟩
  rw [hcx] at C1 C2
  have HC1 := Lib.hid C1; clear C1
  have HC2 := Lib.hid C2; clear C2 hcx
  have P1 := fun w => idletax_Poorer_any r l s p a r' l' s' p' a' t w
  have P2 := fun w => vmfleetref35_Poorer_any r l s p a r' l' s' p' a' t w
  obtain ⟨px, hpx⟩ : ∃ x, poorB ⟨r, l, s, p, a⟩ ⟨r', l', s', p', a'⟩ t = x := ⟨_, rfl⟩
  rw [hpx] at P1 P2
  have HP1 := Lib.hid P1; clear P1
  have HP2 := Lib.hid P2; clear P2 hpx
  go_enter Try.func3, Try.ntmps3
  go_wp2_with fail
  obtain ⟨W, hW, D1, D2⟩ := tells_two w (.int .i64 r) (.int .i64 l) (.int .i64 s) (.int .i64 p) (.int .i64 a) (.int .i64 r') (.int .i64 l') (.int .i64 s') (.int .i64 p') (.int .i64 a') 23
  have hbW : Below w.heap.size w W := by rw [hW]; exact (by repeat (first | with_reducible exact Below.refl _ _ | with_reducible refine Below.drew ?_ | (with_reducible refine Below.alloc ?_ (by first | exact Nat.le_refl _ | omega | (simp only [sizes]; omega)) _) | (with_reducible refine Below.setCell ?_ (by first | exact Nat.le_refl _ | omega | (simp only [sizes]; omega)) _) | (refine Below.trans ?_ (Below.mono (by with_reducible assumption) (by first | exact Nat.le_refl _ | omega | (simp only [sizes]; omega))))))
  rw [← hW]
  clear hW
  have hn1 : ∃ n1, w.heap.size = n1 := ⟨_, rfl⟩
  have hb1 := hbW
  clear hbW
  refine (HV1.out _ _ (HROW.out.below' hb1)).mono ?_
  rintro e w2 ⟨rfl, hb⟩
  have hb2 : Below w.heap.size w w2 := hb1.trans (hb.mono hb1.size)
  replace D1 := D1.below hb
  replace D2 := D2.below hb
  clear hb1 hb
  go_wp2_with fail
  refine (HV2.out _ _ (HROW.out.below' hb2)).mono ?_
  rintro e w3 ⟨rfl, hb⟩
  have hb3 : Below w.heap.size w w3 := hb2.trans (hb.mono hb2.size)
  replace D1 := D1.below hb
  replace D2 := D2.below hb
  clear hb2 hb
  go_wp2_with fail
  refine (HS1.out _).mono ?_
  rintro e w4 ⟨v4, rfl, hr4, hb⟩
  have hb4 : Below w.heap.size w w4 := hb3.trans (hb.mono hb3.size)
  replace D1 := D1.below hb
  replace D2 := D2.below hb
  clear hb3
  clear hb
  go_wp2_with fail
  refine (HS2.out _).mono ?_
  rintro e w5 ⟨v5, rfl, hr5, hb⟩
  have hb5 : Below w.heap.size w w5 := hb4.trans (hb.mono hb4.size)
  replace D1 := D1.below hb
  replace D2 := D2.below hb
  clear hb4
  have hr4' := hr4.below hb
  clear hr4 hb
  go_wp2_with fail
  refine (HT1.out _ _ (HROW.out.below' hb5)).mono ?_
  rintro e w6 ⟨v6, rfl, hr6, hb⟩
  have hb6 : Below w.heap.size w w6 := hb5.trans (hb.mono hb5.size)
  replace D1 := D1.below hb
  replace D2 := D2.below hb
  clear hb5
  have hr4 := hr4'.below hb
  have hr5' := hr5.below hb
  clear hr4' hr5 hb
  go_wp2_with fail
  refine (HT2.out _ _ (HROW.out.below' hb6)).mono ?_
  rintro e w7 ⟨v7, rfl, hr7, hb⟩
  have hb7 : Below w.heap.size w w7 := hb6.trans (hb.mono hb6.size)
  replace D1 := D1.below hb
  replace D2 := D2.below hb
  clear hb6
  have HR4 := Lib.hid (hr4.below hb)
  have HR5 := Lib.hid (hr5'.below hb)
  have HR6 := Lib.hid (hr6.below hb)
  have HR7 := Lib.hid hr7
  clear hr4 hr5' hr6 hr7 hb
  obtain ⟨n1, hn1⟩ := hn1
  rw [hn1] at D1 D2 ⊢
  have x0 := (D1.cell 0).trans rfl
  have x1 := (D1.cell 1).trans rfl
  have x2 := (D1.cell 2).trans rfl
  have x3 := (D1.cell 3).trans rfl
  have x4 := (D1.cell 4).trans rfl
  have xf := D1.free
  have xz := D1.lt
  have y0 := (D2.cell 0).trans rfl
  have y1 := (D2.cell 1).trans rfl
  have y2 := (D2.cell 2).trans rfl
  have y3 := (D2.cell 3).trans rfl
  have y4 := (D2.cell 4).trans rfl
  have yf := D2.free
  have yz := D2.lt
  go_wp2_with fail
  refine wp_region_quiet_below (by kernel_rfl) (by kernel_rfl) ?_
  dsimp only [List.append]
  repeat (go_big_quiet_step (first | fail | (first | (go_at_call 19; exact quiet_ret (HA1.out _)) | (go_at_call 20; exact quiet_ret (HA2.out _)) | (go_at_call 21; exact quiet_ret (HC1.out _)) | (go_at_call 22; exact quiet_ret (HC2.out _)) | (go_at_call 23; exact quiet_ret (HP1.out _)) | (go_at_call 24; exact quiet_ret (HP2.out _)) | (go_at_call 26; exact quiet_ret (HE1.out _)) | (go_at_call 27; exact quiet_ret (HE2.out _)) | (go_at_call 25; first | with_reducible exact quiet_ret (sameInts_self _ _ sl _ (HR4.out.below (below_regrown _ _ _)) (HR5.out.below (below_regrown _ _ _))) | exact quiet_ret (sameInts_self _ _ fr _ (HR6.out.below (below_regrown _ _ _)) (HR7.out.below (below_regrown _ _ _)))) | (go_at_call 12; exact quiet_ret (awake_any _)))))
  refine wpQuiet_nil ?_
  intro w9 hw9
  have hb9 := below_of_regrown hw9
  clear hw9
  obtain ⟨hc9, hf9⟩ := bcell hb9
  have hz9 := bsize hb9
  try simp only [sizes1] at hz9
  try simp only [sizes] at hc9 hf9
  go_wp2_with fail
  go_ret
  have hs7 := hb7.size
  exact Ret.mk (by repeat (first | with_reducible exact Below.refl _ _ | with_reducible refine Below.drew ?_ | (with_reducible refine Below.alloc ?_ (by first | exact Nat.le_refl _ | omega | (simp only [sizes]; omega)) _) | (with_reducible refine Below.setCell ?_ (by first | exact Nat.le_refl _ | omega | (simp only [sizes]; omega)) _) | (refine Below.trans ?_ (Below.mono (by with_reducible assumption) (by first | exact Nat.le_refl _ | omega | (simp only [sizes]; omega))))))
end Go.Proofs.Ytclnjjppcdgkiaa
