/-
  The law on the order 'poorer', walked.
-/
import Derived.Test.YtclnjjppcdgkiaaTaxPlain2
import Derived.Test.YtclnjjppcdgkiaaTaxLawVictim
namespace Go.Proofs.Ytclnjjppcdgkiaa
open Go.RowKit

theorem HasBlock.made5 (w : World) (x0 x1 x2 x3 x4 : Value) (T : TypeId) : HasBlock (w.alloc (.cells #[x0, x1, x2, x3, x4] T)) w.heap.size #[x0, x1, x2, x3, x4] T := HasBlock.made w _ T

theorem three_blocks (w : World) (x0 x1 x2 x3 x4 y0 y1 y2 y3 y4 z0 z1 z2 z3 z4 : Value) (T : TypeId) :
    HasBlock (((w.alloc (.cells #[x0, x1, x2, x3, x4] T)).alloc (.cells #[y0, y1, y2, y3, y4] T)).alloc (.cells #[z0, z1, z2, z3, z4] T)) w.heap.size #[x0, x1, x2, x3, x4] T ∧
    HasBlock (((w.alloc (.cells #[x0, x1, x2, x3, x4] T)).alloc (.cells #[y0, y1, y2, y3, y4] T)).alloc (.cells #[z0, z1, z2, z3, z4] T)) (w.heap.size + 1) #[y0, y1, y2, y3, y4] T ∧
    HasBlock (((w.alloc (.cells #[x0, x1, x2, x3, x4] T)).alloc (.cells #[y0, y1, y2, y3, y4] T)).alloc (.cells #[z0, z1, z2, z3, z4] T)) (w.heap.size + 1 + 1) #[z0, z1, z2, z3, z4] T := by
  refine ⟨((HasBlock.made5 w _ _ _ _ _ _).alloc _).alloc _, ?_, ?_⟩
  · have := (HasBlock.made5 (w.alloc (.cells #[x0, x1, x2, x3, x4] T)) y0 y1 y2 y3 y4 T).alloc (.cells #[z0, z1, z2, z3, z4] T)
    simpa only [sizes] using this
  · have := HasBlock.made5 ((w.alloc (.cells #[x0, x1, x2, x3, x4] T)).alloc (.cells #[y0, y1, y2, y3, y4] T)) z0 z1 z2 z3 z4 T
    simpa only [sizes] using this

theorem two_blocks (w : World) (x0 x1 x2 x3 x4 y0 y1 y2 y3 y4 : Value) (T : TypeId) :
    HasBlock ((w.alloc (.cells #[x0, x1, x2, x3, x4] T)).alloc (.cells #[y0, y1, y2, y3, y4] T)) w.heap.size #[x0, x1, x2, x3, x4] T ∧
    HasBlock ((w.alloc (.cells #[x0, x1, x2, x3, x4] T)).alloc (.cells #[y0, y1, y2, y3, y4] T)) (w.heap.size + 1) #[y0, y1, y2, y3, y4] T := by
  refine ⟨(HasBlock.made5 w _ _ _ _ _ _).alloc _, ?_⟩
  have := HasBlock.made5 (w.alloc (.cells #[x0, x1, x2, x3, x4] T)) y0 y1 y2 y3 y4 T
  simpa only [sizes] using this

set_option maxRecDepth 100000 in
set_option maxHeartbeats 40000000 in
theorem orders_any (x y z X : Int) (w : World) (hX : -9223372036854775808 ≤ X ∧ X ≤ 9223372036854775807) :
    Calls Try.prog 8 #[.int .i64 x, .int .i64 y, .int .i64 z, .int .i64 X] w (Ret w (.bool true)) := by
  have htx := tax_mod X
  obtain ⟨u, hu⟩ : ∃ u, X % 100 = u := ⟨_, rfl⟩
  rw [hu] at htx
  have hub : 0 ≤ u ∧ u ≤ 99 := by omega
  have V := claimI_valid x
  obtain ⟨⟨r1, l1, s1, p1, a1⟩, h1⟩ : ∃ c, claimI x = c := ⟨_, rfl⟩
  obtain ⟨⟨r2, l2, s2, p2, a2⟩, h2⟩ : ∃ c, claimI y = c := ⟨_, rfl⟩
  obtain ⟨⟨r3, l3, s3, p3, a3⟩, h3⟩ : ∃ c, claimI z = c := ⟨_, rfl⟩
  rw [h1] at V
  have hl := Lib.hid (lazy_law V htx)
  clear V htx
  have H1 := Lib.hid h1; clear h1
  have H2 := Lib.hid h2; clear h2
  have H3 := Lib.hid h3; clear h3
  have HU := Lib.hid hu; clear hu
  go_enter Try.func8, Try.ntmps8
  go_wp2_with fail
  refine (claim_any x _).mono ?_
  rw [H1.out]
  rintro e w1 ⟨rfl, hb1⟩
  obtain ⟨hc1, hf1⟩ := bcell hb1
  have hz1 := bsize hb1
  try simp only [sizes1] at hz1
  try simp only [sizes] at hc1 hf1
  go_wp2_with fail
  refine (claim_any y _).mono ?_
  rw [H2.out]
  rintro e w2 ⟨rfl, hb2⟩
  obtain ⟨hc2, hf2⟩ := bcell hb2
  have hz2 := bsize hb2
  try simp only [sizes1] at hz2
  try simp only [sizes] at hc2 hf2
  go_wp2_with fail
  refine (claim_any z _).mono ?_
  rw [H3.out]
  rintro e w3 ⟨rfl, hb3⟩
  obtain ⟨hc3, hf3⟩ := bcell hb3
  have hz3 := bsize hb3
  try simp only [sizes1] at hz3
  try simp only [sizes] at hc3 hf3
  have hb13 : Below w.heap.size w w3 := (by repeat (first | with_reducible exact Below.refl _ _ | with_reducible refine Below.drew ?_ | (with_reducible refine Below.alloc ?_ (by first | exact Nat.le_refl _ | omega | (simp only [sizes]; omega)) _) | (with_reducible refine Below.setCell ?_ (by first | exact Nat.le_refl _ | omega | (simp only [sizes]; omega)) _) | (refine Below.trans ?_ (Below.mono (by with_reducible assumption) (by first | exact Nat.le_refl _ | omega | (simp only [sizes]; omega))))))
  clear hc1 hf1 hc2 hf2 hc3 hf3 hb1 hb2 hb3
  go_wp2_with fail
  refine (round_any _ 100 _ hX (by omega) (by omega)).mono ?_
  rw [HU.out]
  rintro e w4 ⟨rfl, hb4⟩
  have hz4 := bsize hb4
  obtain ⟨B1, B2, B3⟩ := three_blocks w3 (.int .i64 r1) (.int .i64 l1) (.int .i64 s1) (.int .i64 p1) (.int .i64 a1) (.int .i64 r2) (.int .i64 l2) (.int .i64 s2) (.int .i64 p2) (.int .i64 a2) (.int .i64 r3) (.int .i64 l3) (.int .i64 s3) (.int .i64 p3) (.int .i64 a3) 23
  have D1 := B1.below hb4
  have D2 := B2.below hb4
  have D3 := B3.below hb4
  have hbw4 : Below w.heap.size w w4 := (by repeat (first | with_reducible exact Below.refl _ _ | with_reducible refine Below.drew ?_ | (with_reducible refine Below.alloc ?_ (by first | exact Nat.le_refl _ | omega | (simp only [sizes]; omega)) _) | (with_reducible refine Below.setCell ?_ (by first | exact Nat.le_refl _ | omega | (simp only [sizes]; omega)) _) | (refine Below.trans ?_ (Below.mono (by with_reducible assumption) (by first | exact Nat.le_refl _ | omega | (simp only [sizes]; omega))))))
  clear hb13 hb4 B1 B2 B3
  have hn0 : w.heap.size ≤ w3.heap.size := by omega
  clear hz1 hz2 hz3 hz4
  obtain ⟨n1, hn1⟩ : ∃ n, w3.heap.size = n := ⟨_, rfl⟩
  rw [hn1] at D1 D2 D3 hn0 ⊢
  clear hn1
  have hbw : Below w.heap.size w w4 := hbw4
  clear hbw4
  have HQ0 := Lib.hid (poor_irrefl ⟨r1, l1, s1, p1, a1⟩ u)
  have x0 := (D1.cell 0).trans rfl
  have x1 := (D1.cell 1).trans rfl
  have x2 := (D1.cell 2).trans rfl
  have x3 := (D1.cell 3).trans rfl
  have x4 := (D1.cell 4).trans rfl
  have xf := D1.free
  have xz := D1.lt
  have y0 := (D2.cell 0).trans rfl
  have y1 := (D2.cell 1).trans rfl
  have y2 := (D2.cell 2).trans rfl
  have y3 := (D2.cell 3).trans rfl
  have y4 := (D2.cell 4).trans rfl
  have yf := D2.free
  have yz := D2.lt
  have z0 := (D3.cell 0).trans rfl
  have z1 := (D3.cell 1).trans rfl
  have z2 := (D3.cell 2).trans rfl
  have z3 := (D3.cell 3).trans rfl
  have z4 := (D3.cell 4).trans rfl
  have zf := D3.free
  have zz := D3.lt
  cases hq1 : poorB ⟨r1, l1, s1, p1, a1⟩ ⟨r2, l2, s2, p2, a2⟩ u
  · have HQ1 := Lib.hid hq1; clear hq1
    go_wp2_with fail
    refine (poor_is HQ0.out _).mono ?_
    rintro e w5 ⟨rfl, hb5⟩
    clear x0 x1 x2 x3 x4 xf xz y0 y1 y2 y3 y4 yf yz z0 z1 z2 z3 z4 zf zz
    replace D1 := D1.below hb5
    replace D2 := D2.below hb5
    replace D3 := D3.below hb5
    have hs := hbw.size
    have hbw' : Below w.heap.size w w5 := (by repeat (first | with_reducible exact Below.refl _ _ | with_reducible refine Below.drew ?_ | (with_reducible refine Below.alloc ?_ (by first | exact Nat.le_refl _ | omega | (simp only [sizes]; omega)) _) | (with_reducible refine Below.setCell ?_ (by first | exact Nat.le_refl _ | omega | (simp only [sizes]; omega)) _) | (refine Below.trans ?_ (Below.mono (by with_reducible assumption) (by first | exact Nat.le_refl _ | omega | (simp only [sizes]; omega))))))
    clear hs hbw hb5
    have hbw := hbw'
    clear hbw'
    have x0 := (D1.cell 0).trans rfl
    have x1 := (D1.cell 1).trans rfl
    have x2 := (D1.cell 2).trans rfl
    have x3 := (D1.cell 3).trans rfl
    have x4 := (D1.cell 4).trans rfl
    have xf := D1.free
    have xz := D1.lt
    have y0 := (D2.cell 0).trans rfl
    have y1 := (D2.cell 1).trans rfl
    have y2 := (D2.cell 2).trans rfl
    have y3 := (D2.cell 3).trans rfl
    have y4 := (D2.cell 4).trans rfl
    have yf := D2.free
    have yz := D2.lt
    have z0 := (D3.cell 0).trans rfl
    have z1 := (D3.cell 1).trans rfl
    have z2 := (D3.cell 2).trans rfl
    have z3 := (D3.cell 3).trans rfl
    have z4 := (D3.cell 4).trans rfl
    have zf := D3.free
    have zz := D3.lt
    go_wp2_with fail
    refine (poor_is HQ1.out _).mono ?_
    rintro e w6 ⟨rfl, hb6⟩
    clear x0 x1 x2 x3 x4 xf xz y0 y1 y2 y3 y4 yf yz z0 z1 z2 z3 z4 zf zz
    replace D1 := D1.below hb6
    replace D2 := D2.below hb6
    replace D3 := D3.below hb6
    have hs := hbw.size
    have hbw' : Below w.heap.size w w6 := (by repeat (first | with_reducible exact Below.refl _ _ | with_reducible refine Below.drew ?_ | (with_reducible refine Below.alloc ?_ (by first | exact Nat.le_refl _ | omega | (simp only [sizes]; omega)) _) | (with_reducible refine Below.setCell ?_ (by first | exact Nat.le_refl _ | omega | (simp only [sizes]; omega)) _) | (refine Below.trans ?_ (Below.mono (by with_reducible assumption) (by first | exact Nat.le_refl _ | omega | (simp only [sizes]; omega))))))
    clear hs hbw hb6
    have hbw := hbw'
    clear hbw'
    have x0 := (D1.cell 0).trans rfl
    have x1 := (D1.cell 1).trans rfl
    have x2 := (D1.cell 2).trans rfl
    have x3 := (D1.cell 3).trans rfl
    have x4 := (D1.cell 4).trans rfl
    have xf := D1.free
    have xz := D1.lt
    have y0 := (D2.cell 0).trans rfl
    have y1 := (D2.cell 1).trans rfl
    have y2 := (D2.cell 2).trans rfl
    have y3 := (D2.cell 3).trans rfl
    have y4 := (D2.cell 4).trans rfl
    have yf := D2.free
    have yz := D2.lt
    have z0 := (D3.cell 0).trans rfl
    have z1 := (D3.cell 1).trans rfl
    have z2 := (D3.cell 2).trans rfl
    have z3 := (D3.cell 3).trans rfl
    have z4 := (D3.cell 4).trans rfl
    have zf := D3.free
    have zz := D3.lt
    by_cases hp1 : 0 < p1
    · have hd1 : decide (0 < p1) = true := decide_eq_true hp1
      by_cases hp2 : 0 < p2
      · have hd2 : decide (0 < p2) = true := decide_eq_true hp2
        by_cases hp3 : 0 < p3
        · have hd3 : decide (0 < p3) = true := decide_eq_true hp3
          go_wp2_with fail
          refine (poor_is HQ1.out _).mono ?_
          rintro e w7 ⟨rfl, hb7⟩
          clear x0 x1 x2 x3 x4 xf xz y0 y1 y2 y3 y4 yf yz z0 z1 z2 z3 z4 zf zz
          replace D1 := D1.below hb7
          replace D2 := D2.below hb7
          replace D3 := D3.below hb7
          have hs := hbw.size
          have hbw' : Below w.heap.size w w7 := (by repeat (first | with_reducible exact Below.refl _ _ | with_reducible refine Below.drew ?_ | (with_reducible refine Below.alloc ?_ (by first | exact Nat.le_refl _ | omega | (simp only [sizes]; omega)) _) | (with_reducible refine Below.setCell ?_ (by first | exact Nat.le_refl _ | omega | (simp only [sizes]; omega)) _) | (refine Below.trans ?_ (Below.mono (by with_reducible assumption) (by first | exact Nat.le_refl _ | omega | (simp only [sizes]; omega))))))
          clear hs hbw hb7
          have hbw := hbw'
          clear hbw'
          have x0 := (D1.cell 0).trans rfl
          have x1 := (D1.cell 1).trans rfl
          have x2 := (D1.cell 2).trans rfl
          have x3 := (D1.cell 3).trans rfl
          have x4 := (D1.cell 4).trans rfl
          have xf := D1.free
          have xz := D1.lt
          have y0 := (D2.cell 0).trans rfl
          have y1 := (D2.cell 1).trans rfl
          have y2 := (D2.cell 2).trans rfl
          have y3 := (D2.cell 3).trans rfl
          have y4 := (D2.cell 4).trans rfl
          have yf := D2.free
          have yz := D2.lt
          have z0 := (D3.cell 0).trans rfl
          have z1 := (D3.cell 1).trans rfl
          have z2 := (D3.cell 2).trans rfl
          have z3 := (D3.cell 3).trans rfl
          have z4 := (D3.cell 4).trans rfl
          have zf := D3.free
          have zz := D3.lt
          go_wp2_with fail
          by_cases hu0 : 0 < u
          · have hdu : decide (0 < u) = true := decide_eq_true hu0
            have HL' := hl.out
            rw [hd1, hdu] at HL'
            have HL := Lib.hid HL'; clear HL'
            obtain ⟨E1, E2⟩ := two_blocks w7 (.int .i64 r1) (.int .i64 l1) (.int .i64 s1) (.int .i64 p1) (.int .i64 0) (.int .i64 r1) (.int .i64 l1) (.int .i64 s1) (.int .i64 p1) (.int .i64 1000) 23
            have F1 := (D1.alloc (.cells #[.int .i64 r1, .int .i64 l1, .int .i64 s1, .int .i64 p1, .int .i64 0] 23)).alloc (.cells #[.int .i64 r1, .int .i64 l1, .int .i64 s1, .int .i64 p1, .int .i64 1000] 23)
            have hs := hbw.size
            have hbw' : Below w.heap.size w ((w7.alloc (.cells #[.int .i64 r1, .int .i64 l1, .int .i64 s1, .int .i64 p1, .int .i64 0] 23)).alloc (.cells #[.int .i64 r1, .int .i64 l1, .int .i64 s1, .int .i64 p1, .int .i64 1000] 23)) := (by repeat (first | with_reducible exact Below.refl _ _ | with_reducible refine Below.drew ?_ | (with_reducible refine Below.alloc ?_ (by first | exact Nat.le_refl _ | omega | (simp only [sizes]; omega)) _) | (with_reducible refine Below.setCell ?_ (by first | exact Nat.le_refl _ | omega | (simp only [sizes]; omega)) _) | (refine Below.trans ?_ (Below.mono (by with_reducible assumption) (by first | exact Nat.le_refl _ | omega | (simp only [sizes]; omega))))))
            clear hs x0 x1 x2 x3 x4 xf xz y0 y1 y2 y3 y4 yf yz z0 z1 z2 z3 z4 zf zz D1 D2 D3 hbw
            generalize hW : (w7.alloc (.cells #[.int .i64 r1, .int .i64 l1, .int .i64 s1, .int .i64 p1, .int .i64 0] 23)).alloc (.cells #[.int .i64 r1, .int .i64 l1, .int .i64 s1, .int .i64 p1, .int .i64 1000] 23) = wz at E1 E2 F1 hbw' ⊢
            clear hW
            obtain ⟨n2, hn2⟩ : ∃ n, w7.heap.size = n := ⟨_, rfl⟩
            rw [hn2] at E1 E2 ⊢
            clear hn2
            have x0 := (E1.cell 0).trans rfl
            have x1 := (E1.cell 1).trans rfl
            have x2 := (E1.cell 2).trans rfl
            have x3 := (E1.cell 3).trans rfl
            have x4 := (E1.cell 4).trans rfl
            have xf := E1.free
            have xz := E1.lt
            have y0 := (E2.cell 0).trans rfl
            have y1 := (E2.cell 1).trans rfl
            have y2 := (E2.cell 2).trans rfl
            have y3 := (E2.cell 3).trans rfl
            have y4 := (E2.cell 4).trans rfl
            have yf := E2.free
            have yz := E2.lt
            have z0 := (F1.cell 0).trans rfl
            have z1 := (F1.cell 1).trans rfl
            have z2 := (F1.cell 2).trans rfl
            have z3 := (F1.cell 3).trans rfl
            have z4 := (F1.cell 4).trans rfl
            have zf := F1.free
            have zz := F1.lt
            refine wp_region_quiet_below (by kernel_rfl) (by kernel_rfl) ?_
            repeat (go_big_quiet_step (first | fail | (first | (go_at_call 23; with_reducible exact quiet_ret (poor_is HL.out _)) | (go_at_call 12; exact quiet_ret (awake_any _)))))
            refine wpQuiet_nil ?_
            intro w9 hw9
            have hb9 := below_of_regrown hw9
            clear hw9
            obtain ⟨hc9, hf9⟩ := bcell hb9
            have hz9 := bsize hb9
            try simp only [sizes1] at hz9
            try simp only [sizes] at hc9 hf9
            go_wp2_with fail
            go_ret
            have hs := hbw'.size
            exact Ret.mk (by repeat (first | with_reducible exact Below.refl _ _ | with_reducible refine Below.drew ?_ | (with_reducible refine Below.alloc ?_ (by first | exact Nat.le_refl _ | omega | (simp only [sizes]; omega)) _) | (with_reducible refine Below.setCell ?_ (by first | exact Nat.le_refl _ | omega | (simp only [sizes]; omega)) _) | (refine Below.trans ?_ (Below.mono (by with_reducible assumption) (by first | exact Nat.le_refl _ | omega | (simp only [sizes]; omega))))))
          · have hdu : decide (0 < u) = false := decide_eq_false hu0
            have HL' := hl.out
            rw [hd1, hdu] at HL'
            have HL := Lib.hid HL'; clear HL'
            obtain ⟨E1, E2⟩ := two_blocks w7 (.int .i64 r1) (.int .i64 l1) (.int .i64 s1) (.int .i64 p1) (.int .i64 0) (.int .i64 r1) (.int .i64 l1) (.int .i64 s1) (.int .i64 p1) (.int .i64 1000) 23
            have F1 := (D1.alloc (.cells #[.int .i64 r1, .int .i64 l1, .int .i64 s1, .int .i64 p1, .int .i64 0] 23)).alloc (.cells #[.int .i64 r1, .int .i64 l1, .int .i64 s1, .int .i64 p1, .int .i64 1000] 23)
            have hs := hbw.size
            have hbw' : Below w.heap.size w ((w7.alloc (.cells #[.int .i64 r1, .int .i64 l1, .int .i64 s1, .int .i64 p1, .int .i64 0] 23)).alloc (.cells #[.int .i64 r1, .int .i64 l1, .int .i64 s1, .int .i64 p1, .int .i64 1000] 23)) := (by repeat (first | with_reducible exact Below.refl _ _ | with_reducible refine Below.drew ?_ | (with_reducible refine Below.alloc ?_ (by first | exact Nat.le_refl _ | omega | (simp only [sizes]; omega)) _) | (with_reducible refine Below.setCell ?_ (by first | exact Nat.le_refl _ | omega | (simp only [sizes]; omega)) _) | (refine Below.trans ?_ (Below.mono (by with_reducible assumption) (by first | exact Nat.le_refl _ | omega | (simp only [sizes]; omega))))))
            clear hs x0 x1 x2 x3 x4 xf xz y0 y1 y2 y3 y4 yf yz z0 z1 z2 z3 z4 zf zz D1 D2 D3 hbw
            generalize hW : (w7.alloc (.cells #[.int .i64 r1, .int .i64 l1, .int .i64 s1, .int .i64 p1, .int .i64 0] 23)).alloc (.cells #[.int .i64 r1, .int .i64 l1, .int .i64 s1, .int .i64 p1, .int .i64 1000] 23) = wz at E1 E2 F1 hbw' ⊢
            clear hW
            obtain ⟨n2, hn2⟩ : ∃ n, w7.heap.size = n := ⟨_, rfl⟩
            rw [hn2] at E1 E2 ⊢
            clear hn2
            have x0 := (E1.cell 0).trans rfl
            have x1 := (E1.cell 1).trans rfl
            have x2 := (E1.cell 2).trans rfl
            have x3 := (E1.cell 3).trans rfl
            have x4 := (E1.cell 4).trans rfl
            have xf := E1.free
            have xz := E1.lt
            have y0 := (E2.cell 0).trans rfl
            have y1 := (E2.cell 1).trans rfl
            have y2 := (E2.cell 2).trans rfl
            have y3 := (E2.cell 3).trans rfl
            have y4 := (E2.cell 4).trans rfl
            have yf := E2.free
            have yz := E2.lt
            have z0 := (F1.cell 0).trans rfl
            have z1 := (F1.cell 1).trans rfl
            have z2 := (F1.cell 2).trans rfl
            have z3 := (F1.cell 3).trans rfl
            have z4 := (F1.cell 4).trans rfl
            have zf := F1.free
            have zz := F1.lt
            refine wp_region_quiet_below (by kernel_rfl) (by kernel_rfl) ?_
            repeat (go_big_quiet_step (first | fail | (first | (go_at_call 23; with_reducible exact quiet_ret (poor_is HL.out _)) | (go_at_call 12; exact quiet_ret (awake_any _)))))
            refine wpQuiet_nil ?_
            intro w9 hw9
            have hb9 := below_of_regrown hw9
            clear hw9
            obtain ⟨hc9, hf9⟩ := bcell hb9
            have hz9 := bsize hb9
            try simp only [sizes1] at hz9
            try simp only [sizes] at hc9 hf9
            go_wp2_with fail
            go_ret
            have hs := hbw'.size
            exact Ret.mk (by repeat (first | with_reducible exact Below.refl _ _ | with_reducible refine Below.drew ?_ | (with_reducible refine Below.alloc ?_ (by first | exact Nat.le_refl _ | omega | (simp only [sizes]; omega)) _) | (with_reducible refine Below.setCell ?_ (by first | exact Nat.le_refl _ | omega | (simp only [sizes]; omega)) _) | (refine Below.trans ?_ (Below.mono (by with_reducible assumption) (by first | exact Nat.le_refl _ | omega | (simp only [sizes]; omega))))))
        · have hd3 : decide (0 < p3) = false := decide_eq_false hp3
          go_wp2_with fail
          by_cases hu0 : 0 < u
          · have hdu : decide (0 < u) = true := decide_eq_true hu0
            have HL' := hl.out
            rw [hd1, hdu] at HL'
            have HL := Lib.hid HL'; clear HL'
            obtain ⟨E1, E2⟩ := two_blocks w6 (.int .i64 r1) (.int .i64 l1) (.int .i64 s1) (.int .i64 p1) (.int .i64 0) (.int .i64 r1) (.int .i64 l1) (.int .i64 s1) (.int .i64 p1) (.int .i64 1000) 23
            have F1 := (D1.alloc (.cells #[.int .i64 r1, .int .i64 l1, .int .i64 s1, .int .i64 p1, .int .i64 0] 23)).alloc (.cells #[.int .i64 r1, .int .i64 l1, .int .i64 s1, .int .i64 p1, .int .i64 1000] 23)
            have hs := hbw.size
            have hbw' : Below w.heap.size w ((w6.alloc (.cells #[.int .i64 r1, .int .i64 l1, .int .i64 s1, .int .i64 p1, .int .i64 0] 23)).alloc (.cells #[.int .i64 r1, .int .i64 l1, .int .i64 s1, .int .i64 p1, .int .i64 1000] 23)) := (by repeat (first | with_reducible exact Below.refl _ _ | with_reducible refine Below.drew ?_ | (with_reducible refine Below.alloc ?_ (by first | exact Nat.le_refl _ | omega | (simp only [sizes]; omega)) _) | (with_reducible refine Below.setCell ?_ (by first | exact Nat.le_refl _ | omega | (simp only [sizes]; omega)) _) | (refine Below.trans ?_ (Below.mono (by with_reducible assumption) (by first | exact Nat.le_refl _ | omega | (simp only [sizes]; omega))))))
            clear hs x0 x1 x2 x3 x4 xf xz y0 y1 y2 y3 y4 yf yz z0 z1 z2 z3 z4 zf zz D1 D2 D3 hbw
            generalize hW : (w6.alloc (.cells #[.int .i64 r1, .int .i64 l1, .int .i64 s1, .int .i64 p1, .int .i64 0] 23)).alloc (.cells #[.int .i64 r1, .int .i64 l1, .int .i64 s1, .int .i64 p1, .int .i64 1000] 23) = wz at E1 E2 F1 hbw' ⊢
            clear hW
            obtain ⟨n2, hn2⟩ : ∃ n, w6.heap.size = n := ⟨_, rfl⟩
            rw [hn2] at E1 E2 ⊢
            clear hn2
            have x0 := (E1.cell 0).trans rfl
            have x1 := (E1.cell 1).trans rfl
            have x2 := (E1.cell 2).trans rfl
            have x3 := (E1.cell 3).trans rfl
            have x4 := (E1.cell 4).trans rfl
            have xf := E1.free
            have xz := E1.lt
            have y0 := (E2.cell 0).trans rfl
            have y1 := (E2.cell 1).trans rfl
            have y2 := (E2.cell 2).trans rfl
            have y3 := (E2.cell 3).trans rfl
            have y4 := (E2.cell 4).trans rfl
            have yf := E2.free
            have yz := E2.lt
            have z0 := (F1.cell 0).trans rfl
            have z1 := (F1.cell 1).trans rfl
            have z2 := (F1.cell 2).trans rfl
            have z3 := (F1.cell 3).trans rfl
            have z4 := (F1.cell 4).trans rfl
            have zf := F1.free
            have zz := F1.lt
            refine wp_region_quiet_below (by kernel_rfl) (by kernel_rfl) ?_
            repeat (go_big_quiet_step (first | fail | (first | (go_at_call 23; with_reducible exact quiet_ret (poor_is HL.out _)) | (go_at_call 12; exact quiet_ret (awake_any _)))))
            refine wpQuiet_nil ?_
            intro w9 hw9
            have hb9 := below_of_regrown hw9
            clear hw9
            obtain ⟨hc9, hf9⟩ := bcell hb9
            have hz9 := bsize hb9
            try simp only [sizes1] at hz9
            try simp only [sizes] at hc9 hf9
            go_wp2_with fail
            go_ret
            have hs := hbw'.size
            exact Ret.mk (by repeat (first | with_reducible exact Below.refl _ _ | with_reducible refine Below.drew ?_ | (with_reducible refine Below.alloc ?_ (by first | exact Nat.le_refl _ | omega | (simp only [sizes]; omega)) _) | (with_reducible refine Below.setCell ?_ (by first | exact Nat.le_refl _ | omega | (simp only [sizes]; omega)) _) | (refine Below.trans ?_ (Below.mono (by with_reducible assumption) (by first | exact Nat.le_refl _ | omega | (simp only [sizes]; omega))))))
          · have hdu : decide (0 < u) = false := decide_eq_false hu0
            have HL' := hl.out
            rw [hd1, hdu] at HL'
            have HL := Lib.hid HL'; clear HL'
            obtain ⟨E1, E2⟩ := two_blocks w6 (.int .i64 r1) (.int .i64 l1) (.int .i64 s1) (.int .i64 p1) (.int .i64 0) (.int .i64 r1) (.int .i64 l1) (.int .i64 s1) (.int .i64 p1) (.int .i64 1000) 23
            have F1 := (D1.alloc (.cells #[.int .i64 r1, .int .i64 l1, .int .i64 s1, .int .i64 p1, .int .i64 0] 23)).alloc (.cells #[.int .i64 r1, .int .i64 l1, .int .i64 s1, .int .i64 p1, .int .i64 1000] 23)
            have hs := hbw.size
            have hbw' : Below w.heap.size w ((w6.alloc (.cells #[.int .i64 r1, .int .i64 l1, .int .i64 s1, .int .i64 p1, .int .i64 0] 23)).alloc (.cells #[.int .i64 r1, .int .i64 l1, .int .i64 s1, .int .i64 p1, .int .i64 1000] 23)) := (by repeat (first | with_reducible exact Below.refl _ _ | with_reducible refine Below.drew ?_ | (with_reducible refine Below.alloc ?_ (by first | exact Nat.le_refl _ | omega | (simp only [sizes]; omega)) _) | (with_reducible refine Below.setCell ?_ (by first | exact Nat.le_refl _ | omega | (simp only [sizes]; omega)) _) | (refine Below.trans ?_ (Below.mono (by with_reducible assumption) (by first | exact Nat.le_refl _ | omega | (simp only [sizes]; omega))))))
            clear hs x0 x1 x2 x3 x4 xf xz y0 y1 y2 y3 y4 yf yz z0 z1 z2 z3 z4 zf zz D1 D2 D3 hbw
            generalize hW : (w6.alloc (.cells #[.int .i64 r1, .int .i64 l1, .int .i64 s1, .int .i64 p1, .int .i64 0] 23)).alloc (.cells #[.int .i64 r1, .int .i64 l1, .int .i64 s1, .int .i64 p1, .int .i64 1000] 23) = wz at E1 E2 F1 hbw' ⊢
            clear hW
            obtain ⟨n2, hn2⟩ : ∃ n, w6.heap.size = n := ⟨_, rfl⟩
            rw [hn2] at E1 E2 ⊢
            clear hn2
            have x0 := (E1.cell 0).trans rfl
            have x1 := (E1.cell 1).trans rfl
            have x2 := (E1.cell 2).trans rfl
            have x3 := (E1.cell 3).trans rfl
            have x4 := (E1.cell 4).trans rfl
            have xf := E1.free
            have xz := E1.lt
            have y0 := (E2.cell 0).trans rfl
            have y1 := (E2.cell 1).trans rfl
            have y2 := (E2.cell 2).trans rfl
            have y3 := (E2.cell 3).trans rfl
            have y4 := (E2.cell 4).trans rfl
            have yf := E2.free
            have yz := E2.lt
            have z0 := (F1.cell 0).trans rfl
            have z1 := (F1.cell 1).trans rfl
            have z2 := (F1.cell 2).trans rfl
            have z3 := (F1.cell 3).trans rfl
            have z4 := (F1.cell 4).trans rfl
            have zf := F1.free
            have zz := F1.lt
            refine wp_region_quiet_below (by kernel_rfl) (by kernel_rfl) ?_
            repeat (go_big_quiet_step (first | fail | (first | (go_at_call 23; with_reducible exact quiet_ret (poor_is HL.out _)) | (go_at_call 12; exact quiet_ret (awake_any _)))))
            refine wpQuiet_nil ?_
            intro w9 hw9
            have hb9 := below_of_regrown hw9
            clear hw9
            obtain ⟨hc9, hf9⟩ := bcell hb9
            have hz9 := bsize hb9
            try simp only [sizes1] at hz9
            try simp only [sizes] at hc9 hf9
            go_wp2_with fail
            go_ret
            have hs := hbw'.size
            exact Ret.mk (by repeat (first | with_reducible exact Below.refl _ _ | with_reducible refine Below.drew ?_ | (with_reducible refine Below.alloc ?_ (by first | exact Nat.le_refl _ | omega | (simp only [sizes]; omega)) _) | (with_reducible refine Below.setCell ?_ (by first | exact Nat.le_refl _ | omega | (simp only [sizes]; omega)) _) | (refine Below.trans ?_ (Below.mono (by with_reducible assumption) (by first | exact Nat.le_refl _ | omega | (simp only [sizes]; omega))))))
      · have hd2 : decide (0 < p2) = false := decide_eq_false hp2
        go_wp2_with fail
        by_cases hu0 : 0 < u
        · have hdu : decide (0 < u) = true := decide_eq_true hu0
          have HL' := hl.out
          rw [hd1, hdu] at HL'
          have HL := Lib.hid HL'; clear HL'
          obtain ⟨E1, E2⟩ := two_blocks w6 (.int .i64 r1) (.int .i64 l1) (.int .i64 s1) (.int .i64 p1) (.int .i64 0) (.int .i64 r1) (.int .i64 l1) (.int .i64 s1) (.int .i64 p1) (.int .i64 1000) 23
          have F1 := (D1.alloc (.cells #[.int .i64 r1, .int .i64 l1, .int .i64 s1, .int .i64 p1, .int .i64 0] 23)).alloc (.cells #[.int .i64 r1, .int .i64 l1, .int .i64 s1, .int .i64 p1, .int .i64 1000] 23)
          have hs := hbw.size
          have hbw' : Below w.heap.size w ((w6.alloc (.cells #[.int .i64 r1, .int .i64 l1, .int .i64 s1, .int .i64 p1, .int .i64 0] 23)).alloc (.cells #[.int .i64 r1, .int .i64 l1, .int .i64 s1, .int .i64 p1, .int .i64 1000] 23)) := (by repeat (first | with_reducible exact Below.refl _ _ | with_reducible refine Below.drew ?_ | (with_reducible refine Below.alloc ?_ (by first | exact Nat.le_refl _ | omega | (simp only [sizes]; omega)) _) | (with_reducible refine Below.setCell ?_ (by first | exact Nat.le_refl _ | omega | (simp only [sizes]; omega)) _) | (refine Below.trans ?_ (Below.mono (by with_reducible assumption) (by first | exact Nat.le_refl _ | omega | (simp only [sizes]; omega))))))
          clear hs x0 x1 x2 x3 x4 xf xz y0 y1 y2 y3 y4 yf yz z0 z1 z2 z3 z4 zf zz D1 D2 D3 hbw
          generalize hW : (w6.alloc (.cells #[.int .i64 r1, .int .i64 l1, .int .i64 s1, .int .i64 p1, .int .i64 0] 23)).alloc (.cells #[.int .i64 r1, .int .i64 l1, .int .i64 s1, .int .i64 p1, .int .i64 1000] 23) = wz at E1 E2 F1 hbw' ⊢
          clear hW
          obtain ⟨n2, hn2⟩ : ∃ n, w6.heap.size = n := ⟨_, rfl⟩
          rw [hn2] at E1 E2 ⊢
          clear hn2
          have x0 := (E1.cell 0).trans rfl
          have x1 := (E1.cell 1).trans rfl
          have x2 := (E1.cell 2).trans rfl
          have x3 := (E1.cell 3).trans rfl
          have x4 := (E1.cell 4).trans rfl
          have xf := E1.free
          have xz := E1.lt
          have y0 := (E2.cell 0).trans rfl
          have y1 := (E2.cell 1).trans rfl
          have y2 := (E2.cell 2).trans rfl
          have y3 := (E2.cell 3).trans rfl
          have y4 := (E2.cell 4).trans rfl
          have yf := E2.free
          have yz := E2.lt
          have z0 := (F1.cell 0).trans rfl
          have z1 := (F1.cell 1).trans rfl
          have z2 := (F1.cell 2).trans rfl
          have z3 := (F1.cell 3).trans rfl
          have z4 := (F1.cell 4).trans rfl
          have zf := F1.free
          have zz := F1.lt
          refine wp_region_quiet_below (by kernel_rfl) (by kernel_rfl) ?_
          repeat (go_big_quiet_step (first | fail | (first | (go_at_call 23; with_reducible exact quiet_ret (poor_is HL.out _)) | (go_at_call 12; exact quiet_ret (awake_any _)))))
          refine wpQuiet_nil ?_
          intro w9 hw9
          have hb9 := below_of_regrown hw9
          clear hw9
          obtain ⟨hc9, hf9⟩ := bcell hb9
          have hz9 := bsize hb9
          try simp only [sizes1] at hz9
          try simp only [sizes] at hc9 hf9
          go_wp2_with fail
          go_ret
          have hs := hbw'.size
          exact Ret.mk (by repeat (first | with_reducible exact Below.refl _ _ | with_reducible refine Below.drew ?_ | (with_reducible refine Below.alloc ?_ (by first | exact Nat.le_refl _ | omega | (simp only [sizes]; omega)) _) | (with_reducible refine Below.setCell ?_ (by first | exact Nat.le_refl _ | omega | (simp only [sizes]; omega)) _) | (refine Below.trans ?_ (Below.mono (by with_reducible assumption) (by first | exact Nat.le_refl _ | omega | (simp only [sizes]; omega))))))
        · have hdu : decide (0 < u) = false := decide_eq_false hu0
          have HL' := hl.out
          rw [hd1, hdu] at HL'
          have HL := Lib.hid HL'; clear HL'
          obtain ⟨E1, E2⟩ := two_blocks w6 (.int .i64 r1) (.int .i64 l1) (.int .i64 s1) (.int .i64 p1) (.int .i64 0) (.int .i64 r1) (.int .i64 l1) (.int .i64 s1) (.int .i64 p1) (.int .i64 1000) 23
          have F1 := (D1.alloc (.cells #[.int .i64 r1, .int .i64 l1, .int .i64 s1, .int .i64 p1, .int .i64 0] 23)).alloc (.cells #[.int .i64 r1, .int .i64 l1, .int .i64 s1, .int .i64 p1, .int .i64 1000] 23)
          have hs := hbw.size
          have hbw' : Below w.heap.size w ((w6.alloc (.cells #[.int .i64 r1, .int .i64 l1, .int .i64 s1, .int .i64 p1, .int .i64 0] 23)).alloc (.cells #[.int .i64 r1, .int .i64 l1, .int .i64 s1, .int .i64 p1, .int .i64 1000] 23)) := (by repeat (first | with_reducible exact Below.refl _ _ | with_reducible refine Below.drew ?_ | (with_reducible refine Below.alloc ?_ (by first | exact Nat.le_refl _ | omega | (simp only [sizes]; omega)) _) | (with_reducible refine Below.setCell ?_ (by first | exact Nat.le_refl _ | omega | (simp only [sizes]; omega)) _) | (refine Below.trans ?_ (Below.mono (by with_reducible assumption) (by first | exact Nat.le_refl _ | omega | (simp only [sizes]; omega))))))
          clear hs x0 x1 x2 x3 x4 xf xz y0 y1 y2 y3 y4 yf yz z0 z1 z2 z3 z4 zf zz D1 D2 D3 hbw
          generalize hW : (w6.alloc (.cells #[.int .i64 r1, .int .i64 l1, .int .i64 s1, .int .i64 p1, .int .i64 0] 23)).alloc (.cells #[.int .i64 r1, .int .i64 l1, .int .i64 s1, .int .i64 p1, .int .i64 1000] 23) = wz at E1 E2 F1 hbw' ⊢
          clear hW
          obtain ⟨n2, hn2⟩ : ∃ n, w6.heap.size = n := ⟨_, rfl⟩
          rw [hn2] at E1 E2 ⊢
          clear hn2
          have x0 := (E1.cell 0).trans rfl
          have x1 := (E1.cell 1).trans rfl
          have x2 := (E1.cell 2).trans rfl
          have x3 := (E1.cell 3).trans rfl
          have x4 := (E1.cell 4).trans rfl
          have xf := E1.free
          have xz := E1.lt
          have y0 := (E2.cell 0).trans rfl
          have y1 := (E2.cell 1).trans rfl
          have y2 := (E2.cell 2).trans rfl
          have y3 := (E2.cell 3).trans rfl
          have y4 := (E2.cell 4).trans rfl
          have yf := E2.free
          have yz := E2.lt
          have z0 := (F1.cell 0).trans rfl
          have z1 := (F1.cell 1).trans rfl
          have z2 := (F1.cell 2).trans rfl
          have z3 := (F1.cell 3).trans rfl
          have z4 := (F1.cell 4).trans rfl
          have zf := F1.free
          have zz := F1.lt
          refine wp_region_quiet_below (by kernel_rfl) (by kernel_rfl) ?_
          repeat (go_big_quiet_step (first | fail | (first | (go_at_call 23; with_reducible exact quiet_ret (poor_is HL.out _)) | (go_at_call 12; exact quiet_ret (awake_any _)))))
          refine wpQuiet_nil ?_
          intro w9 hw9
          have hb9 := below_of_regrown hw9
          clear hw9
          obtain ⟨hc9, hf9⟩ := bcell hb9
          have hz9 := bsize hb9
          try simp only [sizes1] at hz9
          try simp only [sizes] at hc9 hf9
          go_wp2_with fail
          go_ret
          have hs := hbw'.size
          exact Ret.mk (by repeat (first | with_reducible exact Below.refl _ _ | with_reducible refine Below.drew ?_ | (with_reducible refine Below.alloc ?_ (by first | exact Nat.le_refl _ | omega | (simp only [sizes]; omega)) _) | (with_reducible refine Below.setCell ?_ (by first | exact Nat.le_refl _ | omega | (simp only [sizes]; omega)) _) | (refine Below.trans ?_ (Below.mono (by with_reducible assumption) (by first | exact Nat.le_refl _ | omega | (simp only [sizes]; omega))))))
    · have hd1 : decide (0 < p1) = false := decide_eq_false hp1
      go_wp2_with fail
      have HL' := hl.out
      rw [hd1, Bool.false_and] at HL'
      have HL := Lib.hid HL'; clear HL'
      obtain ⟨E1, E2⟩ := two_blocks w6 (.int .i64 r1) (.int .i64 l1) (.int .i64 s1) (.int .i64 p1) (.int .i64 0) (.int .i64 r1) (.int .i64 l1) (.int .i64 s1) (.int .i64 p1) (.int .i64 1000) 23
      have F1 := (D1.alloc (.cells #[.int .i64 r1, .int .i64 l1, .int .i64 s1, .int .i64 p1, .int .i64 0] 23)).alloc (.cells #[.int .i64 r1, .int .i64 l1, .int .i64 s1, .int .i64 p1, .int .i64 1000] 23)
      have hs := hbw.size
      have hbw' : Below w.heap.size w ((w6.alloc (.cells #[.int .i64 r1, .int .i64 l1, .int .i64 s1, .int .i64 p1, .int .i64 0] 23)).alloc (.cells #[.int .i64 r1, .int .i64 l1, .int .i64 s1, .int .i64 p1, .int .i64 1000] 23)) := (by repeat (first | with_reducible exact Below.refl _ _ | with_reducible refine Below.drew ?_ | (with_reducible refine Below.alloc ?_ (by first | exact Nat.le_refl _ | omega | (simp only [sizes]; omega)) _) | (with_reducible refine Below.setCell ?_ (by first | exact Nat.le_refl _ | omega | (simp only [sizes]; omega)) _) | (refine Below.trans ?_ (Below.mono (by with_reducible assumption) (by first | exact Nat.le_refl _ | omega | (simp only [sizes]; omega))))))
      clear hs x0 x1 x2 x3 x4 xf xz y0 y1 y2 y3 y4 yf yz z0 z1 z2 z3 z4 zf zz D1 D2 D3 hbw
      generalize hW : (w6.alloc (.cells #[.int .i64 r1, .int .i64 l1, .int .i64 s1, .int .i64 p1, .int .i64 0] 23)).alloc (.cells #[.int .i64 r1, .int .i64 l1, .int .i64 s1, .int .i64 p1, .int .i64 1000] 23) = wz at E1 E2 F1 hbw' ⊢
      clear hW
      obtain ⟨n2, hn2⟩ : ∃ n, w6.heap.size = n := ⟨_, rfl⟩
      rw [hn2] at E1 E2 ⊢
      clear hn2
      have x0 := (E1.cell 0).trans rfl
      have x1 := (E1.cell 1).trans rfl
      have x2 := (E1.cell 2).trans rfl
      have x3 := (E1.cell 3).trans rfl
      have x4 := (E1.cell 4).trans rfl
      have xf := E1.free
      have xz := E1.lt
      have y0 := (E2.cell 0).trans rfl
      have y1 := (E2.cell 1).trans rfl
      have y2 := (E2.cell 2).trans rfl
      have y3 := (E2.cell 3).trans rfl
      have y4 := (E2.cell 4).trans rfl
      have yf := E2.free
      have yz := E2.lt
      have z0 := (F1.cell 0).trans rfl
      have z1 := (F1.cell 1).trans rfl
      have z2 := (F1.cell 2).trans rfl
      have z3 := (F1.cell 3).trans rfl
      have z4 := (F1.cell 4).trans rfl
      have zf := F1.free
      have zz := F1.lt
      refine wp_region_quiet_below (by kernel_rfl) (by kernel_rfl) ?_
      repeat (go_big_quiet_step (first | fail | (first | (go_at_call 23; with_reducible exact quiet_ret (poor_is HL.out _)) | (go_at_call 12; exact quiet_ret (awake_any _)))))
      refine wpQuiet_nil ?_
      intro w9 hw9
      have hb9 := below_of_regrown hw9
      clear hw9
      obtain ⟨hc9, hf9⟩ := bcell hb9
      have hz9 := bsize hb9
      try simp only [sizes1] at hz9
      try simp only [sizes] at hc9 hf9
      go_wp2_with fail
      go_ret
      have hs := hbw'.size
      exact Ret.mk (by repeat (first | with_reducible exact Below.refl _ _ | with_reducible refine Below.drew ?_ | (with_reducible refine Below.alloc ?_ (by first | exact Nat.le_refl _ | omega | (simp only [sizes]; omega)) _) | (with_reducible refine Below.setCell ?_ (by first | exact Nat.le_refl _ | omega | (simp only [sizes]; omega)) _) | (refine Below.trans ?_ (Below.mono (by with_reducible assumption) (by first | exact Nat.le_refl _ | omega | (simp only [sizes]; omega))))))
  · have HQ2 := Lib.hid (poor_asymm hq1)
    have htr := fun h2 => poor_trans (z := ⟨r3, l3, s3, p3, a3⟩) hq1 h2
    have HQ1 := Lib.hid hq1; clear hq1
    have HTR := Lib.hid htr; clear htr
    go_wp2_with fail
    refine (poor_is HQ0.out _).mono ?_
    rintro e w5 ⟨rfl, hb5⟩
    clear x0 x1 x2 x3 x4 xf xz y0 y1 y2 y3 y4 yf yz z0 z1 z2 z3 z4 zf zz
    replace D1 := D1.below hb5
    replace D2 := D2.below hb5
    replace D3 := D3.below hb5
    have hs := hbw.size
    have hbw' : Below w.heap.size w w5 := (by repeat (first | with_reducible exact Below.refl _ _ | with_reducible refine Below.drew ?_ | (with_reducible refine Below.alloc ?_ (by first | exact Nat.le_refl _ | omega | (simp only [sizes]; omega)) _) | (with_reducible refine Below.setCell ?_ (by first | exact Nat.le_refl _ | omega | (simp only [sizes]; omega)) _) | (refine Below.trans ?_ (Below.mono (by with_reducible assumption) (by first | exact Nat.le_refl _ | omega | (simp only [sizes]; omega))))))
    clear hs hbw hb5
    have hbw := hbw'
    clear hbw'
    have x0 := (D1.cell 0).trans rfl
    have x1 := (D1.cell 1).trans rfl
    have x2 := (D1.cell 2).trans rfl
    have x3 := (D1.cell 3).trans rfl
    have x4 := (D1.cell 4).trans rfl
    have xf := D1.free
    have xz := D1.lt
    have y0 := (D2.cell 0).trans rfl
    have y1 := (D2.cell 1).trans rfl
    have y2 := (D2.cell 2).trans rfl
    have y3 := (D2.cell 3).trans rfl
    have y4 := (D2.cell 4).trans rfl
    have yf := D2.free
    have yz := D2.lt
    have z0 := (D3.cell 0).trans rfl
    have z1 := (D3.cell 1).trans rfl
    have z2 := (D3.cell 2).trans rfl
    have z3 := (D3.cell 3).trans rfl
    have z4 := (D3.cell 4).trans rfl
    have zf := D3.free
    have zz := D3.lt
    go_wp2_with fail
    refine (poor_is HQ1.out _).mono ?_
    rintro e w6 ⟨rfl, hb6⟩
    clear x0 x1 x2 x3 x4 xf xz y0 y1 y2 y3 y4 yf yz z0 z1 z2 z3 z4 zf zz
    replace D1 := D1.below hb6
    replace D2 := D2.below hb6
    replace D3 := D3.below hb6
    have hs := hbw.size
    have hbw' : Below w.heap.size w w6 := (by repeat (first | with_reducible exact Below.refl _ _ | with_reducible refine Below.drew ?_ | (with_reducible refine Below.alloc ?_ (by first | exact Nat.le_refl _ | omega | (simp only [sizes]; omega)) _) | (with_reducible refine Below.setCell ?_ (by first | exact Nat.le_refl _ | omega | (simp only [sizes]; omega)) _) | (refine Below.trans ?_ (Below.mono (by with_reducible assumption) (by first | exact Nat.le_refl _ | omega | (simp only [sizes]; omega))))))
    clear hs hbw hb6
    have hbw := hbw'
    clear hbw'
    have x0 := (D1.cell 0).trans rfl
    have x1 := (D1.cell 1).trans rfl
    have x2 := (D1.cell 2).trans rfl
    have x3 := (D1.cell 3).trans rfl
    have x4 := (D1.cell 4).trans rfl
    have xf := D1.free
    have xz := D1.lt
    have y0 := (D2.cell 0).trans rfl
    have y1 := (D2.cell 1).trans rfl
    have y2 := (D2.cell 2).trans rfl
    have y3 := (D2.cell 3).trans rfl
    have y4 := (D2.cell 4).trans rfl
    have yf := D2.free
    have yz := D2.lt
    have z0 := (D3.cell 0).trans rfl
    have z1 := (D3.cell 1).trans rfl
    have z2 := (D3.cell 2).trans rfl
    have z3 := (D3.cell 3).trans rfl
    have z4 := (D3.cell 4).trans rfl
    have zf := D3.free
    have zz := D3.lt
    go_wp2_with fail
    refine (poor_is HQ2.out _).mono ?_
    rintro e w7 ⟨rfl, hb7⟩
    clear x0 x1 x2 x3 x4 xf xz y0 y1 y2 y3 y4 yf yz z0 z1 z2 z3 z4 zf zz
    replace D1 := D1.below hb7
    replace D2 := D2.below hb7
    replace D3 := D3.below hb7
    have hs := hbw.size
    have hbw' : Below w.heap.size w w7 := (by repeat (first | with_reducible exact Below.refl _ _ | with_reducible refine Below.drew ?_ | (with_reducible refine Below.alloc ?_ (by first | exact Nat.le_refl _ | omega | (simp only [sizes]; omega)) _) | (with_reducible refine Below.setCell ?_ (by first | exact Nat.le_refl _ | omega | (simp only [sizes]; omega)) _) | (refine Below.trans ?_ (Below.mono (by with_reducible assumption) (by first | exact Nat.le_refl _ | omega | (simp only [sizes]; omega))))))
    clear hs hbw hb7
    have hbw := hbw'
    clear hbw'
    have x0 := (D1.cell 0).trans rfl
    have x1 := (D1.cell 1).trans rfl
    have x2 := (D1.cell 2).trans rfl
    have x3 := (D1.cell 3).trans rfl
    have x4 := (D1.cell 4).trans rfl
    have xf := D1.free
    have xz := D1.lt
    have y0 := (D2.cell 0).trans rfl
    have y1 := (D2.cell 1).trans rfl
    have y2 := (D2.cell 2).trans rfl
    have y3 := (D2.cell 3).trans rfl
    have y4 := (D2.cell 4).trans rfl
    have yf := D2.free
    have yz := D2.lt
    have z0 := (D3.cell 0).trans rfl
    have z1 := (D3.cell 1).trans rfl
    have z2 := (D3.cell 2).trans rfl
    have z3 := (D3.cell 3).trans rfl
    have z4 := (D3.cell 4).trans rfl
    have zf := D3.free
    have zz := D3.lt
    by_cases hp1 : 0 < p1
    · have hd1 : decide (0 < p1) = true := decide_eq_true hp1
      by_cases hp2 : 0 < p2
      · have hd2 : decide (0 < p2) = true := decide_eq_true hp2
        by_cases hp3 : 0 < p3
        · have hd3 : decide (0 < p3) = true := decide_eq_true hp3
          cases hq3 : poorB ⟨r2, l2, s2, p2, a2⟩ ⟨r3, l3, s3, p3, a3⟩ u
          · have HQ3 := Lib.hid hq3; clear hq3
            go_wp2_with fail
            refine (poor_is HQ1.out _).mono ?_
            rintro e w8 ⟨rfl, hb8⟩
            clear x0 x1 x2 x3 x4 xf xz y0 y1 y2 y3 y4 yf yz z0 z1 z2 z3 z4 zf zz
            replace D1 := D1.below hb8
            replace D2 := D2.below hb8
            replace D3 := D3.below hb8
            have hs := hbw.size
            have hbw' : Below w.heap.size w w8 := (by repeat (first | with_reducible exact Below.refl _ _ | with_reducible refine Below.drew ?_ | (with_reducible refine Below.alloc ?_ (by first | exact Nat.le_refl _ | omega | (simp only [sizes]; omega)) _) | (with_reducible refine Below.setCell ?_ (by first | exact Nat.le_refl _ | omega | (simp only [sizes]; omega)) _) | (refine Below.trans ?_ (Below.mono (by with_reducible assumption) (by first | exact Nat.le_refl _ | omega | (simp only [sizes]; omega))))))
            clear hs hbw hb8
            have hbw := hbw'
            clear hbw'
            have x0 := (D1.cell 0).trans rfl
            have x1 := (D1.cell 1).trans rfl
            have x2 := (D1.cell 2).trans rfl
            have x3 := (D1.cell 3).trans rfl
            have x4 := (D1.cell 4).trans rfl
            have xf := D1.free
            have xz := D1.lt
            have y0 := (D2.cell 0).trans rfl
            have y1 := (D2.cell 1).trans rfl
            have y2 := (D2.cell 2).trans rfl
            have y3 := (D2.cell 3).trans rfl
            have y4 := (D2.cell 4).trans rfl
            have yf := D2.free
            have yz := D2.lt
            have z0 := (D3.cell 0).trans rfl
            have z1 := (D3.cell 1).trans rfl
            have z2 := (D3.cell 2).trans rfl
            have z3 := (D3.cell 3).trans rfl
            have z4 := (D3.cell 4).trans rfl
            have zf := D3.free
            have zz := D3.lt
            go_wp2_with fail
            refine (poor_is HQ3.out _).mono ?_
            rintro e w10 ⟨rfl, hb10⟩
            clear x0 x1 x2 x3 x4 xf xz y0 y1 y2 y3 y4 yf yz z0 z1 z2 z3 z4 zf zz
            replace D1 := D1.below hb10
            replace D2 := D2.below hb10
            replace D3 := D3.below hb10
            have hs := hbw.size
            have hbw' : Below w.heap.size w w10 := (by repeat (first | with_reducible exact Below.refl _ _ | with_reducible refine Below.drew ?_ | (with_reducible refine Below.alloc ?_ (by first | exact Nat.le_refl _ | omega | (simp only [sizes]; omega)) _) | (with_reducible refine Below.setCell ?_ (by first | exact Nat.le_refl _ | omega | (simp only [sizes]; omega)) _) | (refine Below.trans ?_ (Below.mono (by with_reducible assumption) (by first | exact Nat.le_refl _ | omega | (simp only [sizes]; omega))))))
            clear hs hbw hb10
            have hbw := hbw'
            clear hbw'
            have x0 := (D1.cell 0).trans rfl
            have x1 := (D1.cell 1).trans rfl
            have x2 := (D1.cell 2).trans rfl
            have x3 := (D1.cell 3).trans rfl
            have x4 := (D1.cell 4).trans rfl
            have xf := D1.free
            have xz := D1.lt
            have y0 := (D2.cell 0).trans rfl
            have y1 := (D2.cell 1).trans rfl
            have y2 := (D2.cell 2).trans rfl
            have y3 := (D2.cell 3).trans rfl
            have y4 := (D2.cell 4).trans rfl
            have yf := D2.free
            have yz := D2.lt
            have z0 := (D3.cell 0).trans rfl
            have z1 := (D3.cell 1).trans rfl
            have z2 := (D3.cell 2).trans rfl
            have z3 := (D3.cell 3).trans rfl
            have z4 := (D3.cell 4).trans rfl
            have zf := D3.free
            have zz := D3.lt
            go_wp2_with fail
            by_cases hu0 : 0 < u
            · have hdu : decide (0 < u) = true := decide_eq_true hu0
              have HL' := hl.out
              rw [hd1, hdu] at HL'
              have HL := Lib.hid HL'; clear HL'
              obtain ⟨E1, E2⟩ := two_blocks w10 (.int .i64 r1) (.int .i64 l1) (.int .i64 s1) (.int .i64 p1) (.int .i64 0) (.int .i64 r1) (.int .i64 l1) (.int .i64 s1) (.int .i64 p1) (.int .i64 1000) 23
              have F1 := (D1.alloc (.cells #[.int .i64 r1, .int .i64 l1, .int .i64 s1, .int .i64 p1, .int .i64 0] 23)).alloc (.cells #[.int .i64 r1, .int .i64 l1, .int .i64 s1, .int .i64 p1, .int .i64 1000] 23)
              have hs := hbw.size
              have hbw' : Below w.heap.size w ((w10.alloc (.cells #[.int .i64 r1, .int .i64 l1, .int .i64 s1, .int .i64 p1, .int .i64 0] 23)).alloc (.cells #[.int .i64 r1, .int .i64 l1, .int .i64 s1, .int .i64 p1, .int .i64 1000] 23)) := (by repeat (first | with_reducible exact Below.refl _ _ | with_reducible refine Below.drew ?_ | (with_reducible refine Below.alloc ?_ (by first | exact Nat.le_refl _ | omega | (simp only [sizes]; omega)) _) | (with_reducible refine Below.setCell ?_ (by first | exact Nat.le_refl _ | omega | (simp only [sizes]; omega)) _) | (refine Below.trans ?_ (Below.mono (by with_reducible assumption) (by first | exact Nat.le_refl _ | omega | (simp only [sizes]; omega))))))
              clear hs x0 x1 x2 x3 x4 xf xz y0 y1 y2 y3 y4 yf yz z0 z1 z2 z3 z4 zf zz D1 D2 D3 hbw
              generalize hW : (w10.alloc (.cells #[.int .i64 r1, .int .i64 l1, .int .i64 s1, .int .i64 p1, .int .i64 0] 23)).alloc (.cells #[.int .i64 r1, .int .i64 l1, .int .i64 s1, .int .i64 p1, .int .i64 1000] 23) = wz at E1 E2 F1 hbw' ⊢
              clear hW
              obtain ⟨n2, hn2⟩ : ∃ n, w10.heap.size = n := ⟨_, rfl⟩
              rw [hn2] at E1 E2 ⊢
              clear hn2
              have x0 := (E1.cell 0).trans rfl
              have x1 := (E1.cell 1).trans rfl
              have x2 := (E1.cell 2).trans rfl
              have x3 := (E1.cell 3).trans rfl
              have x4 := (E1.cell 4).trans rfl
              have xf := E1.free
              have xz := E1.lt
              have y0 := (E2.cell 0).trans rfl
              have y1 := (E2.cell 1).trans rfl
              have y2 := (E2.cell 2).trans rfl
              have y3 := (E2.cell 3).trans rfl
              have y4 := (E2.cell 4).trans rfl
              have yf := E2.free
              have yz := E2.lt
              have z0 := (F1.cell 0).trans rfl
              have z1 := (F1.cell 1).trans rfl
              have z2 := (F1.cell 2).trans rfl
              have z3 := (F1.cell 3).trans rfl
              have z4 := (F1.cell 4).trans rfl
              have zf := F1.free
              have zz := F1.lt
              refine wp_region_quiet_below (by kernel_rfl) (by kernel_rfl) ?_
              repeat (go_big_quiet_step (first | fail | (first | (go_at_call 23; with_reducible exact quiet_ret (poor_is HL.out _)) | (go_at_call 12; exact quiet_ret (awake_any _)))))
              refine wpQuiet_nil ?_
              intro w9 hw9
              have hb9 := below_of_regrown hw9
              clear hw9
              obtain ⟨hc9, hf9⟩ := bcell hb9
              have hz9 := bsize hb9
              try simp only [sizes1] at hz9
              try simp only [sizes] at hc9 hf9
              go_wp2_with fail
              go_ret
              have hs := hbw'.size
              exact Ret.mk (by repeat (first | with_reducible exact Below.refl _ _ | with_reducible refine Below.drew ?_ | (with_reducible refine Below.alloc ?_ (by first | exact Nat.le_refl _ | omega | (simp only [sizes]; omega)) _) | (with_reducible refine Below.setCell ?_ (by first | exact Nat.le_refl _ | omega | (simp only [sizes]; omega)) _) | (refine Below.trans ?_ (Below.mono (by with_reducible assumption) (by first | exact Nat.le_refl _ | omega | (simp only [sizes]; omega))))))
            · have hdu : decide (0 < u) = false := decide_eq_false hu0
              have HL' := hl.out
              rw [hd1, hdu] at HL'
              have HL := Lib.hid HL'; clear HL'
              obtain ⟨E1, E2⟩ := two_blocks w10 (.int .i64 r1) (.int .i64 l1) (.int .i64 s1) (.int .i64 p1) (.int .i64 0) (.int .i64 r1) (.int .i64 l1) (.int .i64 s1) (.int .i64 p1) (.int .i64 1000) 23
              have F1 := (D1.alloc (.cells #[.int .i64 r1, .int .i64 l1, .int .i64 s1, .int .i64 p1, .int .i64 0] 23)).alloc (.cells #[.int .i64 r1, .int .i64 l1, .int .i64 s1, .int .i64 p1, .int .i64 1000] 23)
              have hs := hbw.size
              have hbw' : Below w.heap.size w ((w10.alloc (.cells #[.int .i64 r1, .int .i64 l1, .int .i64 s1, .int .i64 p1, .int .i64 0] 23)).alloc (.cells #[.int .i64 r1, .int .i64 l1, .int .i64 s1, .int .i64 p1, .int .i64 1000] 23)) := (by repeat (first | with_reducible exact Below.refl _ _ | with_reducible refine Below.drew ?_ | (with_reducible refine Below.alloc ?_ (by first | exact Nat.le_refl _ | omega | (simp only [sizes]; omega)) _) | (with_reducible refine Below.setCell ?_ (by first | exact Nat.le_refl _ | omega | (simp only [sizes]; omega)) _) | (refine Below.trans ?_ (Below.mono (by with_reducible assumption) (by first | exact Nat.le_refl _ | omega | (simp only [sizes]; omega))))))
              clear hs x0 x1 x2 x3 x4 xf xz y0 y1 y2 y3 y4 yf yz z0 z1 z2 z3 z4 zf zz D1 D2 D3 hbw
              generalize hW : (w10.alloc (.cells #[.int .i64 r1, .int .i64 l1, .int .i64 s1, .int .i64 p1, .int .i64 0] 23)).alloc (.cells #[.int .i64 r1, .int .i64 l1, .int .i64 s1, .int .i64 p1, .int .i64 1000] 23) = wz at E1 E2 F1 hbw' ⊢
              clear hW
              obtain ⟨n2, hn2⟩ : ∃ n, w10.heap.size = n := ⟨_, rfl⟩
              rw [hn2] at E1 E2 ⊢
              clear hn2
              have x0 := (E1.cell 0).trans rfl
              have x1 := (E1.cell 1).trans rfl
              have x2 := (E1.cell 2).trans rfl
              have x3 := (E1.cell 3).trans rfl
              have x4 := (E1.cell 4).trans rfl
              have xf := E1.free
              have xz := E1.lt
              have y0 := (E2.cell 0).trans rfl
              have y1 := (E2.cell 1).trans rfl
              have y2 := (E2.cell 2).trans rfl
              have y3 := (E2.cell 3).trans rfl
              have y4 := (E2.cell 4).trans rfl
              have yf := E2.free
              have yz := E2.lt
              have z0 := (F1.cell 0).trans rfl
              have z1 := (F1.cell 1).trans rfl
              have z2 := (F1.cell 2).trans rfl
              have z3 := (F1.cell 3).trans rfl
              have z4 := (F1.cell 4).trans rfl
              have zf := F1.free
              have zz := F1.lt
              refine wp_region_quiet_below (by kernel_rfl) (by kernel_rfl) ?_
              repeat (go_big_quiet_step (first | fail | (first | (go_at_call 23; with_reducible exact quiet_ret (poor_is HL.out _)) | (go_at_call 12; exact quiet_ret (awake_any _)))))
              refine wpQuiet_nil ?_
              intro w9 hw9
              have hb9 := below_of_regrown hw9
              clear hw9
              obtain ⟨hc9, hf9⟩ := bcell hb9
              have hz9 := bsize hb9
              try simp only [sizes1] at hz9
              try simp only [sizes] at hc9 hf9
              go_wp2_with fail
              go_ret
              have hs := hbw'.size
              exact Ret.mk (by repeat (first | with_reducible exact Below.refl _ _ | with_reducible refine Below.drew ?_ | (with_reducible refine Below.alloc ?_ (by first | exact Nat.le_refl _ | omega | (simp only [sizes]; omega)) _) | (with_reducible refine Below.setCell ?_ (by first | exact Nat.le_refl _ | omega | (simp only [sizes]; omega)) _) | (refine Below.trans ?_ (Below.mono (by with_reducible assumption) (by first | exact Nat.le_refl _ | omega | (simp only [sizes]; omega))))))
          · have HQ4 := Lib.hid (HTR.out hq3 hp1 hp2 hp3)
            have HQ3 := Lib.hid hq3; clear hq3
            go_wp2_with fail
            refine (poor_is HQ1.out _).mono ?_
            rintro e w8 ⟨rfl, hb8⟩
            clear x0 x1 x2 x3 x4 xf xz y0 y1 y2 y3 y4 yf yz z0 z1 z2 z3 z4 zf zz
            replace D1 := D1.below hb8
            replace D2 := D2.below hb8
            replace D3 := D3.below hb8
            have hs := hbw.size
            have hbw' : Below w.heap.size w w8 := (by repeat (first | with_reducible exact Below.refl _ _ | with_reducible refine Below.drew ?_ | (with_reducible refine Below.alloc ?_ (by first | exact Nat.le_refl _ | omega | (simp only [sizes]; omega)) _) | (with_reducible refine Below.setCell ?_ (by first | exact Nat.le_refl _ | omega | (simp only [sizes]; omega)) _) | (refine Below.trans ?_ (Below.mono (by with_reducible assumption) (by first | exact Nat.le_refl _ | omega | (simp only [sizes]; omega))))))
            clear hs hbw hb8
            have hbw := hbw'
            clear hbw'
            have x0 := (D1.cell 0).trans rfl
            have x1 := (D1.cell 1).trans rfl
            have x2 := (D1.cell 2).trans rfl
            have x3 := (D1.cell 3).trans rfl
            have x4 := (D1.cell 4).trans rfl
            have xf := D1.free
            have xz := D1.lt
            have y0 := (D2.cell 0).trans rfl
            have y1 := (D2.cell 1).trans rfl
            have y2 := (D2.cell 2).trans rfl
            have y3 := (D2.cell 3).trans rfl
            have y4 := (D2.cell 4).trans rfl
            have yf := D2.free
            have yz := D2.lt
            have z0 := (D3.cell 0).trans rfl
            have z1 := (D3.cell 1).trans rfl
            have z2 := (D3.cell 2).trans rfl
            have z3 := (D3.cell 3).trans rfl
            have z4 := (D3.cell 4).trans rfl
            have zf := D3.free
            have zz := D3.lt
            go_wp2_with fail
            refine (poor_is HQ3.out _).mono ?_
            rintro e w10 ⟨rfl, hb10⟩
            clear x0 x1 x2 x3 x4 xf xz y0 y1 y2 y3 y4 yf yz z0 z1 z2 z3 z4 zf zz
            replace D1 := D1.below hb10
            replace D2 := D2.below hb10
            replace D3 := D3.below hb10
            have hs := hbw.size
            have hbw' : Below w.heap.size w w10 := (by repeat (first | with_reducible exact Below.refl _ _ | with_reducible refine Below.drew ?_ | (with_reducible refine Below.alloc ?_ (by first | exact Nat.le_refl _ | omega | (simp only [sizes]; omega)) _) | (with_reducible refine Below.setCell ?_ (by first | exact Nat.le_refl _ | omega | (simp only [sizes]; omega)) _) | (refine Below.trans ?_ (Below.mono (by with_reducible assumption) (by first | exact Nat.le_refl _ | omega | (simp only [sizes]; omega))))))
            clear hs hbw hb10
            have hbw := hbw'
            clear hbw'
            have x0 := (D1.cell 0).trans rfl
            have x1 := (D1.cell 1).trans rfl
            have x2 := (D1.cell 2).trans rfl
            have x3 := (D1.cell 3).trans rfl
            have x4 := (D1.cell 4).trans rfl
            have xf := D1.free
            have xz := D1.lt
            have y0 := (D2.cell 0).trans rfl
            have y1 := (D2.cell 1).trans rfl
            have y2 := (D2.cell 2).trans rfl
            have y3 := (D2.cell 3).trans rfl
            have y4 := (D2.cell 4).trans rfl
            have yf := D2.free
            have yz := D2.lt
            have z0 := (D3.cell 0).trans rfl
            have z1 := (D3.cell 1).trans rfl
            have z2 := (D3.cell 2).trans rfl
            have z3 := (D3.cell 3).trans rfl
            have z4 := (D3.cell 4).trans rfl
            have zf := D3.free
            have zz := D3.lt
            go_wp2_with fail
            refine (poor_is HQ4.out _).mono ?_
            rintro e w11 ⟨rfl, hb11⟩
            clear x0 x1 x2 x3 x4 xf xz y0 y1 y2 y3 y4 yf yz z0 z1 z2 z3 z4 zf zz
            replace D1 := D1.below hb11
            replace D2 := D2.below hb11
            replace D3 := D3.below hb11
            have hs := hbw.size
            have hbw' : Below w.heap.size w w11 := (by repeat (first | with_reducible exact Below.refl _ _ | with_reducible refine Below.drew ?_ | (with_reducible refine Below.alloc ?_ (by first | exact Nat.le_refl _ | omega | (simp only [sizes]; omega)) _) | (with_reducible refine Below.setCell ?_ (by first | exact Nat.le_refl _ | omega | (simp only [sizes]; omega)) _) | (refine Below.trans ?_ (Below.mono (by with_reducible assumption) (by first | exact Nat.le_refl _ | omega | (simp only [sizes]; omega))))))
            clear hs hbw hb11
            have hbw := hbw'
            clear hbw'
            have x0 := (D1.cell 0).trans rfl
            have x1 := (D1.cell 1).trans rfl
            have x2 := (D1.cell 2).trans rfl
            have x3 := (D1.cell 3).trans rfl
            have x4 := (D1.cell 4).trans rfl
            have xf := D1.free
            have xz := D1.lt
            have y0 := (D2.cell 0).trans rfl
            have y1 := (D2.cell 1).trans rfl
            have y2 := (D2.cell 2).trans rfl
            have y3 := (D2.cell 3).trans rfl
            have y4 := (D2.cell 4).trans rfl
            have yf := D2.free
            have yz := D2.lt
            have z0 := (D3.cell 0).trans rfl
            have z1 := (D3.cell 1).trans rfl
            have z2 := (D3.cell 2).trans rfl
            have z3 := (D3.cell 3).trans rfl
            have z4 := (D3.cell 4).trans rfl
            have zf := D3.free
            have zz := D3.lt
            go_wp2_with fail
            by_cases hu0 : 0 < u
            · have hdu : decide (0 < u) = true := decide_eq_true hu0
              have HL' := hl.out
              rw [hd1, hdu] at HL'
              have HL := Lib.hid HL'; clear HL'
              obtain ⟨E1, E2⟩ := two_blocks w11 (.int .i64 r1) (.int .i64 l1) (.int .i64 s1) (.int .i64 p1) (.int .i64 0) (.int .i64 r1) (.int .i64 l1) (.int .i64 s1) (.int .i64 p1) (.int .i64 1000) 23
              have F1 := (D1.alloc (.cells #[.int .i64 r1, .int .i64 l1, .int .i64 s1, .int .i64 p1, .int .i64 0] 23)).alloc (.cells #[.int .i64 r1, .int .i64 l1, .int .i64 s1, .int .i64 p1, .int .i64 1000] 23)
              have hs := hbw.size
              have hbw' : Below w.heap.size w ((w11.alloc (.cells #[.int .i64 r1, .int .i64 l1, .int .i64 s1, .int .i64 p1, .int .i64 0] 23)).alloc (.cells #[.int .i64 r1, .int .i64 l1, .int .i64 s1, .int .i64 p1, .int .i64 1000] 23)) := (by repeat (first | with_reducible exact Below.refl _ _ | with_reducible refine Below.drew ?_ | (with_reducible refine Below.alloc ?_ (by first | exact Nat.le_refl _ | omega | (simp only [sizes]; omega)) _) | (with_reducible refine Below.setCell ?_ (by first | exact Nat.le_refl _ | omega | (simp only [sizes]; omega)) _) | (refine Below.trans ?_ (Below.mono (by with_reducible assumption) (by first | exact Nat.le_refl _ | omega | (simp only [sizes]; omega))))))
              clear hs x0 x1 x2 x3 x4 xf xz y0 y1 y2 y3 y4 yf yz z0 z1 z2 z3 z4 zf zz D1 D2 D3 hbw
              generalize hW : (w11.alloc (.cells #[.int .i64 r1, .int .i64 l1, .int .i64 s1, .int .i64 p1, .int .i64 0] 23)).alloc (.cells #[.int .i64 r1, .int .i64 l1, .int .i64 s1, .int .i64 p1, .int .i64 1000] 23) = wz at E1 E2 F1 hbw' ⊢
              clear hW
              obtain ⟨n2, hn2⟩ : ∃ n, w11.heap.size = n := ⟨_, rfl⟩
              rw [hn2] at E1 E2 ⊢
              clear hn2
              have x0 := (E1.cell 0).trans rfl
              have x1 := (E1.cell 1).trans rfl
              have x2 := (E1.cell 2).trans rfl
              have x3 := (E1.cell 3).trans rfl
              have x4 := (E1.cell 4).trans rfl
              have xf := E1.free
              have xz := E1.lt
              have y0 := (E2.cell 0).trans rfl
              have y1 := (E2.cell 1).trans rfl
              have y2 := (E2.cell 2).trans rfl
              have y3 := (E2.cell 3).trans rfl
              have y4 := (E2.cell 4).trans rfl
              have yf := E2.free
              have yz := E2.lt
              have z0 := (F1.cell 0).trans rfl
              have z1 := (F1.cell 1).trans rfl
              have z2 := (F1.cell 2).trans rfl
              have z3 := (F1.cell 3).trans rfl
              have z4 := (F1.cell 4).trans rfl
              have zf := F1.free
              have zz := F1.lt
              refine wp_region_quiet_below (by kernel_rfl) (by kernel_rfl) ?_
              repeat (go_big_quiet_step (first | fail | (first | (go_at_call 23; with_reducible exact quiet_ret (poor_is HL.out _)) | (go_at_call 12; exact quiet_ret (awake_any _)))))
              refine wpQuiet_nil ?_
              intro w9 hw9
              have hb9 := below_of_regrown hw9
              clear hw9
              obtain ⟨hc9, hf9⟩ := bcell hb9
              have hz9 := bsize hb9
              try simp only [sizes1] at hz9
              try simp only [sizes] at hc9 hf9
              go_wp2_with fail
              go_ret
              have hs := hbw'.size
              exact Ret.mk (by repeat (first | with_reducible exact Below.refl _ _ | with_reducible refine Below.drew ?_ | (with_reducible refine Below.alloc ?_ (by first | exact Nat.le_refl _ | omega | (simp only [sizes]; omega)) _) | (with_reducible refine Below.setCell ?_ (by first | exact Nat.le_refl _ | omega | (simp only [sizes]; omega)) _) | (refine Below.trans ?_ (Below.mono (by with_reducible assumption) (by first | exact Nat.le_refl _ | omega | (simp only [sizes]; omega))))))
            · have hdu : decide (0 < u) = false := decide_eq_false hu0
              have HL' := hl.out
              rw [hd1, hdu] at HL'
              have HL := Lib.hid HL'; clear HL'
              obtain ⟨E1, E2⟩ := two_blocks w11 (.int .i64 r1) (.int .i64 l1) (.int .i64 s1) (.int .i64 p1) (.int .i64 0) (.int .i64 r1) (.int .i64 l1) (.int .i64 s1) (.int .i64 p1) (.int .i64 1000) 23
              have F1 := (D1.alloc (.cells #[.int .i64 r1, .int .i64 l1, .int .i64 s1, .int .i64 p1, .int .i64 0] 23)).alloc (.cells #[.int .i64 r1, .int .i64 l1, .int .i64 s1, .int .i64 p1, .int .i64 1000] 23)
              have hs := hbw.size
              have hbw' : Below w.heap.size w ((w11.alloc (.cells #[.int .i64 r1, .int .i64 l1, .int .i64 s1, .int .i64 p1, .int .i64 0] 23)).alloc (.cells #[.int .i64 r1, .int .i64 l1, .int .i64 s1, .int .i64 p1, .int .i64 1000] 23)) := (by repeat (first | with_reducible exact Below.refl _ _ | with_reducible refine Below.drew ?_ | (with_reducible refine Below.alloc ?_ (by first | exact Nat.le_refl _ | omega | (simp only [sizes]; omega)) _) | (with_reducible refine Below.setCell ?_ (by first | exact Nat.le_refl _ | omega | (simp only [sizes]; omega)) _) | (refine Below.trans ?_ (Below.mono (by with_reducible assumption) (by first | exact Nat.le_refl _ | omega | (simp only [sizes]; omega))))))
              clear hs x0 x1 x2 x3 x4 xf xz y0 y1 y2 y3 y4 yf yz z0 z1 z2 z3 z4 zf zz D1 D2 D3 hbw
              generalize hW : (w11.alloc (.cells #[.int .i64 r1, .int .i64 l1, .int .i64 s1, .int .i64 p1, .int .i64 0] 23)).alloc (.cells #[.int .i64 r1, .int .i64 l1, .int .i64 s1, .int .i64 p1, .int .i64 1000] 23) = wz at E1 E2 F1 hbw' ⊢
              clear hW
              obtain ⟨n2, hn2⟩ : ∃ n, w11.heap.size = n := ⟨_, rfl⟩
              rw [hn2] at E1 E2 ⊢
              clear hn2
              have x0 := (E1.cell 0).trans rfl
              have x1 := (E1.cell 1).trans rfl
              have x2 := (E1.cell 2).trans rfl
              have x3 := (E1.cell 3).trans rfl
              have x4 := (E1.cell 4).trans rfl
              have xf := E1.free
              have xz := E1.lt
              have y0 := (E2.cell 0).trans rfl
              have y1 := (E2.cell 1).trans rfl
              have y2 := (E2.cell 2).trans rfl
              have y3 := (E2.cell 3).trans rfl
              have y4 := (E2.cell 4).trans rfl
              have yf := E2.free
              have yz := E2.lt
              have z0 := (F1.cell 0).trans rfl
              have z1 := (F1.cell 1).trans rfl
              have z2 := (F1.cell 2).trans rfl
              have z3 := (F1.cell 3).trans rfl
              have z4 := (F1.cell 4).trans rfl
              have zf := F1.free
              have zz := F1.lt
              refine wp_region_quiet_below (by kernel_rfl) (by kernel_rfl) ?_
              repeat (go_big_quiet_step (first | fail | (first | (go_at_call 23; with_reducible exact quiet_ret (poor_is HL.out _)) | (go_at_call 12; exact quiet_ret (awake_any _)))))
              refine wpQuiet_nil ?_
              intro w9 hw9
              have hb9 := below_of_regrown hw9
              clear hw9
              obtain ⟨hc9, hf9⟩ := bcell hb9
              have hz9 := bsize hb9
              try simp only [sizes1] at hz9
              try simp only [sizes] at hc9 hf9
              go_wp2_with fail
              go_ret
              have hs := hbw'.size
              exact Ret.mk (by repeat (first | with_reducible exact Below.refl _ _ | with_reducible refine Below.drew ?_ | (with_reducible refine Below.alloc ?_ (by first | exact Nat.le_refl _ | omega | (simp only [sizes]; omega)) _) | (with_reducible refine Below.setCell ?_ (by first | exact Nat.le_refl _ | omega | (simp only [sizes]; omega)) _) | (refine Below.trans ?_ (Below.mono (by with_reducible assumption) (by first | exact Nat.le_refl _ | omega | (simp only [sizes]; omega))))))
        · have hd3 : decide (0 < p3) = false := decide_eq_false hp3
          go_wp2_with fail
          by_cases hu0 : 0 < u
          · have hdu : decide (0 < u) = true := decide_eq_true hu0
            have HL' := hl.out
            rw [hd1, hdu] at HL'
            have HL := Lib.hid HL'; clear HL'
            obtain ⟨E1, E2⟩ := two_blocks w7 (.int .i64 r1) (.int .i64 l1) (.int .i64 s1) (.int .i64 p1) (.int .i64 0) (.int .i64 r1) (.int .i64 l1) (.int .i64 s1) (.int .i64 p1) (.int .i64 1000) 23
            have F1 := (D1.alloc (.cells #[.int .i64 r1, .int .i64 l1, .int .i64 s1, .int .i64 p1, .int .i64 0] 23)).alloc (.cells #[.int .i64 r1, .int .i64 l1, .int .i64 s1, .int .i64 p1, .int .i64 1000] 23)
            have hs := hbw.size
            have hbw' : Below w.heap.size w ((w7.alloc (.cells #[.int .i64 r1, .int .i64 l1, .int .i64 s1, .int .i64 p1, .int .i64 0] 23)).alloc (.cells #[.int .i64 r1, .int .i64 l1, .int .i64 s1, .int .i64 p1, .int .i64 1000] 23)) := (by repeat (first | with_reducible exact Below.refl _ _ | with_reducible refine Below.drew ?_ | (with_reducible refine Below.alloc ?_ (by first | exact Nat.le_refl _ | omega | (simp only [sizes]; omega)) _) | (with_reducible refine Below.setCell ?_ (by first | exact Nat.le_refl _ | omega | (simp only [sizes]; omega)) _) | (refine Below.trans ?_ (Below.mono (by with_reducible assumption) (by first | exact Nat.le_refl _ | omega | (simp only [sizes]; omega))))))
            clear hs x0 x1 x2 x3 x4 xf xz y0 y1 y2 y3 y4 yf yz z0 z1 z2 z3 z4 zf zz D1 D2 D3 hbw
            generalize hW : (w7.alloc (.cells #[.int .i64 r1, .int .i64 l1, .int .i64 s1, .int .i64 p1, .int .i64 0] 23)).alloc (.cells #[.int .i64 r1, .int .i64 l1, .int .i64 s1, .int .i64 p1, .int .i64 1000] 23) = wz at E1 E2 F1 hbw' ⊢
            clear hW
            obtain ⟨n2, hn2⟩ : ∃ n, w7.heap.size = n := ⟨_, rfl⟩
            rw [hn2] at E1 E2 ⊢
            clear hn2
            have x0 := (E1.cell 0).trans rfl
            have x1 := (E1.cell 1).trans rfl
            have x2 := (E1.cell 2).trans rfl
            have x3 := (E1.cell 3).trans rfl
            have x4 := (E1.cell 4).trans rfl
            have xf := E1.free
            have xz := E1.lt
            have y0 := (E2.cell 0).trans rfl
            have y1 := (E2.cell 1).trans rfl
            have y2 := (E2.cell 2).trans rfl
            have y3 := (E2.cell 3).trans rfl
            have y4 := (E2.cell 4).trans rfl
            have yf := E2.free
            have yz := E2.lt
            have z0 := (F1.cell 0).trans rfl
            have z1 := (F1.cell 1).trans rfl
            have z2 := (F1.cell 2).trans rfl
            have z3 := (F1.cell 3).trans rfl
            have z4 := (F1.cell 4).trans rfl
            have zf := F1.free
            have zz := F1.lt
            refine wp_region_quiet_below (by kernel_rfl) (by kernel_rfl) ?_
            repeat (go_big_quiet_step (first | fail | (first | (go_at_call 23; with_reducible exact quiet_ret (poor_is HL.out _)) | (go_at_call 12; exact quiet_ret (awake_any _)))))
            refine wpQuiet_nil ?_
            intro w9 hw9
            have hb9 := below_of_regrown hw9
            clear hw9
            obtain ⟨hc9, hf9⟩ := bcell hb9
            have hz9 := bsize hb9
            try simp only [sizes1] at hz9
            try simp only [sizes] at hc9 hf9
            go_wp2_with fail
            go_ret
            have hs := hbw'.size
            exact Ret.mk (by repeat (first | with_reducible exact Below.refl _ _ | with_reducible refine Below.drew ?_ | (with_reducible refine Below.alloc ?_ (by first | exact Nat.le_refl _ | omega | (simp only [sizes]; omega)) _) | (with_reducible refine Below.setCell ?_ (by first | exact Nat.le_refl _ | omega | (simp only [sizes]; omega)) _) | (refine Below.trans ?_ (Below.mono (by with_reducible assumption) (by first | exact Nat.le_refl _ | omega | (simp only [sizes]; omega))))))
          · have hdu : decide (0 < u) = false := decide_eq_false hu0
            have HL' := hl.out
            rw [hd1, hdu] at HL'
            have HL := Lib.hid HL'; clear HL'
            obtain ⟨E1, E2⟩ := two_blocks w7 (.int .i64 r1) (.int .i64 l1) (.int .i64 s1) (.int .i64 p1) (.int .i64 0) (.int .i64 r1) (.int .i64 l1) (.int .i64 s1) (.int .i64 p1) (.int .i64 1000) 23
            have F1 := (D1.alloc (.cells #[.int .i64 r1, .int .i64 l1, .int .i64 s1, .int .i64 p1, .int .i64 0] 23)).alloc (.cells #[.int .i64 r1, .int .i64 l1, .int .i64 s1, .int .i64 p1, .int .i64 1000] 23)
            have hs := hbw.size
            have hbw' : Below w.heap.size w ((w7.alloc (.cells #[.int .i64 r1, .int .i64 l1, .int .i64 s1, .int .i64 p1, .int .i64 0] 23)).alloc (.cells #[.int .i64 r1, .int .i64 l1, .int .i64 s1, .int .i64 p1, .int .i64 1000] 23)) := (by repeat (first | with_reducible exact Below.refl _ _ | with_reducible refine Below.drew ?_ | (with_reducible refine Below.alloc ?_ (by first | exact Nat.le_refl _ | omega | (simp only [sizes]; omega)) _) | (with_reducible refine Below.setCell ?_ (by first | exact Nat.le_refl _ | omega | (simp only [sizes]; omega)) _) | (refine Below.trans ?_ (Below.mono (by with_reducible assumption) (by first | exact Nat.le_refl _ | omega | (simp only [sizes]; omega))))))
            clear hs x0 x1 x2 x3 x4 xf xz y0 y1 y2 y3 y4 yf yz z0 z1 z2 z3 z4 zf zz D1 D2 D3 hbw
            generalize hW : (w7.alloc (.cells #[.int .i64 r1, .int .i64 l1, .int .i64 s1, .int .i64 p1, .int .i64 0] 23)).alloc (.cells #[.int .i64 r1, .int .i64 l1, .int .i64 s1, .int .i64 p1, .int .i64 1000] 23) = wz at E1 E2 F1 hbw' ⊢
            clear hW
            obtain ⟨n2, hn2⟩ : ∃ n, w7.heap.size = n := ⟨_, rfl⟩
            rw [hn2] at E1 E2 ⊢
            clear hn2
            have x0 := (E1.cell 0).trans rfl
            have x1 := (E1.cell 1).trans rfl
            have x2 := (E1.cell 2).trans rfl
            have x3 := (E1.cell 3).trans rfl
            have x4 := (E1.cell 4).trans rfl
            have xf := E1.free
            have xz := E1.lt
            have y0 := (E2.cell 0).trans rfl
            have y1 := (E2.cell 1).trans rfl
            have y2 := (E2.cell 2).trans rfl
            have y3 := (E2.cell 3).trans rfl
            have y4 := (E2.cell 4).trans rfl
            have yf := E2.free
            have yz := E2.lt
            have z0 := (F1.cell 0).trans rfl
            have z1 := (F1.cell 1).trans rfl
            have z2 := (F1.cell 2).trans rfl
            have z3 := (F1.cell 3).trans rfl
            have z4 := (F1.cell 4).trans rfl
            have zf := F1.free
            have zz := F1.lt
            refine wp_region_quiet_below (by kernel_rfl) (by kernel_rfl) ?_
            repeat (go_big_quiet_step (first | fail | (first | (go_at_call 23; with_reducible exact quiet_ret (poor_is HL.out _)) | (go_at_call 12; exact quiet_ret (awake_any _)))))
            refine wpQuiet_nil ?_
            intro w9 hw9
            have hb9 := below_of_regrown hw9
            clear hw9
            obtain ⟨hc9, hf9⟩ := bcell hb9
            have hz9 := bsize hb9
            try simp only [sizes1] at hz9
            try simp only [sizes] at hc9 hf9
            go_wp2_with fail
            go_ret
            have hs := hbw'.size
            exact Ret.mk (by repeat (first | with_reducible exact Below.refl _ _ | with_reducible refine Below.drew ?_ | (with_reducible refine Below.alloc ?_ (by first | exact Nat.le_refl _ | omega | (simp only [sizes]; omega)) _) | (with_reducible refine Below.setCell ?_ (by first | exact Nat.le_refl _ | omega | (simp only [sizes]; omega)) _) | (refine Below.trans ?_ (Below.mono (by with_reducible assumption) (by first | exact Nat.le_refl _ | omega | (simp only [sizes]; omega))))))
      · have hd2 : decide (0 < p2) = false := decide_eq_false hp2
        go_wp2_with fail
        by_cases hu0 : 0 < u
        · have hdu : decide (0 < u) = true := decide_eq_true hu0
          have HL' := hl.out
          rw [hd1, hdu] at HL'
          have HL := Lib.hid HL'; clear HL'
          obtain ⟨E1, E2⟩ := two_blocks w7 (.int .i64 r1) (.int .i64 l1) (.int .i64 s1) (.int .i64 p1) (.int .i64 0) (.int .i64 r1) (.int .i64 l1) (.int .i64 s1) (.int .i64 p1) (.int .i64 1000) 23
          have F1 := (D1.alloc (.cells #[.int .i64 r1, .int .i64 l1, .int .i64 s1, .int .i64 p1, .int .i64 0] 23)).alloc (.cells #[.int .i64 r1, .int .i64 l1, .int .i64 s1, .int .i64 p1, .int .i64 1000] 23)
          have hs := hbw.size
          have hbw' : Below w.heap.size w ((w7.alloc (.cells #[.int .i64 r1, .int .i64 l1, .int .i64 s1, .int .i64 p1, .int .i64 0] 23)).alloc (.cells #[.int .i64 r1, .int .i64 l1, .int .i64 s1, .int .i64 p1, .int .i64 1000] 23)) := (by repeat (first | with_reducible exact Below.refl _ _ | with_reducible refine Below.drew ?_ | (with_reducible refine Below.alloc ?_ (by first | exact Nat.le_refl _ | omega | (simp only [sizes]; omega)) _) | (with_reducible refine Below.setCell ?_ (by first | exact Nat.le_refl _ | omega | (simp only [sizes]; omega)) _) | (refine Below.trans ?_ (Below.mono (by with_reducible assumption) (by first | exact Nat.le_refl _ | omega | (simp only [sizes]; omega))))))
          clear hs x0 x1 x2 x3 x4 xf xz y0 y1 y2 y3 y4 yf yz z0 z1 z2 z3 z4 zf zz D1 D2 D3 hbw
          generalize hW : (w7.alloc (.cells #[.int .i64 r1, .int .i64 l1, .int .i64 s1, .int .i64 p1, .int .i64 0] 23)).alloc (.cells #[.int .i64 r1, .int .i64 l1, .int .i64 s1, .int .i64 p1, .int .i64 1000] 23) = wz at E1 E2 F1 hbw' ⊢
          clear hW
          obtain ⟨n2, hn2⟩ : ∃ n, w7.heap.size = n := ⟨_, rfl⟩
          rw [hn2] at E1 E2 ⊢
          clear hn2
          have x0 := (E1.cell 0).trans rfl
          have x1 := (E1.cell 1).trans rfl
          have x2 := (E1.cell 2).trans rfl
          have x3 := (E1.cell 3).trans rfl
          have x4 := (E1.cell 4).trans rfl
          have xf := E1.free
          have xz := E1.lt
          have y0 := (E2.cell 0).trans rfl
          have y1 := (E2.cell 1).trans rfl
          have y2 := (E2.cell 2).trans rfl
          have y3 := (E2.cell 3).trans rfl
          have y4 := (E2.cell 4).trans rfl
          have yf := E2.free
          have yz := E2.lt
          have z0 := (F1.cell 0).trans rfl
          have z1 := (F1.cell 1).trans rfl
          have z2 := (F1.cell 2).trans rfl
          have z3 := (F1.cell 3).trans rfl
          have z4 := (F1.cell 4).trans rfl
          have zf := F1.free
          have zz := F1.lt
          refine wp_region_quiet_below (by kernel_rfl) (by kernel_rfl) ?_
          repeat (go_big_quiet_step (first | fail | (first | (go_at_call 23; with_reducible exact quiet_ret (poor_is HL.out _)) | (go_at_call 12; exact quiet_ret (awake_any _)))))
          refine wpQuiet_nil ?_
          intro w9 hw9
          have hb9 := below_of_regrown hw9
          clear hw9
          obtain ⟨hc9, hf9⟩ := bcell hb9
          have hz9 := bsize hb9
          try simp only [sizes1] at hz9
          try simp only [sizes] at hc9 hf9
          go_wp2_with fail
          go_ret
          have hs := hbw'.size
          exact Ret.mk (by repeat (first | with_reducible exact Below.refl _ _ | with_reducible refine Below.drew ?_ | (with_reducible refine Below.alloc ?_ (by first | exact Nat.le_refl _ | omega | (simp only [sizes]; omega)) _) | (with_reducible refine Below.setCell ?_ (by first | exact Nat.le_refl _ | omega | (simp only [sizes]; omega)) _) | (refine Below.trans ?_ (Below.mono (by with_reducible assumption) (by first | exact Nat.le_refl _ | omega | (simp only [sizes]; omega))))))
        · have hdu : decide (0 < u) = false := decide_eq_false hu0
          have HL' := hl.out
          rw [hd1, hdu] at HL'
          have HL := Lib.hid HL'; clear HL'
          obtain ⟨E1, E2⟩ := two_blocks w7 (.int .i64 r1) (.int .i64 l1) (.int .i64 s1) (.int .i64 p1) (.int .i64 0) (.int .i64 r1) (.int .i64 l1) (.int .i64 s1) (.int .i64 p1) (.int .i64 1000) 23
          have F1 := (D1.alloc (.cells #[.int .i64 r1, .int .i64 l1, .int .i64 s1, .int .i64 p1, .int .i64 0] 23)).alloc (.cells #[.int .i64 r1, .int .i64 l1, .int .i64 s1, .int .i64 p1, .int .i64 1000] 23)
          have hs := hbw.size
          have hbw' : Below w.heap.size w ((w7.alloc (.cells #[.int .i64 r1, .int .i64 l1, .int .i64 s1, .int .i64 p1, .int .i64 0] 23)).alloc (.cells #[.int .i64 r1, .int .i64 l1, .int .i64 s1, .int .i64 p1, .int .i64 1000] 23)) := (by repeat (first | with_reducible exact Below.refl _ _ | with_reducible refine Below.drew ?_ | (with_reducible refine Below.alloc ?_ (by first | exact Nat.le_refl _ | omega | (simp only [sizes]; omega)) _) | (with_reducible refine Below.setCell ?_ (by first | exact Nat.le_refl _ | omega | (simp only [sizes]; omega)) _) | (refine Below.trans ?_ (Below.mono (by with_reducible assumption) (by first | exact Nat.le_refl _ | omega | (simp only [sizes]; omega))))))
          clear hs x0 x1 x2 x3 x4 xf xz y0 y1 y2 y3 y4 yf yz z0 z1 z2 z3 z4 zf zz D1 D2 D3 hbw
          generalize hW : (w7.alloc (.cells #[.int .i64 r1, .int .i64 l1, .int .i64 s1, .int .i64 p1, .int .i64 0] 23)).alloc (.cells #[.int .i64 r1, .int .i64 l1, .int .i64 s1, .int .i64 p1, .int .i64 1000] 23) = wz at E1 E2 F1 hbw' ⊢
          clear hW
          obtain ⟨n2, hn2⟩ : ∃ n, w7.heap.size = n := ⟨_, rfl⟩
          rw [hn2] at E1 E2 ⊢
          clear hn2
          have x0 := (E1.cell 0).trans rfl
          have x1 := (E1.cell 1).trans rfl
          have x2 := (E1.cell 2).trans rfl
          have x3 := (E1.cell 3).trans rfl
          have x4 := (E1.cell 4).trans rfl
          have xf := E1.free
          have xz := E1.lt
          have y0 := (E2.cell 0).trans rfl
          have y1 := (E2.cell 1).trans rfl
          have y2 := (E2.cell 2).trans rfl
          have y3 := (E2.cell 3).trans rfl
          have y4 := (E2.cell 4).trans rfl
          have yf := E2.free
          have yz := E2.lt
          have z0 := (F1.cell 0).trans rfl
          have z1 := (F1.cell 1).trans rfl
          have z2 := (F1.cell 2).trans rfl
          have z3 := (F1.cell 3).trans rfl
          have z4 := (F1.cell 4).trans rfl
          have zf := F1.free
          have zz := F1.lt
          refine wp_region_quiet_below (by kernel_rfl) (by kernel_rfl) ?_
          repeat (go_big_quiet_step (first | fail | (first | (go_at_call 23; with_reducible exact quiet_ret (poor_is HL.out _)) | (go_at_call 12; exact quiet_ret (awake_any _)))))
          refine wpQuiet_nil ?_
          intro w9 hw9
          have hb9 := below_of_regrown hw9
          clear hw9
          obtain ⟨hc9, hf9⟩ := bcell hb9
          have hz9 := bsize hb9
          try simp only [sizes1] at hz9
          try simp only [sizes] at hc9 hf9
          go_wp2_with fail
          go_ret
          have hs := hbw'.size
          exact Ret.mk (by repeat (first | with_reducible exact Below.refl _ _ | with_reducible refine Below.drew ?_ | (with_reducible refine Below.alloc ?_ (by first | exact Nat.le_refl _ | omega | (simp only [sizes]; omega)) _) | (with_reducible refine Below.setCell ?_ (by first | exact Nat.le_refl _ | omega | (simp only [sizes]; omega)) _) | (refine Below.trans ?_ (Below.mono (by with_reducible assumption) (by first | exact Nat.le_refl _ | omega | (simp only [sizes]; omega))))))
    · have hd1 : decide (0 < p1) = false := decide_eq_false hp1
      go_wp2_with fail
      have HL' := hl.out
      rw [hd1, Bool.false_and] at HL'
      have HL := Lib.hid HL'; clear HL'
      obtain ⟨E1, E2⟩ := two_blocks w7 (.int .i64 r1) (.int .i64 l1) (.int .i64 s1) (.int .i64 p1) (.int .i64 0) (.int .i64 r1) (.int .i64 l1) (.int .i64 s1) (.int .i64 p1) (.int .i64 1000) 23
      have F1 := (D1.alloc (.cells #[.int .i64 r1, .int .i64 l1, .int .i64 s1, .int .i64 p1, .int .i64 0] 23)).alloc (.cells #[.int .i64 r1, .int .i64 l1, .int .i64 s1, .int .i64 p1, .int .i64 1000] 23)
      have hs := hbw.size
      have hbw' : Below w.heap.size w ((w7.alloc (.cells #[.int .i64 r1, .int .i64 l1, .int .i64 s1, .int .i64 p1, .int .i64 0] 23)).alloc (.cells #[.int .i64 r1, .int .i64 l1, .int .i64 s1, .int .i64 p1, .int .i64 1000] 23)) := (by repeat (first | with_reducible exact Below.refl _ _ | with_reducible refine Below.drew ?_ | (with_reducible refine Below.alloc ?_ (by first | exact Nat.le_refl _ | omega | (simp only [sizes]; omega)) _) | (with_reducible refine Below.setCell ?_ (by first | exact Nat.le_refl _ | omega | (simp only [sizes]; omega)) _) | (refine Below.trans ?_ (Below.mono (by with_reducible assumption) (by first | exact Nat.le_refl _ | omega | (simp only [sizes]; omega))))))
      clear hs x0 x1 x2 x3 x4 xf xz y0 y1 y2 y3 y4 yf yz z0 z1 z2 z3 z4 zf zz D1 D2 D3 hbw
      generalize hW : (w7.alloc (.cells #[.int .i64 r1, .int .i64 l1, .int .i64 s1, .int .i64 p1, .int .i64 0] 23)).alloc (.cells #[.int .i64 r1, .int .i64 l1, .int .i64 s1, .int .i64 p1, .int .i64 1000] 23) = wz at E1 E2 F1 hbw' ⊢
      clear hW
      obtain ⟨n2, hn2⟩ : ∃ n, w7.heap.size = n := ⟨_, rfl⟩
      rw [hn2] at E1 E2 ⊢
      clear hn2
      have x0 := (E1.cell 0).trans rfl
      have x1 := (E1.cell 1).trans rfl
      have x2 := (E1.cell 2).trans rfl
      have x3 := (E1.cell 3).trans rfl
      have x4 := (E1.cell 4).trans rfl
      have xf := E1.free
      have xz := E1.lt
      have y0 := (E2.cell 0).trans rfl
      have y1 := (E2.cell 1).trans rfl
      have y2 := (E2.cell 2).trans rfl
      have y3 := (E2.cell 3).trans rfl
      have y4 := (E2.cell 4).trans rfl
      have yf := E2.free
      have yz := E2.lt
      have z0 := (F1.cell 0).trans rfl
      have z1 := (F1.cell 1).trans rfl
      have z2 := (F1.cell 2).trans rfl
      have z3 := (F1.cell 3).trans rfl
      have z4 := (F1.cell 4).trans rfl
      have zf := F1.free
      have zz := F1.lt
      refine wp_region_quiet_below (by kernel_rfl) (by kernel_rfl) ?_
      repeat (go_big_quiet_step (first | fail | (first | (go_at_call 23; with_reducible exact quiet_ret (poor_is HL.out _)) | (go_at_call 12; exact quiet_ret (awake_any _)))))
      refine wpQuiet_nil ?_
      intro w9 hw9
      have hb9 := below_of_regrown hw9
      clear hw9
      obtain ⟨hc9, hf9⟩ := bcell hb9
      have hz9 := bsize hb9
      try simp only [sizes1] at hz9
      try simp only [sizes] at hc9 hf9
      go_wp2_with fail
      go_ret
      have hs := hbw'.size
      exact Ret.mk (by repeat (first | with_reducible exact Below.refl _ _ | with_reducible refine Below.drew ?_ | (with_reducible refine Below.alloc ?_ (by first | exact Nat.le_refl _ | omega | (simp only [sizes]; omega)) _) | (with_reducible refine Below.setCell ?_ (by first | exact Nat.le_refl _ | omega | (simp only [sizes]; omega)) _) | (refine Below.trans ?_ (Below.mono (by with_reducible assumption) (by first | exact Nat.le_refl _ | omega | (simp only [sizes]; omega))))))
end Go.Proofs.Ytclnjjppcdgkiaa
