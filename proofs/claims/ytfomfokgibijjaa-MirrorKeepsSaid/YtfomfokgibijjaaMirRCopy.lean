/-
  Blocks of a mirror copied, in the reference: walked.
-/
import Derived.Test.YtfomfokgibijjaaMirSame
import Derived.Test.YtfomfokgibijjaaRegions
namespace Go.Proofs.Ytfomfokgibijjaa
open Go.RowKit

theorem cpL_succ {S T : List ByteArray} {c i : Nat} {s : ByteArray} (h : S[c + i]? = some s) : cpL S T c (i + 1) = (cpL S T c i).set (c + i) s := by
  rw [cpL, h]
set_option maxHeartbeats 4000000 in
theorem rcopy_any (vs vt : Value) (S T : List ByteArray) (c q : Int) (w : World) (ha : StrRow w vs S) (hb : StrRow w vt T) (hc : -9223372036854775808 ≤ c ∧ c ≤ 9223372036854775807) (hq : -9223372036854775808 ≤ q ∧ q ≤ 9223372036854775807) : Calls Try.prog 18 #[.agg #[vs, vt, .int .i64 c], .int .i64 q] w (RetRow S (cpT S T c q) (cpC S T c q) w) := by
  have HA := Lib.hid ha
  have HB := Lib.hid hb
  obtain ⟨ao, ca, rfl, a1, a2, a3⟩ := ha.out
  obtain ⟨bo, cb, rfl, b1, b2, b3⟩ := hb.out
  clear ha hb
  have V := fun vs vt w ha hb => rvalid_any vs vt S T c w ha hb hc
  have hlen := fun h => validB_len (S := S) (T := T) (c := c) h
  have HLEN := Lib.hid hlen; clear hlen
  obtain ⟨vb, hvb⟩ : ∃ v, validB S T c = v := ⟨_, rfl⟩
  obtain ⟨n, hn⟩ : ∃ n, S.length = n := ⟨_, rfl⟩
  obtain ⟨m, hm⟩ : ∃ n, T.length = n := ⟨_, rfl⟩
  rw [hvb] at V
  have HV := Lib.hid V; clear V
  have HVB := Lib.hid hvb; clear hvb
  rw [hn] at a1 a3 HA ⊢
  rw [hm] at b1 b3 HB ⊢
  have HN := Lib.hid hn; clear hn
  have HM := Lib.hid hm; clear hm
  have hb0 : Below w.heap.size w ((w.alloc (.cells #[.slice ao n ca, .slice bo m cb, .int .i64 c] 24)).alloc (.cells #[.slice none 0 0, .slice none 0 0, .int .i64 0] 24)) := (by repeat (first | with_reducible exact Below.refl _ _ | with_reducible refine Below.drew ?_ | (with_reducible refine Below.alloc ?_ (by first | exact Nat.le_refl _ | omega | (simp only [sizes]; omega)) _) | (with_reducible refine Below.setCell ?_ (by first | exact Nat.le_refl _ | omega | (simp only [sizes]; omega)) _) | (refine Below.trans ?_ (Below.mono (by with_reducible assumption) (by first | exact Nat.le_refl _ | omega | (simp only [sizes]; omega))))))
  have D0 := (HasBlock.made w #[.slice ao n ca, .slice bo m cb, .int .i64 c] 24).alloc (.cells #[.slice none 0 0, .slice none 0 0, .int .i64 0] 24)
  have D9 := HasBlock.made (w.alloc (.cells #[.slice ao n ca, .slice bo m cb, .int .i64 c] 24)) #[.slice none 0 0, .slice none 0 0, .int .i64 0] 24
  have hz0 := hb0.size
  simp only [sizes] at D9 hz0
  go_enter Try.func18, Try.ntmps18
  go_wp2_with fail
  with_reducible refine (HV.out _ _ _ (HA.out.below hb0) (HB.out.below hb0)).mono ?_
  rintro e w1 ⟨rfl, hb1⟩
  have D1 := D0.below hb1
  have D2 := D9.below hb1
  have hbw1 : Below w.heap.size w w1 := hb0.trans (hb1.mono hb0.size)
  have hz1 : w.heap.size + 1 + 1 ≤ w1.heap.size := by have := hb1.size; simp only [sizes] at this; exact this
  clear hb1 hb0 D0 D9 hz0 HV
  have x0 := (D1.cell 0).trans rfl
  have x1 := (D1.cell 1).trans rfl
  have x2 := (D1.cell 2).trans rfl
  have xf := D1.free
  have xz := D1.lt
  have y0 := (D2.cell 0).trans rfl
  have y1 := (D2.cell 1).trans rfl
  have y2 := (D2.cell 2).trans rfl
  have yf := D2.free
  have yz := D2.lt
  cases vb
  · have hfail : goodC S T c q = false := by rw [goodC, HVB.out, Bool.false_and]
    have HF := Lib.hid hfail; clear hfail
    go_wp2_with fail
    refine bodyPost_ret (v := .agg #[.slice ao n ca, .slice bo m cb, .int .i64 c]) (by simp [results, Try.results18, go_sem, y0, y1, y2]) rfl ?_
    rw [show RetRow S (cpT S T c q) (cpC S T c q) w = RetRow S T c w by simp [cpT, cpC, HF.out]]
    exact retRow (HA.out.below (by repeat (first | with_reducible exact Below.refl _ _ | with_reducible refine Below.drew ?_ | (with_reducible refine Below.alloc ?_ (by first | exact Nat.le_refl _ | omega | (dsimp only; omega) | (simp only [sizes]; omega)) _) | (with_reducible refine Below.setCell ?_ (by first | exact Nat.le_refl _ | omega | (dsimp only; omega) | (simp only [sizes]; omega)) _) | (refine Below.trans ?_ (Below.mono (by with_reducible assumption) (by first | exact Nat.le_refl _ | omega | (dsimp only; omega) | (simp only [sizes]; omega))))))) (HB.out.below (by repeat (first | with_reducible exact Below.refl _ _ | with_reducible refine Below.drew ?_ | (with_reducible refine Below.alloc ?_ (by first | exact Nat.le_refl _ | omega | (dsimp only; omega) | (simp only [sizes]; omega)) _) | (with_reducible refine Below.setCell ?_ (by first | exact Nat.le_refl _ | omega | (dsimp only; omega) | (simp only [sizes]; omega)) _) | (refine Below.trans ?_ (Below.mono (by with_reducible assumption) (by first | exact Nat.le_refl _ | omega | (dsimp only; omega) | (simp only [sizes]; omega))))))) (by repeat (first | with_reducible exact Below.refl _ _ | with_reducible refine Below.drew ?_ | (with_reducible refine Below.alloc ?_ (by first | exact Nat.le_refl _ | omega | (dsimp only; omega) | (simp only [sizes]; omega)) _) | (with_reducible refine Below.setCell ?_ (by first | exact Nat.le_refl _ | omega | (dsimp only; omega) | (simp only [sizes]; omega)) _) | (refine Below.trans ?_ (Below.mono (by with_reducible assumption) (by first | exact Nat.le_refl _ | omega | (dsimp only; omega) | (simp only [sizes]; omega))))))
  have hln : 1 ≤ n ∧ n ≤ 64 ∧ 1 ≤ m ∧ m ≤ 64 ∧ n ≤ m ∧ m ≤ n ∧ 0 ≤ c ∧ c ≤ n := by
    have h := HLEN.out HVB.out
    rw [HN.out, HM.out] at h
    omega
  clear HLEN
  obtain ⟨j, rfl⟩ : ∃ j : Nat, c = j := ⟨c.toNat, by omega⟩
  obtain ⟨b1', off, rfl, hbs, hbc⟩ := a3.resolve_left (by omega)
  obtain ⟨b2', off', rfl, hbs', _⟩ := b3.resolve_left (by omega)
  have HBC := Lib.hid hbc; clear hbc a3 b3
  obtain ⟨i0, hi, iz0, iz1, iz2⟩ := info_parts info_str
  go_wp2_with (at_builtin; refine wpList_append_own _ rfl (.tmp 9) (.tmp 11) 22 rfl w1.heap.size 9 i0 (.string ⟨#[]⟩) 1 16 Try.underlying22 hi iz0 iz1 iz2 rfl (by decide) _ _ _ rfl (World.ownsRow_made _ #[] 0 (Nat.le_refl _) (Nat.zero_le _) (by simp)) ⟨b2', off', none⟩ m cb (T.map Value.string) rfl ?qa2 ?qb2 ?qc2 ?qd2 ?qe2 ?qf2 ?_)
  case qa2 => rw [List.length_map, HM.out, Nat.mul_one]
  case qb2 => exact fun j u hj => Lib.cell?_alloc_some _ ((HB.out.below hbw1).cells' j u hj)
  case qc2 => intro u hu; rw [List.mem_map] at hu; obtain ⟨x, _, rfl⟩ := hu; rfl
  case qd2 => unfold maxLen; omega
  case qe2 => omega
  case qf2 => simp
  intro v2 w2 hown2 hgrow2 _
  have hb2 : Below w1.heap.size w1 w2 := ((Below.refl _ w1).alloc (Nat.le_refl _) _).grown hgrow2 (by simp) (by intro k hk; simp [Value.ownBlock] at hk; omega)
  have ho2 : OwnStr w1.heap.size w2 v2 T := by unfold OwnStr OwnEnc; rw [HM.out]; simpa using hown2
  clear hown2 hgrow2
  have E1 := D1.below hb2
  have E2 := D2.below hb2
  have hbw2 : Below w.heap.size w w2 := hbw1.trans (hb2.mono hbw1.size)
  have hz2 := hb2.size
  clear x0 x1 x2 xf xz
  clear y0 y1 y2 yf yz
  clear D1 D2 hbw1 hb2
  obtain ⟨o2, k2, rfl, _, _⟩ := ho2.formN HM.out
  obtain ⟨g', rfl, hg1, hg2⟩ := ho2.addr HM.out (by omega)
  have HO2 := Lib.hid ho2; clear ho2
  have x0 := (E1.cell 0).trans rfl
  have x1 := (E1.cell 1).trans rfl
  have x2 := (E1.cell 2).trans rfl
  have xf := E1.free
  have xz := E1.lt
  have y0 := (E2.cell 0).trans rfl
  have y1 := (E2.cell 1).trans rfl
  have y2 := (E2.cell 2).trans rfl
  have yf := E2.free
  have yz := E2.lt
  go_wp2_with fail
  have F1 := E1.set_at 1 (.slice (some ⟨g', 0, none⟩) m k2)
  have F2 := E2.set_ne (b' := w.heap.size) (j := 1) (by omega) (.slice (some ⟨g', 0, none⟩) m k2)
  have p2 := owns_set_ne HO2.out.raw (own_ne (show g' ≠ w.heap.size by omega)) (j := 1) (.slice (some ⟨g', 0, none⟩) m k2)
  have hbw3 : Below w.heap.size w (w2.setCell ⟨w.heap.size, 1, none⟩ (.slice (some ⟨g', 0, none⟩) m k2)) := (by repeat (first | with_reducible exact Below.refl _ _ | with_reducible refine Below.drew ?_ | (with_reducible refine Below.alloc ?_ (by first | exact Nat.le_refl _ | omega | (dsimp only; omega) | (simp only [sizes]; omega)) _) | (with_reducible refine Below.setCell ?_ (by first | exact Nat.le_refl _ | omega | (dsimp only; omega) | (simp only [sizes]; omega)) _) | (refine Below.trans ?_ (Below.mono (by with_reducible assumption) (by first | exact Nat.le_refl _ | omega | (dsimp only; omega) | (simp only [sizes]; omega))))))
  clear x0 x1 x2 xf xz
  clear y0 y1 y2 yf yz
  clear E1 E2 hbw2 HO2
  go_loopw [1] (fun qv wr => ∃ i : Nat, qv = .int .i64 (q - i) ∧ (i = 0 ∨ ((i : Int) ≤ q ∧ j + i ≤ n)) ∧ HasBlock wr w.heap.size #[.slice (some ⟨b1', off, none⟩) n ca, .slice (some ⟨g', 0, none⟩) m k2, .int .i64 ((j : Int) + i)] 24 ∧ HasBlock wr (w.heap.size + 1) #[.slice none 0 0, .slice none 0 0, .int .i64 0] 24 ∧ OwnStr w1.heap.size wr (.slice (some ⟨g', 0, none⟩) m k2) (cpL S T j i) ∧ Below w.heap.size w wr) (fun qv _ => (intOf qv).toNat)
  case atStart => exact ⟨0, by simp, .inl rfl, by simpa using F1, F2, p2, hbw3⟩
  case round =>
    obtain ⟨i, rfl, hi2, D1, D2, hown, hbw⟩ := hrel
    clear F1 F2 p2 hbw3
    have hz3 := hbw.size
    have hi3 : j + i ≤ n := by omega
    have HO := Lib.hid hown; clear hown
    have x0 := (D1.cell 0).trans rfl
    have x1 := (D1.cell 1).trans rfl
    have x2 := (D1.cell 2).trans rfl
    have xf := D1.free
    have xz := D1.lt
    have y0 := (D2.cell 0).trans rfl
    have y1 := (D2.cell 1).trans rfl
    have y2 := (D2.cell 2).trans rfl
    have yf := D2.free
    have yz := D2.lt
    by_cases h1 : 0 < q - i
    · by_cases h2 : j + i < n
      · have hcl := cpL_len S T j i
        rw [HM.out] at hcl
        obtain ⟨s, hs⟩ := get_lt (xs := S) (k := j + i) (by rw [HN.out]; exact h2)
        obtain ⟨u, hu⟩ := get_lt (xs := cpL S T j i) (k := j + i) (by omega)
        have c1 := (hbw.cell (p := ⟨b1', off + (j + i), none⟩) hbs).trans (HBC.out (j + i) s hs)
        obtain ⟨t1, t2⟩ := HO.out.at hu
        have hgw := (World.ownsRow.lt HO.out.raw g' rfl).2
        have HS := Lib.hid hs; clear hs hu hcl
        have hbs2 : b1' < wr.heap.size := by omega
        have s0 : (0 : Int) ≤ (j : Int) + i := by omega
        have s1 : (j : Int) + i < (n : Int) := by omega
        have s2 : (j : Int) + i < (m : Int) := by omega
        go_wp2_with fail
        refine wp_region_tail_below 10 (by kernel_rfl) (by kernel_rfl) ?_
        simp only [List.take_succ_cons, List.take_zero, List.drop_succ_cons, List.drop_zero]
        repeat (go_big_quiet_step (first | fail | fail))
        refine wpQuiet_nil ?_
        intro w3 hw3
        have hb3 := below_of_regrown hw3
        clear hw3
        obtain ⟨hc3, hf3⟩ := bcell hb3
        have hz3 := bsize hb3
        try simp only [sizes1] at hz3
        try simp only [sizes] at hc3 hf3
        have E1 := D1.below hb3
        have E2 := D2.below hb3
        have P := HO.out.below hb3
        have u1 := (hb3.cell (p := ⟨g', j + i, none⟩) hgw).trans t1
        have u2 := (hb3.frozen (p := ⟨g', j + i, none⟩) hgw).trans t2
        have hbw3 : Below w.heap.size w w3 := hbw.trans (hb3.mono hbw.size)
        have hgw3 := (World.ownsRow.lt P.raw g' rfl).2
        clear x0 x1 x2 xf xz
        clear y0 y1 y2 yf yz
        clear hc3 hf3 t1 t2 c1 D1 D2 hbw HO
        have HO := Lib.hid P; clear P
        have x0 := (E1.cell 0).trans rfl
        have x1 := (E1.cell 1).trans rfl
        have x2 := (E1.cell 2).trans rfl
        have xf := E1.free
        have xz := E1.lt
        have y0 := (E2.cell 0).trans rfl
        have y1 := (E2.cell 1).trans rfl
        have y2 := (E2.cell 2).trans rfl
        have yf := E2.free
        have yz := E2.lt
        go_wp2_with fail
        go_roundw
        case rel =>
          refine ⟨i + 1, by go_num, .inr ⟨by omega, by omega⟩, ?_, ?_, ?_, (by repeat (first | with_reducible exact Below.refl _ _ | with_reducible refine Below.drew ?_ | (with_reducible refine Below.alloc ?_ (by first | exact Nat.le_refl _ | omega | (dsimp only; omega) | (simp only [sizes]; omega)) _) | (with_reducible refine Below.setCell ?_ (by first | exact Nat.le_refl _ | omega | (dsimp only; omega) | (simp only [sizes]; omega)) _) | (refine Below.trans ?_ (Below.mono (by with_reducible assumption) (by first | exact Nat.le_refl _ | omega | (dsimp only; omega) | (simp only [sizes]; omega))))))⟩
          · have e := (E1.set_ne (b' := g') (j := j + i) (by omega) (.string s)).set_at 2 (.int .i64 ((j : Int) + i + 1))
            rw [show ((i + 1 : Nat) : Int) = (i : Int) + 1 by omega, ← Int.add_assoc]
            simpa using e
          · exact (E2.set_ne (b' := g') (j := j + i) (by omega) (.string s)).set_ne (by omega) _
          · rw [cpL_succ HS.out]
            exact OwnEnc.of (owns_set_ne (HO.out.put (j + i) s).raw (own_ne (by omega)) _)
        case measure => simp [intOf]; omega
      · have hex : cpT S T j q = cpL S T j i ∧ cpC S T j q = (j : Int) + i := by
          unfold cpT cpC goodC
          rw [HVB.out, HN.out, Bool.true_and]
          by_cases h1 : 1 ≤ q
          · rw [decide_eq_true h1, if_pos rfl, if_pos rfl, Int.toNat_natCast, show (min q ((n : Int) - j)).toNat = i by omega]
            exact ⟨rfl, by omega⟩
          · rw [decide_eq_false h1, if_neg (by decide), if_neg (by decide)]
            have h0 : i = 0 := by omega
            subst h0
            exact ⟨rfl, by omega⟩
        have HEX := Lib.hid hex; clear hex
        go_wp2_with fail
        refine bodyPost_ret (v := .agg #[.slice (some ⟨b1', off, none⟩) n ca, .slice (some ⟨g', 0, none⟩) m k2, .int .i64 ((j : Int) + i)]) (by simp [results, Try.results18, go_sem, y0, y1, y2]) rfl ?_
        rw [HEX.out.1, HEX.out.2]
        exact retRow (HA.out.below (by repeat (first | with_reducible exact Below.refl _ _ | with_reducible refine Below.drew ?_ | (with_reducible refine Below.alloc ?_ (by first | exact Nat.le_refl _ | omega | (dsimp only; omega) | (simp only [sizes]; omega)) _) | (with_reducible refine Below.setCell ?_ (by first | exact Nat.le_refl _ | omega | (dsimp only; omega) | (simp only [sizes]; omega)) _) | (refine Below.trans ?_ (Below.mono (by with_reducible assumption) (by first | exact Nat.le_refl _ | omega | (dsimp only; omega) | (simp only [sizes]; omega))))))) (OwnEnc.row (base := w1.heap.size) (e := 9) (by have h4 := OwnEnc.raw (HO.out); refine OwnEnc.of ?_; repeat (first | with_reducible exact h4 | (with_reducible refine World.ownsRow.alloc ?_ _) | (with_reducible refine owns_set_ne ?_ (own_gt h4 (by omega)) _) | (with_reducible refine owns_set_ne ?_ (own_ne (by omega)) _)))) (by repeat (first | with_reducible exact Below.refl _ _ | with_reducible refine Below.drew ?_ | (with_reducible refine Below.alloc ?_ (by first | exact Nat.le_refl _ | omega | (dsimp only; omega) | (simp only [sizes]; omega)) _) | (with_reducible refine Below.setCell ?_ (by first | exact Nat.le_refl _ | omega | (dsimp only; omega) | (simp only [sizes]; omega)) _) | (refine Below.trans ?_ (Below.mono (by with_reducible assumption) (by first | exact Nat.le_refl _ | omega | (dsimp only; omega) | (simp only [sizes]; omega))))))
    · have hex : cpT S T j q = cpL S T j i ∧ cpC S T j q = (j : Int) + i := by
        unfold cpT cpC goodC
        rw [HVB.out, HN.out, Bool.true_and]
        by_cases h1 : 1 ≤ q
        · rw [decide_eq_true h1, if_pos rfl, if_pos rfl, Int.toNat_natCast, show (min q ((n : Int) - j)).toNat = i by omega]
          exact ⟨rfl, by omega⟩
        · rw [decide_eq_false h1, if_neg (by decide), if_neg (by decide)]
          have h0 : i = 0 := by omega
          subst h0
          exact ⟨rfl, by omega⟩
      have HEX := Lib.hid hex; clear hex
      go_wp2_with fail
      refine bodyPost_ret (v := .agg #[.slice (some ⟨b1', off, none⟩) n ca, .slice (some ⟨g', 0, none⟩) m k2, .int .i64 ((j : Int) + i)]) (by simp [results, Try.results18, go_sem, y0, y1, y2]) rfl ?_
      rw [HEX.out.1, HEX.out.2]
      exact retRow (HA.out.below (by repeat (first | with_reducible exact Below.refl _ _ | with_reducible refine Below.drew ?_ | (with_reducible refine Below.alloc ?_ (by first | exact Nat.le_refl _ | omega | (dsimp only; omega) | (simp only [sizes]; omega)) _) | (with_reducible refine Below.setCell ?_ (by first | exact Nat.le_refl _ | omega | (dsimp only; omega) | (simp only [sizes]; omega)) _) | (refine Below.trans ?_ (Below.mono (by with_reducible assumption) (by first | exact Nat.le_refl _ | omega | (dsimp only; omega) | (simp only [sizes]; omega))))))) (OwnEnc.row (base := w1.heap.size) (e := 9) (by have h4 := OwnEnc.raw (HO.out); refine OwnEnc.of ?_; repeat (first | with_reducible exact h4 | (with_reducible refine World.ownsRow.alloc ?_ _) | (with_reducible refine owns_set_ne ?_ (own_gt h4 (by omega)) _) | (with_reducible refine owns_set_ne ?_ (own_ne (by omega)) _)))) (by repeat (first | with_reducible exact Below.refl _ _ | with_reducible refine Below.drew ?_ | (with_reducible refine Below.alloc ?_ (by first | exact Nat.le_refl _ | omega | (dsimp only; omega) | (simp only [sizes]; omega)) _) | (with_reducible refine Below.setCell ?_ (by first | exact Nat.le_refl _ | omega | (dsimp only; omega) | (simp only [sizes]; omega)) _) | (refine Below.trans ?_ (Below.mono (by with_reducible assumption) (by first | exact Nat.le_refl _ | omega | (dsimp only; omega) | (simp only [sizes]; omega))))))
end Go.Proofs.Ytfomfokgibijjaa
