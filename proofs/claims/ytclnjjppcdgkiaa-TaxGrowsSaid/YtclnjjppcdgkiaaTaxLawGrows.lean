/-
  The law on one frame more: it goes to exactly one guest, unless all limits are reached; walked.
-/
import Derived.Test.YtclnjjppcdgkiaaTaxLawDivides
namespace Go.Proofs.Ytclnjjppcdgkiaa
open Go.RowKit

def gainI (p q : List Int) (k : Nat) : Int := sumI (q.take k) - sumI (p.take k)
theorem gain_step {p q : List Int} {k : Nat} {x y : Int} (hx : p[k]? = some x) (hy : q[k]? = some y) : gainI p q (k + 1) = gainI p q k + y - x := by
  unfold gainI
  rw [sum_ints_take hx, sum_ints_take hy]; omega
structure GrowsOk (cs : List Clm) (p q : List Int) : Prop where
  plen : p.length = cs.length
  qlen : q.length = cs.length
  one : ∀ (i : Nat) (x y : Int), p[i]? = some x → q[i]? = some y → y = x ∨ y = x + 1
  bd : ∀ (i : Nat) (x : Int), p[i]? = some x → 0 ≤ x ∧ x ≤ 96
  gain : ∀ k, 0 ≤ gainI p q k ∧ gainI p q k ≤ 1
  room : gainI p q cs.length = 1 ↔ ∃ (i : Nat) (c : Clm) (f : Int), i < cs.length ∧ cs[i]? = some c ∧ p[i]? = some f ∧ f < c.l
theorem sum_set_take {p : List Int} {j k : Nat} {f : Int} (hf : p[j]? = some f) : sumI ((p.set j (f + 1)).take k) - sumI (p.take k) = if j < k then 1 else 0 := by
  rw [List.take_set]
  split
  · rename_i h
    rw [sumI_set (p.take k) j f (f + 1) (by rw [List.getElem?_take, if_pos h]; exact hf)]
    omega
  · rename_i h
    rw [List.set_eq_of_length_le (by rw [List.length_take]; omega)]
    omega
theorem grows_ok {cs : List Clm} {total t : Int} (h8 : cs.length ≤ 8) (hv : allV cs = true) (h0 : 0 ≤ total) (h1 : total ≤ 95) (ht : taxB t = true) (hg : goodT cs total t = true) :
    goodT cs (total + 1) t = true ∧ GrowsOk cs (targetsL cs total t) (targetsL cs (total + 1) t) := by
  obtain ⟨g1, g2, g3, g4⟩ := grows_law h8 hv h0 h1 ht hg
  refine ⟨g1, ?_⟩
  have gb := (((divides_law (cs := cs) (total := total) (t := t) h8 hv h0 (by omega) ht).2.2 hg).1.fine hv).2
  generalize targetsL cs total t = p at *
  generalize targetsL cs (total + 1) t = q at *
  rcases g4 with ⟨e, hfull⟩ | ⟨j, c, f, hc, hf, hlt, e⟩
  · subst e
    refine ⟨g2, g3, fun i x y hx hy => ?_, gb, fun k => ?_, ?_⟩
    · rw [hx] at hy; cases hy; exact .inl rfl
    · unfold gainI; omega
    · unfold gainI
      constructor
      · intro h; omega
      · rintro ⟨i, c, f, _, hc, hf, hlt⟩
        have := hfull i c f hc hf
        omega
  · subst e
    refine ⟨g2, g3, fun i x y hx hy => ?_, gb, fun k => ?_, ?_⟩
    · rw [List.getElem?_set] at hy
      split at hy
      · rename_i hij
        subst hij
        rw [hf] at hx; cases hx
        split at hy
        · simp at hy; omega
        · simp at hy
      · rw [hx] at hy; cases hy; exact .inl rfl
    · unfold gainI
      rw [sum_set_take hf]
      split <;> omega
    · unfold gainI
      rw [sum_set_take hf]
      constructor
      · intro _; exact ⟨j, c, f, lt_of_get hc, hc, hf, hlt⟩
      · intro _; rw [if_pos (lt_of_get hc)]

theorem grows_out (ao : Option Addr) (len cap : Nat) (total t : Int) (w : World) (h : 8 < len) (hl : len ≤ 9223372036854775807) : Calls Try.prog 10 #[.slice ao len cap, .int .i64 total, .int .i64 t] w (Ret w (.bool true)) := by
  go_enter Try.func10, Try.ntmps10
  go_wp2_with fail
  refine (awake_any _).mono ?_
  rintro e w1 ⟨rfl, hb1⟩
  obtain ⟨hc1, hf1⟩ := bcell hb1
  have hz1 := bsize hb1
  try simp only [sizes1] at hz1
  try simp only [sizes] at hc1 hf1
  go_wp2_with fail
  go_ret
  exact Ret.mk (by repeat (first | with_reducible exact Below.refl _ _ | with_reducible refine Below.drew ?_ | (with_reducible refine Below.alloc ?_ (by first | exact Nat.le_refl _ | omega | (simp only [sizes]; omega)) _) | (with_reducible refine Below.setCell ?_ (by first | exact Nat.le_refl _ | omega | (simp only [sizes]; omega)) _) | (refine Below.trans ?_ (Below.mono (by with_reducible assumption) (by first | exact Nat.le_refl _ | omega | (simp only [sizes]; omega))))))

set_option maxRecDepth 100000 in
set_option maxHeartbeats 4000000 in
theorem grows_in (va : Value) (xs : List Int) (T X : Int) (w : World) (ha : IntRow w va xs) (h : xs.length ≤ 8) (hT : -9223372036854775808 ≤ T ∧ T ≤ 9223372036854775807) (hX : -9223372036854775808 ≤ X ∧ X ≤ 9223372036854775807) :
    Calls Try.prog 10 #[va, .int .i64 T, .int .i64 X] w (Ret w (.bool true)) := by
  have hrow := ha
  obtain ⟨ao, ca, rfl, a1, a2, a3⟩ := ha.out
  unfold maxLen at a2
  obtain ⟨n, hn⟩ : ∃ n, xs.length = n := ⟨_, rfl⟩
  rw [hn] at h hrow a1 ⊢
  clear ha a3
  obtain ⟨cs, hcs⟩ : ∃ cs, claimL xs = cs := ⟨_, rfl⟩
  have hv := claimL_allV xs
  have hlen : cs.length = n := by rw [← hcs, ← hn]; simp [claimL]
  rw [hcs] at hv
  have htx := tax_mod X
  obtain ⟨t, hu⟩ : ∃ t, X % 100 = t := ⟨_, rfl⟩
  obtain ⟨total, hto⟩ : ∃ total, T % 96 = total := ⟨_, rfl⟩
  have htb : 0 ≤ total ∧ total ≤ 95 := by omega
  rw [hu] at htx
  have L := grows_ok (cs := cs) (total := total) (t := t) (by omega) hv htb.1 htb.2 htx
  have L2 := (divides_law (cs := cs) (total := total) (t := t) (by omega) hv htb.1 (by omega) htx).2.1
  have HL := Lib.hid L; clear L
  have HL2 := Lib.hid L2; clear L2
  have HU := Lib.hid hu; clear hu
  have HT := Lib.hid hto; clear hto
  clear htx
  have HV := Lib.hid hv; clear hv
  have HN := Lib.hid hn; clear hn
  have HCS := Lib.hid hcs; clear hcs
  have HLEN := Lib.hid hlen; clear hlen
  have HROW := Lib.hid hrow; clear hrow
  go_enter Try.func10, Try.ntmps10
  go_wp2_with fail
  refine (claims_any _ xs _ HROW.out (by rw [HN.out]; omega)).mono ?_
  rw [HCS.out]
  rintro e w1 ⟨v1, rfl, hr1, hb1⟩
  have hz1 := bsize hb1
  have hr1' := hr1
  obtain ⟨ao1, ca1, rfl, c1, c2, c3⟩ := hr1.out
  rw [HLEN.out] at c1 c3 hr1' ⊢
  clear hr1
  unfold maxLen at c2
  have HR1 := Lib.hid hr1'; clear hr1'
  go_wp2_with fail
  refine (round_any _ _ _ hT (by omega) (by omega)).mono ?_
  rw [HT.out]
  rintro e w2 ⟨rfl, hb2⟩
  obtain ⟨hc2, hf2⟩ := bcell hb2
  have hz2 := bsize hb2
  try simp only [sizes1] at hz2
  try simp only [sizes] at hc2 hf2
  go_wp2_with fail
  refine (round_any _ _ _ hX (by omega) (by omega)).mono ?_
  rw [HU.out]
  rintro e w3 ⟨rfl, hb3⟩
  obtain ⟨hc3, hf3⟩ := bcell hb3
  have hz3 := bsize hb3
  try simp only [sizes1] at hz3
  try simp only [sizes] at hc3 hf3
  go_wp2_with fail
  refine (idletax_Targets_any _ cs _ _ _ ((HR1.out.below' hb2).below' hb3)).mono ?_
  rintro e w4 ⟨v4, rfl, hr4, hb4⟩
  have hz4 := bsize hb4
  clear hc2 hf2 hc3 hf3
  go_wp2_with fail
  refine (idletax_Targets_any _ cs _ _ _ (((HR1.out.below' hb2).below' hb3).below' hb4)).mono ?_
  rintro e w5 ⟨v5, rfl, hr5, hb5⟩
  have hz5 := bsize hb5
  have hr4' := hr4.below hb5
  have hb15 : Below w1.heap.size w1 w5 := (by repeat (first | with_reducible exact Below.refl _ _ | with_reducible refine Below.drew ?_ | (with_reducible refine Below.alloc ?_ (by first | exact Nat.le_refl _ | omega | (simp only [sizes]; omega)) _) | (with_reducible refine Below.setCell ?_ (by first | exact Nat.le_refl _ | omega | (simp only [sizes]; omega)) _) | (refine Below.trans ?_ (Below.mono (by with_reducible assumption) (by first | exact Nat.le_refl _ | omega | (simp only [sizes]; omega))))))
  clear hb2 hb3 hb4 hb5 hr4
  obtain ⟨fp, hfp⟩ : ∃ fp, targetsL cs total t = fp := ⟨_, rfl⟩
  obtain ⟨fq, hfq⟩ : ∃ fq, targetsL cs (total + 1) t = fq := ⟨_, rfl⟩
  rw [hfp] at hr4'
  rw [hfq] at hr5
  have HFP := Lib.hid hfp; clear hfp
  have HFQ := Lib.hid hfq; clear hfq
  obtain ⟨ao4, ca4, rfl, d1, d2, d3⟩ := hr4'.out
  obtain ⟨ao5, ca5, rfl, e1, e2, e3⟩ := hr5.out
  unfold maxLen at d2 e2
  clear hr4' hr5
  cases hg : goodT cs total t
  · have hp0 : fp.length = 0 := by rw [← HFP.out, HL2.out hg]; rfl
    rw [hp0] at d1 d3 ⊢
    generalize goodT cs (total + 1) t = g2
    clear hg hp0
    go_wp2_with fail
    refine (awake_any _).mono ?_
    rintro e w6 ⟨rfl, hb6⟩
    go_wp2_with fail
    go_ret
    exact Ret.mk (by repeat (first | with_reducible exact Below.refl _ _ | with_reducible refine Below.drew ?_ | (with_reducible refine Below.alloc ?_ (by first | exact Nat.le_refl _ | omega | (simp only [sizes]; omega)) _) | (with_reducible refine Below.setCell ?_ (by first | exact Nat.le_refl _ | omega | (simp only [sizes]; omega)) _) | (refine Below.trans ?_ (Below.mono (by with_reducible assumption) (by first | exact Nat.le_refl _ | omega | (simp only [sizes]; omega))))))
  · obtain ⟨hg2, hok⟩ := HL.out hg
    rw [hg2]
    rw [HFP.out, HFQ.out] at hok
    rw [hok.plen, HLEN.out] at d1 d3 ⊢
    rw [hok.qlen, HLEN.out] at e1 e3 ⊢
    have HO := Lib.hid hok; clear hok hg hg2
    have hne : ((n : Int) != n) = false := by simp
    go_wp2_with fail
    go_loopw [12, 13, 14] (fun a rm i wr => ∃ k : Nat, k ≤ n ∧ i = .int .i64 k ∧ (∃ g : Int, a = .int .i64 g ∧ Hid (g = gainI fp fq k) ∧ 0 ≤ g ∧ g ≤ 1) ∧ (∃ rb : Bool, rm = .bool rb ∧ Hid (rb = true ↔ ∃ (i : Nat) (c : Clm) (f : Int), i < k ∧ cs[i]? = some c ∧ fp[i]? = some f ∧ f < c.l)) ∧ Below w5.heap.size w5 wr) (fun _ _ i _ => n - (intOf i).toNat)
    case atStart => exact ⟨0, Nat.zero_le _, rfl, ⟨0, rfl, by unfold Hid gainI; simp [sumI], by omega, by omega⟩, ⟨false, rfl, by unfold Hid; simp⟩, Below.refl _ _⟩
    case round =>
      obtain ⟨k, hk, rfl, ⟨g, rfl, HG, g1, g2⟩, ⟨rb, rfl, HRB⟩, hbw⟩ := hrel
      have hb1r : Below w1.heap.size w1 wr := hb15.trans (hbw.mono hb15.size)
      have hbs0 := hb1r.size
      have hbs5 := hbw.size
      by_cases hlt : k < n
      · obtain ⟨⟨r, l, s, p, a⟩, hx⟩ := get_lt (xs := cs) (k := k) (by rw [HLEN.out]; exact hlt)
        obtain ⟨x, hy⟩ := get_lt (xs := fp) (k := k) (by rw [HO.out.plen, HLEN.out]; exact hlt)
        obtain ⟨y, hz⟩ := get_lt (xs := fq) (k := k) (by rw [HO.out.qlen, HLEN.out]; exact hlt)
        obtain ⟨b, off, rfl, hbs, hbc⟩ := c3.resolve_left (by omega)
        obtain ⟨b4, off4, rfl, hbs4, hbc4⟩ := d3.resolve_left (by omega)
        obtain ⟨b5, off5, rfl, hbs5', hbc5⟩ := e3.resolve_left (by omega)
        obtain ⟨d0', d1', d2', d3', d4'⟩ := hbc k _ hx
        dsimp only at d0' d1' d2' d3' d4'
        have d0 := (hb1r.cell (p := ⟨b, off + k * 5, none⟩) hbs).trans d0'
        have d1 := (hb1r.cell (p := ⟨b, off + k * 5 + 1, none⟩) hbs).trans d1'
        have d2 := (hb1r.cell (p := ⟨b, off + k * 5 + 2, none⟩) hbs).trans d2'
        have d3 := (hb1r.cell (p := ⟨b, off + k * 5 + 3, none⟩) hbs).trans d3'
        have d4 := (hb1r.cell (p := ⟨b, off + k * 5 + 4, none⟩) hbs).trans d4'
        clear d0' d1' d2' d3' d4'
        have x4 := (hbw.cell (p := ⟨b4, off4 + k, none⟩) hbs4).trans (hbc4 k x hy)
        have x5 := (hbw.cell (p := ⟨b5, off5 + k, none⟩) hbs5').trans (hbc5 k y hz)
        have hone := HO.out.one k x y hy hz
        have hgs := HO.out.gain (k + 1)
        rw [gain_step hy hz, ← HG.out] at hgs
        have HX := Lib.hid hx; clear hx c3 hbc
        have HY := Lib.hid hy; clear hy d3 hbc4
        have HZ := Lib.hid hz; clear hz e3 hbc5
        have hxb := HO.out.bd k x HY.out
        have s1 : b < wr.heap.size := by omega
        have s4 : b4 < wr.heap.size := by omega
        have s5 : b5 < wr.heap.size := by omega
        rcases hone with hone | hone
        · have hone' := hone.symm
          subst hone'
          clear hone
          have n1 : (x != x) = false := by simp
          cases rb
          · by_cases hroom : x < l
            · have hd : decide (x < l) = true := decide_eq_true hroom
              go_wp2_with fail
              refine wp_region_quiet_below (by kernel_rfl) (by kernel_rfl) ?_
              repeat (go_big_quiet_step (first | fail | fail))
              refine wpQuiet_nil ?_
              intro w6 hw6
              have hb6 := below_of_regrown hw6
              clear hw6
              obtain ⟨hc6, hf6⟩ := bcell hb6
              have hz6 := bsize hb6
              try simp only [sizes1] at hz6
              try simp only [sizes] at hc6 hf6
              have u4 : b4 < w6.heap.size := by omega
              have u5 : b5 < w6.heap.size := by omega
              have u1 : b < w6.heap.size := by omega
              go_wp2_with fail
              refine wp_region_quiet_below (by kernel_rfl) (by kernel_rfl) ?_
              repeat (go_big_quiet_step (first | fail | fail))
              refine wpQuiet_nil ?_
              intro w7 hw7
              have hb7 := below_of_regrown hw7
              clear hw7
              obtain ⟨hc7, hf7⟩ := bcell hb7
              have hz7 := bsize hb7
              try simp only [sizes1] at hz7
              try simp only [sizes] at hc7 hf7
              have y4 : b4 < w7.heap.size := by omega
              have y5 : b5 < w7.heap.size := by omega
              have y1 : b < w7.heap.size := by omega
              go_wp2_with fail
              refine wp_region_quiet_below (by kernel_rfl) (by kernel_rfl) ?_
              repeat (go_big_quiet_step (first | fail | fail))
              refine wpQuiet_nil ?_
              intro w8 hw8
              have hb8 := below_of_regrown hw8
              clear hw8
              obtain ⟨hc8, hf8⟩ := bcell hb8
              have hz8 := bsize hb8
              try simp only [sizes1] at hz8
              try simp only [sizes] at hc8 hf8
              go_wp2_with fail
              go_roundw
              case rel => exact ⟨k + 1, by omega, by go_num, ⟨_, rfl, (by unfold Hid; rw [gain_step HY.out HZ.out, HG.out]; try omega), by omega, by omega⟩, ⟨true, rfl, ⟨fun _ => ⟨k, _, x, by omega, HX.out, HY.out, hroom⟩, fun _ => rfl⟩⟩, ((hbw.trans (hb6.mono hbs5)).trans (hb7.mono (by omega))).trans (hb8.mono (by omega))⟩
              case measure => simp [intOf]; omega
            · have hd : decide (x < l) = false := decide_eq_false hroom
              go_wp2_with fail
              refine wp_region_quiet_below (by kernel_rfl) (by kernel_rfl) ?_
              repeat (go_big_quiet_step (first | fail | fail))
              refine wpQuiet_nil ?_
              intro w6 hw6
              have hb6 := below_of_regrown hw6
              clear hw6
              obtain ⟨hc6, hf6⟩ := bcell hb6
              have hz6 := bsize hb6
              try simp only [sizes1] at hz6
              try simp only [sizes] at hc6 hf6
              have u4 : b4 < w6.heap.size := by omega
              have u5 : b5 < w6.heap.size := by omega
              have u1 : b < w6.heap.size := by omega
              go_wp2_with fail
              refine wp_region_quiet_below (by kernel_rfl) (by kernel_rfl) ?_
              repeat (go_big_quiet_step (first | fail | fail))
              refine wpQuiet_nil ?_
              intro w7 hw7
              have hb7 := below_of_regrown hw7
              clear hw7
              obtain ⟨hc7, hf7⟩ := bcell hb7
              have hz7 := bsize hb7
              try simp only [sizes1] at hz7
              try simp only [sizes] at hc7 hf7
              have y4 : b4 < w7.heap.size := by omega
              have y5 : b5 < w7.heap.size := by omega
              have y1 : b < w7.heap.size := by omega
              go_wp2_with fail
              refine wp_region_quiet_below (by kernel_rfl) (by kernel_rfl) ?_
              repeat (go_big_quiet_step (first | fail | fail))
              refine wpQuiet_nil ?_
              intro w8 hw8
              have hb8 := below_of_regrown hw8
              clear hw8
              obtain ⟨hc8, hf8⟩ := bcell hb8
              have hz8 := bsize hb8
              try simp only [sizes1] at hz8
              try simp only [sizes] at hc8 hf8
              go_wp2_with fail
              go_roundw
              case rel => exact ⟨k + 1, by omega, by go_num, ⟨_, rfl, (by unfold Hid; rw [gain_step HY.out HZ.out, HG.out]; try omega), by omega, by omega⟩, ⟨false, rfl, ⟨fun h => (by cases h), fun ⟨i, c, f, h1, h2, h3, h4⟩ => (by
                              by_cases e : i = k
                              · subst e
                                rw [HX.out] at h2; cases h2
                                rw [HY.out] at h3; cases h3
                                exact absurd h4 (show ¬ x < l by omega)
                              · exact HRB.out.2 ⟨i, c, f, by omega, h2, h3, h4⟩)⟩⟩, ((hbw.trans (hb6.mono hbs5)).trans (hb7.mono (by omega))).trans (hb8.mono (by omega))⟩
              case measure => simp [intOf]; omega
          ·
            go_wp2_with fail
            refine wp_region_quiet_below (by kernel_rfl) (by kernel_rfl) ?_
            repeat (go_big_quiet_step (first | fail | fail))
            refine wpQuiet_nil ?_
            intro w6 hw6
            have hb6 := below_of_regrown hw6
            clear hw6
            obtain ⟨hc6, hf6⟩ := bcell hb6
            have hz6 := bsize hb6
            try simp only [sizes1] at hz6
            try simp only [sizes] at hc6 hf6
            have u4 : b4 < w6.heap.size := by omega
            have u5 : b5 < w6.heap.size := by omega
            have u1 : b < w6.heap.size := by omega
            go_wp2_with fail
            refine wp_region_quiet_below (by kernel_rfl) (by kernel_rfl) ?_
            repeat (go_big_quiet_step (first | fail | fail))
            refine wpQuiet_nil ?_
            intro w7 hw7
            have hb7 := below_of_regrown hw7
            clear hw7
            obtain ⟨hc7, hf7⟩ := bcell hb7
            have hz7 := bsize hb7
            try simp only [sizes1] at hz7
            try simp only [sizes] at hc7 hf7
            have y4 : b4 < w7.heap.size := by omega
            have y5 : b5 < w7.heap.size := by omega
            have y1 : b < w7.heap.size := by omega
            go_wp2_with fail
            refine wp_region_quiet_below (by kernel_rfl) (by kernel_rfl) ?_
            repeat (go_big_quiet_step (first | fail | fail))
            refine wpQuiet_nil ?_
            intro w8 hw8
            have hb8 := below_of_regrown hw8
            clear hw8
            obtain ⟨hc8, hf8⟩ := bcell hb8
            have hz8 := bsize hb8
            try simp only [sizes1] at hz8
            try simp only [sizes] at hc8 hf8
            go_wp2_with fail
            go_roundw
            case rel => exact ⟨k + 1, by omega, by go_num, ⟨_, rfl, (by unfold Hid; rw [gain_step HY.out HZ.out, HG.out]; try omega), by omega, by omega⟩, ⟨true, rfl, ⟨fun _ => (by obtain ⟨i, c, f, h1, h2⟩ := HRB.out.1 (by first | rfl | trivial); exact ⟨i, c, f, by omega, h2⟩), fun _ => rfl⟩⟩, ((hbw.trans (hb6.mono hbs5)).trans (hb7.mono (by omega))).trans (hb8.mono (by omega))⟩
            case measure => simp [intOf]; omega
        · subst hone
          have n1 : (x + 1 != x) = true := by rw [bne_iff_ne]; omega
          have n2 : (x + 1 != x + 1) = false := by simp
          cases rb
          · by_cases hroom : x < l
            · have hd : decide (x < l) = true := decide_eq_true hroom
              go_wp2_with fail
              refine wp_region_quiet_below (by kernel_rfl) (by kernel_rfl) ?_
              repeat (go_big_quiet_step (first | fail | fail))
              refine wpQuiet_nil ?_
              intro w6 hw6
              have hb6 := below_of_regrown hw6
              clear hw6
              obtain ⟨hc6, hf6⟩ := bcell hb6
              have hz6 := bsize hb6
              try simp only [sizes1] at hz6
              try simp only [sizes] at hc6 hf6
              have u4 : b4 < w6.heap.size := by omega
              have u5 : b5 < w6.heap.size := by omega
              have u1 : b < w6.heap.size := by omega
              go_wp2_with fail
              refine wp_region_quiet_below (by kernel_rfl) (by kernel_rfl) ?_
              repeat (go_big_quiet_step (first | fail | fail))
              refine wpQuiet_nil ?_
              intro w7 hw7
              have hb7 := below_of_regrown hw7
              clear hw7
              obtain ⟨hc7, hf7⟩ := bcell hb7
              have hz7 := bsize hb7
              try simp only [sizes1] at hz7
              try simp only [sizes] at hc7 hf7
              have y4 : b4 < w7.heap.size := by omega
              have y5 : b5 < w7.heap.size := by omega
              have y1 : b < w7.heap.size := by omega
              go_wp2_with fail
              refine wp_region_quiet_below (by kernel_rfl) (by kernel_rfl) ?_
              repeat (go_big_quiet_step (first | fail | fail))
              refine wpQuiet_nil ?_
              intro w8 hw8
              have hb8 := below_of_regrown hw8
              clear hw8
              obtain ⟨hc8, hf8⟩ := bcell hb8
              have hz8 := bsize hb8
              try simp only [sizes1] at hz8
              try simp only [sizes] at hc8 hf8
              go_wp2_with fail
              go_roundw
              case rel => exact ⟨k + 1, by omega, by go_num, ⟨_, rfl, (by unfold Hid; rw [gain_step HY.out HZ.out, HG.out]; try omega), by omega, by omega⟩, ⟨true, rfl, ⟨fun _ => ⟨k, _, x, by omega, HX.out, HY.out, hroom⟩, fun _ => rfl⟩⟩, ((hbw.trans (hb6.mono hbs5)).trans (hb7.mono (by omega))).trans (hb8.mono (by omega))⟩
              case measure => simp [intOf]; omega
            · have hd : decide (x < l) = false := decide_eq_false hroom
              go_wp2_with fail
              refine wp_region_quiet_below (by kernel_rfl) (by kernel_rfl) ?_
              repeat (go_big_quiet_step (first | fail | fail))
              refine wpQuiet_nil ?_
              intro w6 hw6
              have hb6 := below_of_regrown hw6
              clear hw6
              obtain ⟨hc6, hf6⟩ := bcell hb6
              have hz6 := bsize hb6
              try simp only [sizes1] at hz6
              try simp only [sizes] at hc6 hf6
              have u4 : b4 < w6.heap.size := by omega
              have u5 : b5 < w6.heap.size := by omega
              have u1 : b < w6.heap.size := by omega
              go_wp2_with fail
              refine wp_region_quiet_below (by kernel_rfl) (by kernel_rfl) ?_
              repeat (go_big_quiet_step (first | fail | fail))
              refine wpQuiet_nil ?_
              intro w7 hw7
              have hb7 := below_of_regrown hw7
              clear hw7
              obtain ⟨hc7, hf7⟩ := bcell hb7
              have hz7 := bsize hb7
              try simp only [sizes1] at hz7
              try simp only [sizes] at hc7 hf7
              have y4 : b4 < w7.heap.size := by omega
              have y5 : b5 < w7.heap.size := by omega
              have y1 : b < w7.heap.size := by omega
              go_wp2_with fail
              refine wp_region_quiet_below (by kernel_rfl) (by kernel_rfl) ?_
              repeat (go_big_quiet_step (first | fail | fail))
              refine wpQuiet_nil ?_
              intro w8 hw8
              have hb8 := below_of_regrown hw8
              clear hw8
              obtain ⟨hc8, hf8⟩ := bcell hb8
              have hz8 := bsize hb8
              try simp only [sizes1] at hz8
              try simp only [sizes] at hc8 hf8
              go_wp2_with fail
              go_roundw
              case rel => exact ⟨k + 1, by omega, by go_num, ⟨_, rfl, (by unfold Hid; rw [gain_step HY.out HZ.out, HG.out]; try omega), by omega, by omega⟩, ⟨false, rfl, ⟨fun h => (by cases h), fun ⟨i, c, f, h1, h2, h3, h4⟩ => (by
                              by_cases e : i = k
                              · subst e
                                rw [HX.out] at h2; cases h2
                                rw [HY.out] at h3; cases h3
                                exact absurd h4 (show ¬ x < l by omega)
                              · exact HRB.out.2 ⟨i, c, f, by omega, h2, h3, h4⟩)⟩⟩, ((hbw.trans (hb6.mono hbs5)).trans (hb7.mono (by omega))).trans (hb8.mono (by omega))⟩
              case measure => simp [intOf]; omega
          ·
            go_wp2_with fail
            refine wp_region_quiet_below (by kernel_rfl) (by kernel_rfl) ?_
            repeat (go_big_quiet_step (first | fail | fail))
            refine wpQuiet_nil ?_
            intro w6 hw6
            have hb6 := below_of_regrown hw6
            clear hw6
            obtain ⟨hc6, hf6⟩ := bcell hb6
            have hz6 := bsize hb6
            try simp only [sizes1] at hz6
            try simp only [sizes] at hc6 hf6
            have u4 : b4 < w6.heap.size := by omega
            have u5 : b5 < w6.heap.size := by omega
            have u1 : b < w6.heap.size := by omega
            go_wp2_with fail
            refine wp_region_quiet_below (by kernel_rfl) (by kernel_rfl) ?_
            repeat (go_big_quiet_step (first | fail | fail))
            refine wpQuiet_nil ?_
            intro w7 hw7
            have hb7 := below_of_regrown hw7
            clear hw7
            obtain ⟨hc7, hf7⟩ := bcell hb7
            have hz7 := bsize hb7
            try simp only [sizes1] at hz7
            try simp only [sizes] at hc7 hf7
            have y4 : b4 < w7.heap.size := by omega
            have y5 : b5 < w7.heap.size := by omega
            have y1 : b < w7.heap.size := by omega
            go_wp2_with fail
            refine wp_region_quiet_below (by kernel_rfl) (by kernel_rfl) ?_
            repeat (go_big_quiet_step (first | fail | fail))
            refine wpQuiet_nil ?_
            intro w8 hw8
            have hb8 := below_of_regrown hw8
            clear hw8
            obtain ⟨hc8, hf8⟩ := bcell hb8
            have hz8 := bsize hb8
            try simp only [sizes1] at hz8
            try simp only [sizes] at hc8 hf8
            go_wp2_with fail
            go_roundw
            case rel => exact ⟨k + 1, by omega, by go_num, ⟨_, rfl, (by unfold Hid; rw [gain_step HY.out HZ.out, HG.out]; try omega), by omega, by omega⟩, ⟨true, rfl, ⟨fun _ => (by obtain ⟨i, c, f, h1, h2⟩ := HRB.out.1 (by first | rfl | trivial); exact ⟨i, c, f, by omega, h2⟩), fun _ => rfl⟩⟩, ((hbw.trans (hb6.mono hbs5)).trans (hb7.mono (by omega))).trans (hb8.mono (by omega))⟩
            case measure => simp [intOf]; omega
      · obtain rfl : k = n := by omega
        have hfin := HO.out.room
        rw [HLEN.out, ← HG.out] at hfin
        have hbwr : Below w.heap.size w wr := hb1.trans (hb1r.mono hb1.size)
        clear hb1r hb15 hbw
        have hgr : (g == 1) = rb := by
          rw [Bool.eq_iff_iff, beq_iff_eq]
          exact hfin.trans HRB.out.symm
        clear hfin
        have HGR := Lib.hid hgr; clear hgr
        rcases (show g = 0 ∨ g = 1 from by omega) with rfl | rfl
        · obtain rfl : rb = false := HGR.out.symm
          go_wp2_with fail
          refine (awake_any _).mono ?_
          rintro e w6 ⟨rfl, hb6⟩
          go_wp2_with fail
          go_ret
          exact Ret.mk (hbwr.trans (hb6.mono hbwr.size))
        · obtain rfl : rb = true := HGR.out.symm
          go_wp2_with fail
          refine (awake_any _).mono ?_
          rintro e w6 ⟨rfl, hb6⟩
          go_wp2_with fail
          go_ret
          exact Ret.mk (hbwr.trans (hb6.mono hbwr.size))
end Go.Proofs.Ytclnjjppcdgkiaa
