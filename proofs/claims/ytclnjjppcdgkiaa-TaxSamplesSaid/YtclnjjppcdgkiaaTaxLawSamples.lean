/-
  The law on samples, walked.
-/
import Derived.Test.YtclnjjppcdgkiaaTaxSample
import Derived.Test.YtclnjjppcdgkiaaTaxLawVictim
import Derived.RegionTactic
import Derived.BigRegion
namespace Go.Proofs.Ytclnjjppcdgkiaa
open Go.RowKit

theorem samples_law {seed pages n : Int} (hs : U64 seed) (h1 : 1 ≤ pages) (h2 : pages ≤ 32) (h3 : 1 ≤ n) :
    ∃ m : Nat, (m : Int) = min n pages ∧ 1 ≤ m ∧ m ≤ 32 ∧ (sampleL seed pages n).length = m ∧ (∀ x ∈ sampleL seed pages n, 0 ≤ x ∧ x < pages) ∧ (sampleL seed pages n).Nodup := by
  have hm : ((min n pages).toNat : Int) = min n pages := by omega
  have hle : (min n pages).toNat ≤ pages.toNat := by omega
  have ok := samOk pages.toNat seed hs (min n pages).toNat hle
  have hb : ¬ badSam pages n = true := by unfold badSam; rw [decide_eq_true_iff]; omega
  refine ⟨(min n pages).toNat, hm, by omega, by omega, ?_⟩
  unfold sampleL
  rw [if_neg hb]
  refine ⟨ok.olen, fun x hx => ?_, ok.nodup⟩
  have := ok.range x hx
  omega
theorem estimate_law {old u m e s : Int} (h1 : 1 ≤ m) (h2 : m ≤ 32) (h3 : 0 ≤ u) (h4 : u ≤ m) (h5 : 0 ≤ old) (h6 : old ≤ 1000) (he : estimateI old u m = e) (hs : u * 1000 / m = s) :
    (old ≤ s → e = s) ∧ (s < old → s ≤ e ∧ e < old) := by
  unfold estimateI at he
  rw [if_neg (by omega), hs] at he
  by_cases h : old < s
  · rw [if_pos h] at he; omega
  · rw [if_neg h] at he; omega

set_option maxRecDepth 100000 in
set_option maxHeartbeats 4000000 in
theorem samples_bad (seed pages n old used : Int) (w : World) (h : pages < 1 ∨ 32 < pages ∨ n < 1 ∨ 60 < n ∨ old < 0 ∨ 1000 < old) :
    Calls Try.prog 9 #[.int .u64 seed, .int .i64 pages, .int .i64 n, .int .i64 old, .int .i64 used] w (Ret w (.bool true)) := by
  have pick : pages < 1 ∨ (1 ≤ pages ∧ 32 < pages) ∨ (1 ≤ pages ∧ pages ≤ 32 ∧ n < 1) ∨ (1 ≤ pages ∧ pages ≤ 32 ∧ 1 ≤ n ∧ 60 < n) ∨ (1 ≤ pages ∧ pages ≤ 32 ∧ 1 ≤ n ∧ n ≤ 60 ∧ old < 0) ∨ (1 ≤ pages ∧ pages ≤ 32 ∧ 1 ≤ n ∧ n ≤ 60 ∧ 0 ≤ old ∧ 1000 < old) := by omega
  clear h
  rcases pick with h | ⟨_, h⟩ | ⟨_, _, h⟩ | ⟨_, _, _, h⟩ | ⟨_, _, _, _, h⟩ | ⟨_, _, _, _, _, h⟩
  all_goals
    go_enter Try.func9, Try.ntmps9
    go_wp2_with fail
    refine (awake_any _).mono ?_
    rintro e w1 ⟨rfl, hb1⟩
    obtain ⟨hc1, hf1⟩ := bcell hb1
    have hz1 := bsize hb1
    try simp only [sizes1] at hz1
    try simp only [sizes] at hc1 hf1
    go_wp2_with fail
    go_ret
    exact Ret.mk (by repeat (first | with_reducible exact Below.refl _ _ | with_reducible refine Below.drew ?_ | (with_reducible refine Below.alloc ?_ (by first | exact Nat.le_refl _ | omega | (simp only [sizes]; omega)) _) | (with_reducible refine Below.setCell ?_ (by first | exact Nat.le_refl _ | omega | (simp only [sizes]; omega)) _) | (refine Below.trans ?_ (Below.mono (by with_reducible assumption) (by first | exact Nat.le_refl _ | omega | (simp only [sizes]; omega))))))

theorem nodup_at {xs : List Int} {i j : Nat} {x y : Int} (h : xs.Nodup) (hlt : j < i) (h1 : xs[i]? = some x) (h2 : xs[j]? = some y) : x ≠ y := by
  obtain ⟨a, ha⟩ := List.getElem?_eq_some_iff.1 h1
  obtain ⟨b, hb⟩ := List.getElem?_eq_some_iff.1 h2
  have := List.pairwise_iff_getElem.1 h j i b a hlt
  rw [ha, hb] at this
  exact this.symm
set_option maxRecDepth 100000 in
set_option maxHeartbeats 8000000 in
theorem samples_good (seed pages n old used : Int) (w : World) (hs : U64 seed) (h1 : 1 ≤ pages) (h2 : pages ≤ 32) (h3 : 1 ≤ n) (h4 : n ≤ 60) (h5 : 0 ≤ old) (h6 : old ≤ 1000) (hu : -9223372036854775808 ≤ used ∧ used ≤ 9223372036854775807) :
    Calls Try.prog 9 #[.int .u64 seed, .int .i64 pages, .int .i64 n, .int .i64 old, .int .i64 used] w (Ret w (.bool true)) := by
  obtain ⟨m, hm, m1, m2, hlen, hrange, hnd⟩ := samples_law hs h1 h2 h3
  obtain ⟨xs, hxs⟩ : ∃ xs, sampleL seed pages n = xs := ⟨_, rfl⟩
  obtain ⟨sd, hsd⟩ : ∃ s, sampleS seed pages n = s := ⟨_, rfl⟩
  rw [hxs] at hlen hrange hnd
  have S := fun w => idletax_Sample_any seed pages n w hs
  rw [hxs, hsd] at S
  have HS := Lib.hid S; clear S hxs hsd hs
  have HLEN := Lib.hid hlen; clear hlen
  have HRANGE := Lib.hid hrange; clear hrange
  have HND := Lib.hid hnd; clear hnd
  have u1 := Int.emod_nonneg used (show (m : Int) + 1 ≠ 0 by omega)
  have u2 := Int.emod_lt_of_pos used (show (0 : Int) < (m : Int) + 1 by omega)
  have R := fun w => round_any used ((m : Int) + 1) w hu (by omega) (by omega)
  obtain ⟨u, hu'⟩ : ∃ u, used % ((m : Int) + 1) = u := ⟨_, rfl⟩
  rw [hu'] at R u1 u2
  have HR := Lib.hid R; clear R hu'
  have s1 : 0 ≤ u * 1000 / m := Int.ediv_nonneg (by omega) (by omega)
  have s2 : u * 1000 / m ≤ 1000 := Int.ediv_le_of_le_mul (by omega) (by omega)
  have E := fun w => idletax_Estimate_any old u m w
  obtain ⟨e, he⟩ : ∃ e, estimateI old u m = e := ⟨_, rfl⟩
  obtain ⟨s, hss⟩ : ∃ s, u * 1000 / (m : Int) = s := ⟨_, rfl⟩
  have L := estimate_law (by omega) (by omega) u1 (by omega) h5 h6 he hss
  rw [he] at E
  rw [hss] at s1 s2
  have HE := Lib.hid E; clear E he
  have HSS := Lib.hid hss; clear hss
  have HL := Lib.hid L; clear L
  have hmz : ((m : Int) == 0) = false := by rw [beq_eq_false_iff_ne]; omega
  rcases (show n < pages ∨ pages < n ∨ n = pages by omega) with hle | hle | hle
  · have hmn : n = m := by omega
    subst hmn
    clear hm
    have c1 : decide (pages < 1) = false := decide_eq_false (by omega)
    have c2 : decide (32 < pages) = false := decide_eq_false (by omega)
    have c3 : decide ((m : Int) < 1) = false := decide_eq_false (by omega)
    have c4 : decide (60 < (m : Int)) = false := decide_eq_false (by omega)
    have c5 : decide (old < 0) = false := decide_eq_false (by omega)
    have c6 : decide (1000 < old) = false := decide_eq_false (by omega)
    go_enter Try.func9, Try.ntmps9
    go_wp2_with fail
    refine (HS.out _).mono ?_
    rintro _ w1 ⟨v1, rfl, hr1, hb1⟩
    have hz1 := bsize hb1
    go_wp2_with fail
    refine (HS.out _).mono ?_
    rintro _ w2 ⟨v2, rfl, hr2, hb2⟩
    have hr1' := hr1.below hb2
    have hz2 := bsize hb2
    have hb12 : Below w.heap.size w w2 := (by repeat (first | with_reducible exact Below.refl _ _ | with_reducible refine Below.drew ?_ | (with_reducible refine Below.alloc ?_ (by first | exact Nat.le_refl _ | omega | (simp only [sizes]; omega)) _) | (with_reducible refine Below.setCell ?_ (by first | exact Nat.le_refl _ | omega | (simp only [sizes]; omega)) _) | (refine Below.trans ?_ (Below.mono (by with_reducible assumption) (by first | exact Nat.le_refl _ | omega | (simp only [sizes]; omega))))))
    clear hr1 hb1 hb2 hz1 hz2
    have SI := fun hbw => (sameInts_any v1 v2 xs xs w2 hr1' hbw)
    obtain ⟨ao1, ca1, rfl, e1, e2, e3⟩ := hr1'.out
    unfold maxLen at e2
    rw [HLEN.out] at e1 e3 SI ⊢
    rw [decide_eq_true (rfl : xs = xs)] at SI
    have HSI := Lib.hid (SI hr2); clear SI hr1'
    go_wp2_with fail
    refine HSI.out.mono ?_
    rintro e w3 ⟨rfl, hb3⟩
    obtain ⟨hc3, hf3⟩ := bcell hb3
    have hz3 := bsize hb3
    try simp only [sizes1] at hz3
    try simp only [sizes] at hc3 hf3
    clear hc3 hf3
    have hb20 := hb12
    have hz20 := hb12.size
    clear hb12
    go_wp2_with fail
    go_loopw [15] (fun i wr => ∃ k : Nat, k ≤ m ∧ i = .int .i64 k ∧ Below w2.heap.size w2 wr) (fun i _ => m - (intOf i).toNat)
    case atStart => exact ⟨0, Nat.zero_le _, rfl, hb3⟩
    case round =>
      obtain ⟨i, hi, rfl, hbw⟩ := hrel
      by_cases hlt : i < m
      · obtain ⟨x, hx⟩ := get_lt (xs := xs) (k := i) (by rw [HLEN.out]; exact hlt)
        obtain ⟨b, off, rfl, hbs, hbc⟩ := e3.resolve_left (by omega)
        have xc := (hbw.cell (p := ⟨b, off + i, none⟩) hbs).trans (hbc i x hx)
        have hxr := HRANGE.out x (List.mem_of_getElem? hx)
        have HX := Lib.hid hx; clear hx e3
        have HBC := Lib.hid hbc; clear hbc
        obtain ⟨wo, rfl⟩ : ∃ wo : World, wo = wr := ⟨_, rfl⟩
        go_wp2_with fail
        go_loopw [16] (fun q wq => ∃ k : Nat, k ≤ i ∧ q = .int .i64 k ∧ Below w2.heap.size w2 wq) (fun q _ => i - (intOf q).toNat)
        case atStart => exact ⟨0, Nat.zero_le _, rfl, hbw⟩
        case round =>
          obtain ⟨k, hk, rfl, hbq⟩ := hrel
          clear hbw xc
          by_cases hlt2 : k < i
          · obtain ⟨y, hy⟩ := get_lt (xs := xs) (k := k) (by rw [HLEN.out]; omega)
            have xc := (hbq.cell (p := ⟨b, off + i, none⟩) hbs).trans (HBC.out i x HX.out)
            have yc := (hbq.cell (p := ⟨b, off + k, none⟩) hbs).trans (HBC.out k y hy)
            have hne : x ≠ y := nodup_at HND.out hlt2 HX.out hy
            have hxy : (x == y) = false := by rw [beq_eq_false_iff_ne]; exact hne
            have HY := Lib.hid hy; clear hy hne
            have hbsq := hbq.size
            have hbx : b < wr.heap.size := by omega
            go_wp2_with fail
            refine wp_region_quiet_below (by kernel_rfl) (by kernel_rfl) ?_
            repeat (go_big_quiet_step (first | fail | fail))
            refine wpQuiet_nil ?_
            intro w5 hw5
            have hb5 := below_of_regrown hw5
            clear hw5
            obtain ⟨hc5, hf5⟩ := bcell hb5
            have hz5 := bsize hb5
            try simp only [sizes1] at hz5
            try simp only [sizes] at hc5 hf5
            go_wp2_with fail
            go_roundw
            case rel => exact ⟨k + 1, by omega, by go_num, (by repeat (first | with_reducible exact Below.refl _ _ | with_reducible refine Below.drew ?_ | (with_reducible refine Below.alloc ?_ (by first | exact Nat.le_refl _ | omega | (simp only [sizes]; omega)) _) | (with_reducible refine Below.setCell ?_ (by first | exact Nat.le_refl _ | omega | (simp only [sizes]; omega)) _) | (refine Below.trans ?_ (Below.mono (by with_reducible assumption) (by first | exact Nat.le_refl _ | omega | (simp only [sizes]; omega))))))⟩
            case measure => simp [intOf]; omega
          · obtain rfl : k = i := by omega
            have hbsq := hbq.size
            go_wp2_with fail
            go_roundw
            case rel => exact ⟨k + 1, by omega, by go_num, (by repeat (first | with_reducible exact Below.refl _ _ | with_reducible refine Below.drew ?_ | (with_reducible refine Below.alloc ?_ (by first | exact Nat.le_refl _ | omega | (simp only [sizes]; omega)) _) | (with_reducible refine Below.setCell ?_ (by first | exact Nat.le_refl _ | omega | (simp only [sizes]; omega)) _) | (refine Below.trans ?_ (Below.mono (by with_reducible assumption) (by first | exact Nat.le_refl _ | omega | (simp only [sizes]; omega))))))⟩
            case measure => simp [intOf]; omega
      · obtain rfl : i = m := by omega
        have hbsw := hbw.size
        have hbwr : Below w.heap.size w wr := by
          exact hb20.trans (hbw.mono hz20)
        go_wp2_with fail
        refine (HR.out _).mono ?_
        rintro e w6 ⟨rfl, hb6⟩
        obtain ⟨hc6, hf6⟩ := bcell hb6
        have hz6 := bsize hb6
        try simp only [sizes1] at hz6
        try simp only [sizes] at hc6 hf6
        go_wp2_with fail
        refine (HE.out _).mono ?_
        rintro e w7 ⟨rfl, hb7⟩
        obtain ⟨hc7, hf7⟩ := bcell hb7
        have hz7 := bsize hb7
        try simp only [sizes1] at hz7
        try simp only [sizes] at hc7 hf7
        have hss' := HSS.out
        by_cases hos : old ≤ s
        · obtain rfl : e = s := HL.out.1 hos
          have hd : decide (old ≤ e) = true := decide_eq_true hos
          clear hc6 hf6 hc7 hf7
          go_wp2_with fail
          refine (awake_any _).mono ?_
          rintro _ w8 ⟨rfl, hb8⟩
          go_wp2_with fail
          go_ret
          exact Ret.mk (by repeat (first | with_reducible exact Below.refl _ _ | with_reducible refine Below.drew ?_ | (with_reducible refine Below.alloc ?_ (by first | exact Nat.le_refl _ | omega | (simp only [sizes]; omega)) _) | (with_reducible refine Below.setCell ?_ (by first | exact Nat.le_refl _ | omega | (simp only [sizes]; omega)) _) | (refine Below.trans ?_ (Below.mono (by with_reducible assumption) (by first | exact Nat.le_refl _ | omega | (simp only [sizes]; omega))))))
        · have hd : decide (old ≤ s) = false := decide_eq_false hos
          obtain ⟨l1, l2⟩ := HL.out.2 (by omega)
          have hd1 : decide (s ≤ e) = true := decide_eq_true l1
          have hd2 : decide (e < old) = true := decide_eq_true l2
          clear hc6 hf6 hc7 hf7
          go_wp2_with fail
          refine (awake_any _).mono ?_
          rintro _ w8 ⟨rfl, hb8⟩
          go_wp2_with fail
          go_ret
          exact Ret.mk (by repeat (first | with_reducible exact Below.refl _ _ | with_reducible refine Below.drew ?_ | (with_reducible refine Below.alloc ?_ (by first | exact Nat.le_refl _ | omega | (simp only [sizes]; omega)) _) | (with_reducible refine Below.setCell ?_ (by first | exact Nat.le_refl _ | omega | (simp only [sizes]; omega)) _) | (refine Below.trans ?_ (Below.mono (by with_reducible assumption) (by first | exact Nat.le_refl _ | omega | (simp only [sizes]; omega))))))
  · have hmn : pages = m := by omega
    subst hmn
    clear hm
    have c1 : decide ((m : Int) < 1) = false := decide_eq_false (by omega)
    have c2 : decide (32 < (m : Int)) = false := decide_eq_false (by omega)
    have c3 : decide (n < 1) = false := decide_eq_false (by omega)
    have c4 : decide (60 < n) = false := decide_eq_false (by omega)
    have c5 : decide (old < 0) = false := decide_eq_false (by omega)
    have c6 : decide (1000 < old) = false := decide_eq_false (by omega)
    go_enter Try.func9, Try.ntmps9
    go_wp2_with fail
    refine (HS.out _).mono ?_
    rintro _ w1 ⟨v1, rfl, hr1, hb1⟩
    have hz1 := bsize hb1
    go_wp2_with fail
    refine (HS.out _).mono ?_
    rintro _ w2 ⟨v2, rfl, hr2, hb2⟩
    have hr1' := hr1.below hb2
    have hz2 := bsize hb2
    have hb12 : Below w.heap.size w w2 := (by repeat (first | with_reducible exact Below.refl _ _ | with_reducible refine Below.drew ?_ | (with_reducible refine Below.alloc ?_ (by first | exact Nat.le_refl _ | omega | (simp only [sizes]; omega)) _) | (with_reducible refine Below.setCell ?_ (by first | exact Nat.le_refl _ | omega | (simp only [sizes]; omega)) _) | (refine Below.trans ?_ (Below.mono (by with_reducible assumption) (by first | exact Nat.le_refl _ | omega | (simp only [sizes]; omega))))))
    clear hr1 hb1 hb2 hz1 hz2
    have SI := fun hbw => (sameInts_any v1 v2 xs xs w2 hr1' hbw)
    obtain ⟨ao1, ca1, rfl, e1, e2, e3⟩ := hr1'.out
    unfold maxLen at e2
    rw [HLEN.out] at e1 e3 SI ⊢
    rw [decide_eq_true (rfl : xs = xs)] at SI
    have HSI := Lib.hid (SI hr2); clear SI hr1'
    go_wp2_with fail
    refine HSI.out.mono ?_
    rintro e w3 ⟨rfl, hb3⟩
    obtain ⟨hc3, hf3⟩ := bcell hb3
    have hz3 := bsize hb3
    try simp only [sizes1] at hz3
    try simp only [sizes] at hc3 hf3
    clear hc3 hf3
    have hb20 := hb12
    have hz20 := hb12.size
    clear hb12
    go_wp2_with fail
    go_loopw [15] (fun i wr => ∃ k : Nat, k ≤ m ∧ i = .int .i64 k ∧ Below w2.heap.size w2 wr) (fun i _ => m - (intOf i).toNat)
    case atStart => exact ⟨0, Nat.zero_le _, rfl, hb3⟩
    case round =>
      obtain ⟨i, hi, rfl, hbw⟩ := hrel
      by_cases hlt : i < m
      · obtain ⟨x, hx⟩ := get_lt (xs := xs) (k := i) (by rw [HLEN.out]; exact hlt)
        obtain ⟨b, off, rfl, hbs, hbc⟩ := e3.resolve_left (by omega)
        have xc := (hbw.cell (p := ⟨b, off + i, none⟩) hbs).trans (hbc i x hx)
        have hxr := HRANGE.out x (List.mem_of_getElem? hx)
        have HX := Lib.hid hx; clear hx e3
        have HBC := Lib.hid hbc; clear hbc
        obtain ⟨wo, rfl⟩ : ∃ wo : World, wo = wr := ⟨_, rfl⟩
        go_wp2_with fail
        go_loopw [16] (fun q wq => ∃ k : Nat, k ≤ i ∧ q = .int .i64 k ∧ Below w2.heap.size w2 wq) (fun q _ => i - (intOf q).toNat)
        case atStart => exact ⟨0, Nat.zero_le _, rfl, hbw⟩
        case round =>
          obtain ⟨k, hk, rfl, hbq⟩ := hrel
          clear hbw xc
          by_cases hlt2 : k < i
          · obtain ⟨y, hy⟩ := get_lt (xs := xs) (k := k) (by rw [HLEN.out]; omega)
            have xc := (hbq.cell (p := ⟨b, off + i, none⟩) hbs).trans (HBC.out i x HX.out)
            have yc := (hbq.cell (p := ⟨b, off + k, none⟩) hbs).trans (HBC.out k y hy)
            have hne : x ≠ y := nodup_at HND.out hlt2 HX.out hy
            have hxy : (x == y) = false := by rw [beq_eq_false_iff_ne]; exact hne
            have HY := Lib.hid hy; clear hy hne
            have hbsq := hbq.size
            have hbx : b < wr.heap.size := by omega
            go_wp2_with fail
            refine wp_region_quiet_below (by kernel_rfl) (by kernel_rfl) ?_
            repeat (go_big_quiet_step (first | fail | fail))
            refine wpQuiet_nil ?_
            intro w5 hw5
            have hb5 := below_of_regrown hw5
            clear hw5
            obtain ⟨hc5, hf5⟩ := bcell hb5
            have hz5 := bsize hb5
            try simp only [sizes1] at hz5
            try simp only [sizes] at hc5 hf5
            go_wp2_with fail
            go_roundw
            case rel => exact ⟨k + 1, by omega, by go_num, (by repeat (first | with_reducible exact Below.refl _ _ | with_reducible refine Below.drew ?_ | (with_reducible refine Below.alloc ?_ (by first | exact Nat.le_refl _ | omega | (simp only [sizes]; omega)) _) | (with_reducible refine Below.setCell ?_ (by first | exact Nat.le_refl _ | omega | (simp only [sizes]; omega)) _) | (refine Below.trans ?_ (Below.mono (by with_reducible assumption) (by first | exact Nat.le_refl _ | omega | (simp only [sizes]; omega))))))⟩
            case measure => simp [intOf]; omega
          · obtain rfl : k = i := by omega
            have hbsq := hbq.size
            go_wp2_with fail
            go_roundw
            case rel => exact ⟨k + 1, by omega, by go_num, (by repeat (first | with_reducible exact Below.refl _ _ | with_reducible refine Below.drew ?_ | (with_reducible refine Below.alloc ?_ (by first | exact Nat.le_refl _ | omega | (simp only [sizes]; omega)) _) | (with_reducible refine Below.setCell ?_ (by first | exact Nat.le_refl _ | omega | (simp only [sizes]; omega)) _) | (refine Below.trans ?_ (Below.mono (by with_reducible assumption) (by first | exact Nat.le_refl _ | omega | (simp only [sizes]; omega))))))⟩
            case measure => simp [intOf]; omega
      · obtain rfl : i = m := by omega
        have hbsw := hbw.size
        have hbwr : Below w.heap.size w wr := by
          exact hb20.trans (hbw.mono hz20)
        go_wp2_with fail
        refine (HR.out _).mono ?_
        rintro e w6 ⟨rfl, hb6⟩
        obtain ⟨hc6, hf6⟩ := bcell hb6
        have hz6 := bsize hb6
        try simp only [sizes1] at hz6
        try simp only [sizes] at hc6 hf6
        go_wp2_with fail
        refine (HE.out _).mono ?_
        rintro e w7 ⟨rfl, hb7⟩
        obtain ⟨hc7, hf7⟩ := bcell hb7
        have hz7 := bsize hb7
        try simp only [sizes1] at hz7
        try simp only [sizes] at hc7 hf7
        have hss' := HSS.out
        by_cases hos : old ≤ s
        · obtain rfl : e = s := HL.out.1 hos
          have hd : decide (old ≤ e) = true := decide_eq_true hos
          clear hc6 hf6 hc7 hf7
          go_wp2_with fail
          refine (awake_any _).mono ?_
          rintro _ w8 ⟨rfl, hb8⟩
          go_wp2_with fail
          go_ret
          exact Ret.mk (by repeat (first | with_reducible exact Below.refl _ _ | with_reducible refine Below.drew ?_ | (with_reducible refine Below.alloc ?_ (by first | exact Nat.le_refl _ | omega | (simp only [sizes]; omega)) _) | (with_reducible refine Below.setCell ?_ (by first | exact Nat.le_refl _ | omega | (simp only [sizes]; omega)) _) | (refine Below.trans ?_ (Below.mono (by with_reducible assumption) (by first | exact Nat.le_refl _ | omega | (simp only [sizes]; omega))))))
        · have hd : decide (old ≤ s) = false := decide_eq_false hos
          obtain ⟨l1, l2⟩ := HL.out.2 (by omega)
          have hd1 : decide (s ≤ e) = true := decide_eq_true l1
          have hd2 : decide (e < old) = true := decide_eq_true l2
          clear hc6 hf6 hc7 hf7
          go_wp2_with fail
          refine (awake_any _).mono ?_
          rintro _ w8 ⟨rfl, hb8⟩
          go_wp2_with fail
          go_ret
          exact Ret.mk (by repeat (first | with_reducible exact Below.refl _ _ | with_reducible refine Below.drew ?_ | (with_reducible refine Below.alloc ?_ (by first | exact Nat.le_refl _ | omega | (simp only [sizes]; omega)) _) | (with_reducible refine Below.setCell ?_ (by first | exact Nat.le_refl _ | omega | (simp only [sizes]; omega)) _) | (refine Below.trans ?_ (Below.mono (by with_reducible assumption) (by first | exact Nat.le_refl _ | omega | (simp only [sizes]; omega))))))
  · have hmn : pages = m := by omega
    have hmn' : n = m := by omega
    subst hmn
    subst hmn'
    clear hm hle
    have c1 : decide ((m : Int) < 1) = false := decide_eq_false (by omega)
    have c2 : decide (32 < (m : Int)) = false := decide_eq_false (by omega)
    have c3 : decide ((m : Int) < 1) = false := decide_eq_false (by omega)
    have c4 : decide (60 < (m : Int)) = false := decide_eq_false (by omega)
    have c5 : decide (old < 0) = false := decide_eq_false (by omega)
    have c6 : decide (1000 < old) = false := decide_eq_false (by omega)
    go_enter Try.func9, Try.ntmps9
    go_wp2_with fail
    refine (HS.out _).mono ?_
    rintro _ w1 ⟨v1, rfl, hr1, hb1⟩
    have hz1 := bsize hb1
    go_wp2_with fail
    refine (HS.out _).mono ?_
    rintro _ w2 ⟨v2, rfl, hr2, hb2⟩
    have hr1' := hr1.below hb2
    have hz2 := bsize hb2
    have hb12 : Below w.heap.size w w2 := (by repeat (first | with_reducible exact Below.refl _ _ | with_reducible refine Below.drew ?_ | (with_reducible refine Below.alloc ?_ (by first | exact Nat.le_refl _ | omega | (simp only [sizes]; omega)) _) | (with_reducible refine Below.setCell ?_ (by first | exact Nat.le_refl _ | omega | (simp only [sizes]; omega)) _) | (refine Below.trans ?_ (Below.mono (by with_reducible assumption) (by first | exact Nat.le_refl _ | omega | (simp only [sizes]; omega))))))
    clear hr1 hb1 hb2 hz1 hz2
    have SI := fun hbw => (sameInts_any v1 v2 xs xs w2 hr1' hbw)
    obtain ⟨ao1, ca1, rfl, e1, e2, e3⟩ := hr1'.out
    unfold maxLen at e2
    rw [HLEN.out] at e1 e3 SI ⊢
    rw [decide_eq_true (rfl : xs = xs)] at SI
    have HSI := Lib.hid (SI hr2); clear SI hr1'
    go_wp2_with fail
    refine HSI.out.mono ?_
    rintro e w3 ⟨rfl, hb3⟩
    obtain ⟨hc3, hf3⟩ := bcell hb3
    have hz3 := bsize hb3
    try simp only [sizes1] at hz3
    try simp only [sizes] at hc3 hf3
    clear hc3 hf3
    have hb20 := hb12
    have hz20 := hb12.size
    clear hb12
    go_wp2_with fail
    go_loopw [15] (fun i wr => ∃ k : Nat, k ≤ m ∧ i = .int .i64 k ∧ Below w2.heap.size w2 wr) (fun i _ => m - (intOf i).toNat)
    case atStart => exact ⟨0, Nat.zero_le _, rfl, hb3⟩
    case round =>
      obtain ⟨i, hi, rfl, hbw⟩ := hrel
      by_cases hlt : i < m
      · obtain ⟨x, hx⟩ := get_lt (xs := xs) (k := i) (by rw [HLEN.out]; exact hlt)
        obtain ⟨b, off, rfl, hbs, hbc⟩ := e3.resolve_left (by omega)
        have xc := (hbw.cell (p := ⟨b, off + i, none⟩) hbs).trans (hbc i x hx)
        have hxr := HRANGE.out x (List.mem_of_getElem? hx)
        have HX := Lib.hid hx; clear hx e3
        have HBC := Lib.hid hbc; clear hbc
        obtain ⟨wo, rfl⟩ : ∃ wo : World, wo = wr := ⟨_, rfl⟩
        go_wp2_with fail
        go_loopw [16] (fun q wq => ∃ k : Nat, k ≤ i ∧ q = .int .i64 k ∧ Below w2.heap.size w2 wq) (fun q _ => i - (intOf q).toNat)
        case atStart => exact ⟨0, Nat.zero_le _, rfl, hbw⟩
        case round =>
          obtain ⟨k, hk, rfl, hbq⟩ := hrel
          clear hbw xc
          by_cases hlt2 : k < i
          · obtain ⟨y, hy⟩ := get_lt (xs := xs) (k := k) (by rw [HLEN.out]; omega)
            have xc := (hbq.cell (p := ⟨b, off + i, none⟩) hbs).trans (HBC.out i x HX.out)
            have yc := (hbq.cell (p := ⟨b, off + k, none⟩) hbs).trans (HBC.out k y hy)
            have hne : x ≠ y := nodup_at HND.out hlt2 HX.out hy
            have hxy : (x == y) = false := by rw [beq_eq_false_iff_ne]; exact hne
            have HY := Lib.hid hy; clear hy hne
            have hbsq := hbq.size
            have hbx : b < wr.heap.size := by omega
            go_wp2_with fail
            refine wp_region_quiet_below (by kernel_rfl) (by kernel_rfl) ?_
            repeat (go_big_quiet_step (first | fail | fail))
            refine wpQuiet_nil ?_
            intro w5 hw5
            have hb5 := below_of_regrown hw5
            clear hw5
            obtain ⟨hc5, hf5⟩ := bcell hb5
            have hz5 := bsize hb5
            try simp only [sizes1] at hz5
            try simp only [sizes] at hc5 hf5
            go_wp2_with fail
            go_roundw
            case rel => exact ⟨k + 1, by omega, by go_num, (by repeat (first | with_reducible exact Below.refl _ _ | with_reducible refine Below.drew ?_ | (with_reducible refine Below.alloc ?_ (by first | exact Nat.le_refl _ | omega | (simp only [sizes]; omega)) _) | (with_reducible refine Below.setCell ?_ (by first | exact Nat.le_refl _ | omega | (simp only [sizes]; omega)) _) | (refine Below.trans ?_ (Below.mono (by with_reducible assumption) (by first | exact Nat.le_refl _ | omega | (simp only [sizes]; omega))))))⟩
            case measure => simp [intOf]; omega
          · obtain rfl : k = i := by omega
            have hbsq := hbq.size
            go_wp2_with fail
            go_roundw
            case rel => exact ⟨k + 1, by omega, by go_num, (by repeat (first | with_reducible exact Below.refl _ _ | with_reducible refine Below.drew ?_ | (with_reducible refine Below.alloc ?_ (by first | exact Nat.le_refl _ | omega | (simp only [sizes]; omega)) _) | (with_reducible refine Below.setCell ?_ (by first | exact Nat.le_refl _ | omega | (simp only [sizes]; omega)) _) | (refine Below.trans ?_ (Below.mono (by with_reducible assumption) (by first | exact Nat.le_refl _ | omega | (simp only [sizes]; omega))))))⟩
            case measure => simp [intOf]; omega
      · obtain rfl : i = m := by omega
        have hbsw := hbw.size
        have hbwr : Below w.heap.size w wr := by
          exact hb20.trans (hbw.mono hz20)
        go_wp2_with fail
        refine (HR.out _).mono ?_
        rintro e w6 ⟨rfl, hb6⟩
        obtain ⟨hc6, hf6⟩ := bcell hb6
        have hz6 := bsize hb6
        try simp only [sizes1] at hz6
        try simp only [sizes] at hc6 hf6
        go_wp2_with fail
        refine (HE.out _).mono ?_
        rintro e w7 ⟨rfl, hb7⟩
        obtain ⟨hc7, hf7⟩ := bcell hb7
        have hz7 := bsize hb7
        try simp only [sizes1] at hz7
        try simp only [sizes] at hc7 hf7
        have hss' := HSS.out
        by_cases hos : old ≤ s
        · obtain rfl : e = s := HL.out.1 hos
          have hd : decide (old ≤ e) = true := decide_eq_true hos
          clear hc6 hf6 hc7 hf7
          go_wp2_with fail
          refine (awake_any _).mono ?_
          rintro _ w8 ⟨rfl, hb8⟩
          go_wp2_with fail
          go_ret
          exact Ret.mk (by repeat (first | with_reducible exact Below.refl _ _ | with_reducible refine Below.drew ?_ | (with_reducible refine Below.alloc ?_ (by first | exact Nat.le_refl _ | omega | (simp only [sizes]; omega)) _) | (with_reducible refine Below.setCell ?_ (by first | exact Nat.le_refl _ | omega | (simp only [sizes]; omega)) _) | (refine Below.trans ?_ (Below.mono (by with_reducible assumption) (by first | exact Nat.le_refl _ | omega | (simp only [sizes]; omega))))))
        · have hd : decide (old ≤ s) = false := decide_eq_false hos
          obtain ⟨l1, l2⟩ := HL.out.2 (by omega)
          have hd1 : decide (s ≤ e) = true := decide_eq_true l1
          have hd2 : decide (e < old) = true := decide_eq_true l2
          clear hc6 hf6 hc7 hf7
          go_wp2_with fail
          refine (awake_any _).mono ?_
          rintro _ w8 ⟨rfl, hb8⟩
          go_wp2_with fail
          go_ret
          exact Ret.mk (by repeat (first | with_reducible exact Below.refl _ _ | with_reducible refine Below.drew ?_ | (with_reducible refine Below.alloc ?_ (by first | exact Nat.le_refl _ | omega | (simp only [sizes]; omega)) _) | (with_reducible refine Below.setCell ?_ (by first | exact Nat.le_refl _ | omega | (simp only [sizes]; omega)) _) | (refine Below.trans ?_ (Below.mono (by with_reducible assumption) (by first | exact Nat.le_refl _ | omega | (simp only [sizes]; omega))))))
end Go.Proofs.Ytclnjjppcdgkiaa
