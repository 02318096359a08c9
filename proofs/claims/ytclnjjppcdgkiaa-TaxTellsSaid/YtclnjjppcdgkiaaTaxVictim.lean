/-
  The guest that gives up a page: idletax.Victim and its reference, walked.
-/
import Derived.Test.YtclnjjppcdgkiaaTaxRows
namespace Go.Proofs.Ytclnjjppcdgkiaa
open Go.RowKit

def vicOk (l : List Clm) (t best : Int) (c : Clm) : Bool := validB c && decide (c.r < c.p) && (decide (best < 0) || (match l[best.toNat]? with | some d => poorB c d t | none => false))
def vicF (l : List Clm) (t : Int) : Nat → Int
  | 0 => -1
  | k + 1 => match l[k]? with
    | some c => if vicOk l t (vicF l t k) c then k else vicF l t k
    | none => vicF l t k
theorem vicF_bd (l : List Clm) (t : Int) : ∀ k : Nat, -1 ≤ vicF l t k ∧ vicF l t k < k
  | 0 => by simp [vicF]
  | k + 1 => by
    have := vicF_bd l t k
    unfold vicF
    split
    · split <;> omega
    · omega
theorem vicF_hit {l : List Clm} {t best : Int} {k : Nat} {c : Clm} (h : best = vicF l t k) (hc : l[k]? = some c) (ho : vicOk l t best c = true) : (k : Int) = vicF l t (k + 1) := by
  rw [vicF, hc]; dsimp only; rw [← h, ho, if_pos rfl]
theorem vicF_miss {l : List Clm} {t best : Int} {k : Nat} {c : Clm} (h : best = vicF l t k) (hc : l[k]? = some c) (ho : vicOk l t best c = false) : best = vicF l t (k + 1) := by
  rw [vicF, hc]; dsimp only; rw [← h, ho, if_neg (by simp)]
theorem vicOk_inv {l : List Clm} {t best : Int} {c : Clm} (h : validB c = false) : vicOk l t best c = false := by unfold vicOk; rw [h, Bool.false_and, Bool.false_and]
theorem vicOk_few {l : List Clm} {t best : Int} {c : Clm} (h : ¬ c.r < c.p) : vicOk l t best c = false := by unfold vicOk; rw [decide_eq_false h, Bool.and_false, Bool.false_and]
theorem vicOk_first {l : List Clm} {t best : Int} {c : Clm} (h1 : validB c = true) (h2 : c.r < c.p) (h3 : best < 0) : vicOk l t best c = true := by unfold vicOk; rw [h1, decide_eq_true h2, decide_eq_true h3]; rfl
theorem vicOk_next {l : List Clm} {t : Int} {j : Nat} {c d : Clm} (h1 : validB c = true) (h2 : c.r < c.p) (h3 : l[j]? = some d) : vicOk l t (j : Int) c = poorB c d t := by
  unfold vicOk; rw [h1, decide_eq_true h2, decide_eq_false (by omega), Int.toNat_natCast, h3]; rfl
def victimR (l : List Clm) (t : Int) : Int × Bool := if taxB t = true ∧ 0 ≤ vicF l t l.length then (vicF l t l.length, true) else (0, false)

theorem poor_is {r l s p a r' l' s' p' a' t : Int} {x : Bool} (h : poorB ⟨r, l, s, p, a⟩ ⟨r', l', s', p', a'⟩ t = x) (w : World) :
    Calls Try.prog 23 #[.agg #[.int .i64 r, .int .i64 l, .int .i64 s, .int .i64 p, .int .i64 a], .agg #[.int .i64 r', .int .i64 l', .int .i64 s', .int .i64 p', .int .i64 a'], .int .i64 t] w (Ret w (.bool x)) := by subst h; exact idletax_Poorer_any _ _ _ _ _ _ _ _ _ _ _ w
theorem rpoor_is {r l s p a r' l' s' p' a' t : Int} {x : Bool} (h : poorB ⟨r, l, s, p, a⟩ ⟨r', l', s', p', a'⟩ t = x) (w : World) :
    Calls Try.prog 24 #[.agg #[.int .i64 r, .int .i64 l, .int .i64 s, .int .i64 p, .int .i64 a], .agg #[.int .i64 r', .int .i64 l', .int .i64 s', .int .i64 p', .int .i64 a'], .int .i64 t] w (Ret w (.bool x)) := by subst h; exact vmfleetref35_Poorer_any _ _ _ _ _ _ _ _ _ _ _ w

theorem victim_notax (va : Value) (_cs : List Clm) (t : Int) (w : World) (h : taxB t = false) : Calls Try.prog 13 #[va, .int .i64 t] w (Ret w (.tuple #[.int .i64 0, .bool false])) := by
  have H := Lib.hid h; clear h
  go_enter Try.func13, Try.ntmps13
  go_wp2_with fail
  refine (idletax_validTax_is H.out _).mono ?_
  rintro e w1 ⟨rfl, hb1⟩
  obtain ⟨hc1, hf1⟩ := bcell hb1
  have hz1 := bsize hb1
  try simp only [sizes1] at hz1
  try simp only [sizes] at hc1 hf1
  go_wp2_with fail
  go_ret2
  exact Ret.mk (by repeat (first | with_reducible exact Below.refl _ _ | with_reducible refine Below.drew ?_ | (with_reducible refine Below.alloc ?_ (by first | exact Nat.le_refl _ | omega | (simp only [sizes]; omega)) _) | (with_reducible refine Below.setCell ?_ (by first | exact Nat.le_refl _ | omega | (simp only [sizes]; omega)) _) | (refine Below.trans ?_ (Below.mono (by with_reducible assumption) (by first | exact Nat.le_refl _ | omega | (simp only [sizes]; omega))))))

set_option maxHeartbeats 2000000 in
theorem victim_tax (va : Value) (cs : List Clm) (t : Int) (w : World) (ha : ClmRow w va cs) (h : taxB t = true) : Calls Try.prog 13 #[va, .int .i64 t] w (Ret w (.tuple #[.int .i64 (victimR cs t).1, .bool (victimR cs t).2])) := by
  obtain ⟨ao, ca, rfl, a1, a2, a3⟩ := ha.out
  unfold maxLen at a2
  clear ha
  obtain ⟨n, hn⟩ : ∃ n, cs.length = n := ⟨_, rfl⟩
  rw [hn] at a1 a3 ⊢
  have hres : victimR cs t = if 0 ≤ vicF cs t n then (vicF cs t n, true) else (0, false) := by unfold victimR; rw [hn]; simp only [h, true_and]
  have HR := Lib.hid hres; clear hres
  have HN := Lib.hid hn; clear hn
  have H := Lib.hid h; clear h
  go_enter Try.func13, Try.ntmps13
  go_wp2_with fail
  refine (idletax_validTax_is H.out _).mono ?_
  rintro e w1 ⟨rfl, hb1⟩
  obtain ⟨hc1, hf1⟩ := bcell hb1
  have hz1 := bsize hb1
  try simp only [sizes1] at hz1
  try simp only [sizes] at hc1 hf1
  go_wp2_with fail
  go_loopw [6, 14] (fun b i wr => ∃ (k : Nat) (best : Int), k ≤ n ∧ i = .int .i64 k ∧ b = .int .i64 best ∧ Hid (best = vicF cs t k) ∧ -1 ≤ best ∧ best < k ∧ Below w.heap.size w wr) (fun _ i _ => n - (intOf i).toNat)
  case atStart => exact ⟨0, -1, Nat.zero_le _, rfl, rfl, rfl, by omega, by omega, (by repeat (first | with_reducible exact Below.refl _ _ | with_reducible refine Below.drew ?_ | (with_reducible refine Below.alloc ?_ (by first | exact Nat.le_refl _ | omega | (simp only [sizes]; omega)) _) | (with_reducible refine Below.setCell ?_ (by first | exact Nat.le_refl _ | omega | (simp only [sizes]; omega)) _) | (refine Below.trans ?_ (Below.mono (by with_reducible assumption) (by first | exact Nat.le_refl _ | omega | (simp only [sizes]; omega))))))⟩
  case round =>
    obtain ⟨k, best, hk, rfl, rfl, HB, hb0, hbk, hbw⟩ := hrel
    clear hc1 hf1 hb1 hz1
    have hbs0 := hbw.size
    by_cases hlt : k < n
    · obtain ⟨⟨r, l, s, p, a⟩, hx⟩ := get_lt (xs := cs) (k := k) (by rw [HN.out]; exact hlt)
      obtain ⟨b, off, rfl, hbs, hbc⟩ := a3.resolve_left (by omega)
      obtain ⟨d0', d1', d2', d3', d4'⟩ := hbc k _ hx
      dsimp only at d0' d1' d2' d3' d4'
      have d0 := (hbw.cell (p := ⟨b, off + k * 5, none⟩) hbs).trans d0'
      have d1 := (hbw.cell (p := ⟨b, off + k * 5 + 1, none⟩) hbs).trans d1'
      have d2 := (hbw.cell (p := ⟨b, off + k * 5 + 2, none⟩) hbs).trans d2'
      have d3 := (hbw.cell (p := ⟨b, off + k * 5 + 3, none⟩) hbs).trans d3'
      have d4 := (hbw.cell (p := ⟨b, off + k * 5 + 4, none⟩) hbs).trans d4'
      clear d0' d1' d2' d3' d4'
      have HX := Lib.hid hx; clear hx
      have hbs1 : b < wr.heap.size := by omega
      cases hv : validB ⟨r, l, s, p, a⟩
      · have HV := Lib.hid hv; clear hv
        go_wp2_with fail
        refine (idletax_Valid_is HV.out _).mono ?_
        rintro e w2 ⟨rfl, hb2⟩
        obtain ⟨hc2, hf2⟩ := bcell hb2
        have hz2 := bsize hb2
        try simp only [sizes1] at hz2
        try simp only [sizes] at hc2 hf2
        go_wp2_with fail
        go_roundw
        case rel => exact ⟨k + 1, _, by omega, by go_num, rfl, vicF_miss HB.out HX.out (vicOk_inv HV.out), by omega, by omega, (by repeat (first | with_reducible exact Below.refl _ _ | with_reducible refine Below.drew ?_ | (with_reducible refine Below.alloc ?_ (by first | exact Nat.le_refl _ | omega | (simp only [sizes]; omega)) _) | (with_reducible refine Below.setCell ?_ (by first | exact Nat.le_refl _ | omega | (simp only [sizes]; omega)) _) | (refine Below.trans ?_ (Below.mono (by with_reducible assumption) (by first | exact Nat.le_refl _ | omega | (simp only [sizes]; omega))))))⟩
        case measure => simp [intOf]; omega
      · have HV := Lib.hid hv; clear hv
        by_cases hp : r < p
        · by_cases hneg : best < 0
          · go_wp2_with fail
            refine (idletax_Valid_is HV.out _).mono ?_
            rintro e w2 ⟨rfl, hb2⟩
            obtain ⟨hc2, hf2⟩ := bcell hb2
            have hz2 := bsize hb2
            try simp only [sizes1] at hz2
            try simp only [sizes] at hc2 hf2
            go_wp2_with fail
            refine wp_region_quiet_below (by kernel_rfl) (by kernel_rfl) ?_
            repeat (go_big_quiet_step (first | fail | fail))
            refine wpQuiet_nil ?_
            intro w3 hw3
            have hb3 := below_of_regrown hw3
            clear hw3
            obtain ⟨hc3, hf3⟩ := bcell hb3
            have hz3 := bsize hb3
            try simp only [sizes1] at hz3
            try simp only [sizes] at hc3 hf3
            go_wp2_with fail
            go_roundw
            case rel => exact ⟨k + 1, _, by omega, by go_num, rfl, vicF_hit HB.out HX.out (vicOk_first HV.out hp hneg), by omega, by omega, (by repeat (first | with_reducible exact Below.refl _ _ | with_reducible refine Below.drew ?_ | (with_reducible refine Below.alloc ?_ (by first | exact Nat.le_refl _ | omega | (simp only [sizes]; omega)) _) | (with_reducible refine Below.setCell ?_ (by first | exact Nat.le_refl _ | omega | (simp only [sizes]; omega)) _) | (refine Below.trans ?_ (Below.mono (by with_reducible assumption) (by first | exact Nat.le_refl _ | omega | (simp only [sizes]; omega))))))⟩
            case measure => simp [intOf]; omega
          · obtain ⟨j, rfl⟩ : ∃ j : Nat, best = j := ⟨best.toNat, by omega⟩
            have hjk : j < k := by omega
            have hdn : decide ((j : Int) < 0) = false := decide_eq_false (by omega)
            obtain ⟨⟨r', l', s', p', a'⟩, hy⟩ := get_lt (xs := cs) (k := j) (by rw [HN.out]; omega)
            obtain ⟨e0', e1', e2', e3', e4'⟩ := hbc j _ hy
            dsimp only at e0' e1' e2' e3' e4'
            have e0 := (hbw.cell (p := ⟨b, off + j * 5, none⟩) hbs).trans e0'
            have e1 := (hbw.cell (p := ⟨b, off + j * 5 + 1, none⟩) hbs).trans e1'
            have e2 := (hbw.cell (p := ⟨b, off + j * 5 + 2, none⟩) hbs).trans e2'
            have e3 := (hbw.cell (p := ⟨b, off + j * 5 + 3, none⟩) hbs).trans e3'
            have e4 := (hbw.cell (p := ⟨b, off + j * 5 + 4, none⟩) hbs).trans e4'
            clear e0' e1' e2' e3' e4'
            have HY := Lib.hid hy; clear hy
            cases hpo : poorB ⟨r, l, s, p, a⟩ ⟨r', l', s', p', a'⟩ t
            · have HP := Lib.hid hpo; clear hpo
              go_wp2_with fail
              refine (idletax_Valid_is HV.out _).mono ?_
              rintro e w2 ⟨rfl, hb2⟩
              obtain ⟨hc2, hf2⟩ := bcell hb2
              have hz2 := bsize hb2
              try simp only [sizes1] at hz2
              try simp only [sizes] at hc2 hf2
              have hb2b : b < w2.heap.size := by omega
              go_wp2_with fail
              refine wp_region_quiet_below (by kernel_rfl) (by kernel_rfl) ?_
              repeat (go_big_quiet_step (first | fail | (go_at_call 23; exact quiet_ret (poor_is HP.out _))))
              refine wpQuiet_nil ?_
              intro w3 hw3
              have hb3 := below_of_regrown hw3
              clear hw3
              obtain ⟨hc3, hf3⟩ := bcell hb3
              have hz3 := bsize hb3
              try simp only [sizes1] at hz3
              try simp only [sizes] at hc3 hf3
              go_wp2_with fail
              go_roundw
              case rel => exact ⟨k + 1, _, by omega, by go_num, rfl, vicF_miss HB.out HX.out ((vicOk_next HV.out hp HY.out).trans HP.out), by omega, by omega, (by repeat (first | with_reducible exact Below.refl _ _ | with_reducible refine Below.drew ?_ | (with_reducible refine Below.alloc ?_ (by first | exact Nat.le_refl _ | omega | (simp only [sizes]; omega)) _) | (with_reducible refine Below.setCell ?_ (by first | exact Nat.le_refl _ | omega | (simp only [sizes]; omega)) _) | (refine Below.trans ?_ (Below.mono (by with_reducible assumption) (by first | exact Nat.le_refl _ | omega | (simp only [sizes]; omega))))))⟩
              case measure => simp [intOf]; omega
            · have HP := Lib.hid hpo; clear hpo
              go_wp2_with fail
              refine (idletax_Valid_is HV.out _).mono ?_
              rintro e w2 ⟨rfl, hb2⟩
              obtain ⟨hc2, hf2⟩ := bcell hb2
              have hz2 := bsize hb2
              try simp only [sizes1] at hz2
              try simp only [sizes] at hc2 hf2
              have hb2b : b < w2.heap.size := by omega
              go_wp2_with fail
              refine wp_region_quiet_below (by kernel_rfl) (by kernel_rfl) ?_
              repeat (go_big_quiet_step (first | fail | (go_at_call 23; exact quiet_ret (poor_is HP.out _))))
              refine wpQuiet_nil ?_
              intro w3 hw3
              have hb3 := below_of_regrown hw3
              clear hw3
              obtain ⟨hc3, hf3⟩ := bcell hb3
              have hz3 := bsize hb3
              try simp only [sizes1] at hz3
              try simp only [sizes] at hc3 hf3
              go_wp2_with fail
              go_roundw
              case rel => exact ⟨k + 1, _, by omega, by go_num, rfl, vicF_hit HB.out HX.out ((vicOk_next HV.out hp HY.out).trans HP.out), by omega, by omega, (by repeat (first | with_reducible exact Below.refl _ _ | with_reducible refine Below.drew ?_ | (with_reducible refine Below.alloc ?_ (by first | exact Nat.le_refl _ | omega | (simp only [sizes]; omega)) _) | (with_reducible refine Below.setCell ?_ (by first | exact Nat.le_refl _ | omega | (simp only [sizes]; omega)) _) | (refine Below.trans ?_ (Below.mono (by with_reducible assumption) (by first | exact Nat.le_refl _ | omega | (simp only [sizes]; omega))))))⟩
              case measure => simp [intOf]; omega
        · go_wp2_with fail
          refine (idletax_Valid_is HV.out _).mono ?_
          rintro e w2 ⟨rfl, hb2⟩
          obtain ⟨hc2, hf2⟩ := bcell hb2
          have hz2 := bsize hb2
          try simp only [sizes1] at hz2
          try simp only [sizes] at hc2 hf2
          go_wp2_with fail
          go_roundw
          case rel => exact ⟨k + 1, _, by omega, by go_num, rfl, vicF_miss HB.out HX.out (vicOk_few (show ¬ r < p from by omega)), by omega, by omega, (by repeat (first | with_reducible exact Below.refl _ _ | with_reducible refine Below.drew ?_ | (with_reducible refine Below.alloc ?_ (by first | exact Nat.le_refl _ | omega | (simp only [sizes]; omega)) _) | (with_reducible refine Below.setCell ?_ (by first | exact Nat.le_refl _ | omega | (simp only [sizes]; omega)) _) | (refine Below.trans ?_ (Below.mono (by with_reducible assumption) (by first | exact Nat.le_refl _ | omega | (simp only [sizes]; omega))))))⟩
          case measure => simp [intOf]; omega
    · obtain rfl : k = n := by omega
      by_cases hneg : best < 0
      · go_wp2_with fail
        go_ret2
        exact Ret.mk' (by rw [HR.out, ← HB.out, if_neg (by omega)]; rfl) (by repeat (first | with_reducible exact Below.refl _ _ | with_reducible refine Below.drew ?_ | (with_reducible refine Below.alloc ?_ (by first | exact Nat.le_refl _ | omega | (simp only [sizes]; omega)) _) | (with_reducible refine Below.setCell ?_ (by first | exact Nat.le_refl _ | omega | (simp only [sizes]; omega)) _) | (refine Below.trans ?_ (Below.mono (by with_reducible assumption) (by first | exact Nat.le_refl _ | omega | (simp only [sizes]; omega))))))
      · go_wp2_with fail
        go_ret2
        exact Ret.mk' (by rw [HR.out, ← HB.out, if_pos (by omega)]; rfl) (by repeat (first | with_reducible exact Below.refl _ _ | with_reducible refine Below.drew ?_ | (with_reducible refine Below.alloc ?_ (by first | exact Nat.le_refl _ | omega | (simp only [sizes]; omega)) _) | (with_reducible refine Below.setCell ?_ (by first | exact Nat.le_refl _ | omega | (simp only [sizes]; omega)) _) | (refine Below.trans ?_ (Below.mono (by with_reducible assumption) (by first | exact Nat.le_refl _ | omega | (simp only [sizes]; omega))))))
theorem idletax_Victim_any (va : Value) (cs : List Clm) (t : Int) (w : World) (ha : ClmRow w va cs) : Calls Try.prog 13 #[va, .int .i64 t] w (Ret w (.tuple #[.int .i64 (victimR cs t).1, .bool (victimR cs t).2])) := by
  cases h : taxB t
  · have e : victimR cs t = (0, false) := by unfold victimR; rw [if_neg (by simp [h])]
    rw [e]
    exact victim_notax va cs t w h
  · exact victim_tax va cs t w ha h

theorem payer_notax (va : Value) (cs : List Clm) (t : Int) (w : World) (ha : ClmRow w va cs) (h : taxB t = false) : Calls Try.prog 14 #[va, .int .i64 t] w (Ret w (.tuple #[.int .i64 0, .bool false])) := by
  obtain ⟨ao, ca, rfl, a1, a2, a3⟩ := ha.out
  unfold maxLen at a2
  clear ha
  obtain ⟨n, hn⟩ : ∃ n, cs.length = n := ⟨_, rfl⟩
  rw [hn] at a1 a3 ⊢
  have H := Lib.hid h; clear h
  by_cases h0 : 0 < n
  · go_enter Try.func14, Try.ntmps14
    go_wp2_with fail
    refine wp_loop_rounds 1 ?_
    rw [rounds_succ]
    go_wp2_with fail
    refine (vmfleetref35_taxed_is H.out _).mono ?_
    rintro e w1 ⟨rfl, hb1⟩
    obtain ⟨hc1, hf1⟩ := bcell hb1
    have hz1 := bsize hb1
    try simp only [sizes1] at hz1
    try simp only [sizes] at hc1 hf1
    go_wp2_with fail
    go_ret2
    exact Ret.mk (by repeat (first | with_reducible exact Below.refl _ _ | with_reducible refine Below.drew ?_ | (with_reducible refine Below.alloc ?_ (by first | exact Nat.le_refl _ | omega | (simp only [sizes]; omega)) _) | (with_reducible refine Below.setCell ?_ (by first | exact Nat.le_refl _ | omega | (simp only [sizes]; omega)) _) | (refine Below.trans ?_ (Below.mono (by with_reducible assumption) (by first | exact Nat.le_refl _ | omega | (simp only [sizes]; omega))))))
  · obtain rfl : n = 0 := by omega
    go_enter Try.func14, Try.ntmps14
    go_wp2_with fail
    refine wp_loop_rounds 1 ?_
    rw [rounds_succ]
    go_wp2_with fail
    go_ret2
    exact Ret.mk (by repeat (first | with_reducible exact Below.refl _ _ | with_reducible refine Below.drew ?_ | (with_reducible refine Below.alloc ?_ (by first | exact Nat.le_refl _ | omega | (simp only [sizes]; omega)) _) | (with_reducible refine Below.setCell ?_ (by first | exact Nat.le_refl _ | omega | (simp only [sizes]; omega)) _) | (refine Below.trans ?_ (Below.mono (by with_reducible assumption) (by first | exact Nat.le_refl _ | omega | (simp only [sizes]; omega))))))

set_option maxHeartbeats 2000000 in
theorem payer_tax (va : Value) (cs : List Clm) (t : Int) (w : World) (ha : ClmRow w va cs) (h : taxB t = true) : Calls Try.prog 14 #[va, .int .i64 t] w (Ret w (.tuple #[.int .i64 (victimR cs t).1, .bool (victimR cs t).2])) := by
  obtain ⟨ao, ca, rfl, a1, a2, a3⟩ := ha.out
  unfold maxLen at a2
  clear ha
  obtain ⟨n, hn⟩ : ∃ n, cs.length = n := ⟨_, rfl⟩
  rw [hn] at a1 a3 ⊢
  have hres : victimR cs t = if 0 ≤ vicF cs t n then (vicF cs t n, true) else (0, false) := by unfold victimR; rw [hn]; simp only [h, true_and]
  have HR := Lib.hid hres; clear hres
  have HN := Lib.hid hn; clear hn
  have H := Lib.hid h; clear h
  go_enter Try.func14, Try.ntmps14
  go_wp2_with fail
  go_loopw [6, 7] (fun b i wr => ∃ (k : Nat) (best : Int), k ≤ n ∧ i = .int .i64 k ∧ b = .int .i64 best ∧ Hid (best = vicF cs t k) ∧ -1 ≤ best ∧ best < k ∧ Below w.heap.size w wr) (fun _ i _ => n - (intOf i).toNat)
  case atStart => exact ⟨0, -1, Nat.zero_le _, rfl, rfl, rfl, by omega, by omega, (by repeat (first | with_reducible exact Below.refl _ _ | with_reducible refine Below.drew ?_ | (with_reducible refine Below.alloc ?_ (by first | exact Nat.le_refl _ | omega | (simp only [sizes]; omega)) _) | (with_reducible refine Below.setCell ?_ (by first | exact Nat.le_refl _ | omega | (simp only [sizes]; omega)) _) | (refine Below.trans ?_ (Below.mono (by with_reducible assumption) (by first | exact Nat.le_refl _ | omega | (simp only [sizes]; omega))))))⟩
  case round =>
    obtain ⟨k, best, hk, rfl, rfl, HB, hb0, hbk, hbw⟩ := hrel
    have hbs0 := hbw.size
    by_cases hlt : k < n
    · obtain ⟨⟨r, l, s, p, a⟩, hx⟩ := get_lt (xs := cs) (k := k) (by rw [HN.out]; exact hlt)
      obtain ⟨b, off, rfl, hbs, hbc⟩ := a3.resolve_left (by omega)
      obtain ⟨d0', d1', d2', d3', d4'⟩ := hbc k _ hx
      dsimp only at d0' d1' d2' d3' d4'
      have d0 := (hbw.cell (p := ⟨b, off + k * 5, none⟩) hbs).trans d0'
      have d1 := (hbw.cell (p := ⟨b, off + k * 5 + 1, none⟩) hbs).trans d1'
      have d2 := (hbw.cell (p := ⟨b, off + k * 5 + 2, none⟩) hbs).trans d2'
      have d3 := (hbw.cell (p := ⟨b, off + k * 5 + 3, none⟩) hbs).trans d3'
      have d4 := (hbw.cell (p := ⟨b, off + k * 5 + 4, none⟩) hbs).trans d4'
      clear d0' d1' d2' d3' d4'
      have HX := Lib.hid hx; clear hx a3
      have hbs1 : b < wr.heap.size := by omega
      cases hv : validB ⟨r, l, s, p, a⟩
      · have HV := Lib.hid hv; clear hv
        go_wp2_with fail
        refine (vmfleetref35_taxed_is H.out _).mono ?_
        rintro e w2 ⟨rfl, hb2⟩
        obtain ⟨hc2, hf2⟩ := bcell hb2
        have hz2 := bsize hb2
        try simp only [sizes1] at hz2
        try simp only [sizes] at hc2 hf2
        have hb2b : b < w2.heap.size := by omega
        go_wp2_with fail
        refine wp_region_quiet_below (by kernel_rfl) (by kernel_rfl) ?_
        repeat (go_big_quiet_step (first | fail | (go_at_call 20; exact quiet_ret (vmfleetref35_ValidClaim_is HV.out _))))
        refine wpQuiet_nil ?_
        intro w3 hw3
        have hb3 := below_of_regrown hw3
        clear hw3
        obtain ⟨hc3, hf3⟩ := bcell hb3
        have hz3 := bsize hb3
        try simp only [sizes1] at hz3
        try simp only [sizes] at hc3 hf3
        go_wp2_with fail
        go_roundw
        case rel => exact ⟨k + 1, _, by omega, by go_num, rfl, vicF_miss HB.out HX.out (vicOk_inv HV.out), by omega, by omega, (by repeat (first | with_reducible exact Below.refl _ _ | with_reducible refine Below.drew ?_ | (with_reducible refine Below.alloc ?_ (by first | exact Nat.le_refl _ | omega | (simp only [sizes]; omega)) _) | (with_reducible refine Below.setCell ?_ (by first | exact Nat.le_refl _ | omega | (simp only [sizes]; omega)) _) | (refine Below.trans ?_ (Below.mono (by with_reducible assumption) (by first | exact Nat.le_refl _ | omega | (simp only [sizes]; omega))))))⟩
        case measure => simp [intOf]; omega
      · have HV := Lib.hid hv; clear hv
        by_cases hp : r < p
        · have hpd : decide (r < p) = true := decide_eq_true hp
          by_cases hneg : best < 0
          · obtain rfl : best = -1 := by omega
            go_wp2_with fail
            refine (vmfleetref35_taxed_is H.out _).mono ?_
            rintro e w2 ⟨rfl, hb2⟩
            obtain ⟨hc2, hf2⟩ := bcell hb2
            have hz2 := bsize hb2
            try simp only [sizes1] at hz2
            try simp only [sizes] at hc2 hf2
            have hb2b : b < w2.heap.size := by omega
            go_wp2_with fail
            refine wp_region_quiet_below (by kernel_rfl) (by kernel_rfl) ?_
            repeat (go_big_quiet_step (first | fail | (go_at_call 20; exact quiet_ret (vmfleetref35_ValidClaim_is HV.out _))))
            refine wpQuiet_nil ?_
            intro w3 hw3
            have hb3 := below_of_regrown hw3
            clear hw3
            obtain ⟨hc3, hf3⟩ := bcell hb3
            have hz3 := bsize hb3
            try simp only [sizes1] at hz3
            try simp only [sizes] at hc3 hf3
            go_wp2_with fail
            go_roundw
            case rel => exact ⟨k + 1, _, by omega, by go_num, rfl, vicF_hit HB.out HX.out (vicOk_first HV.out hp hneg), by omega, by omega, (by repeat (first | with_reducible exact Below.refl _ _ | with_reducible refine Below.drew ?_ | (with_reducible refine Below.alloc ?_ (by first | exact Nat.le_refl _ | omega | (simp only [sizes]; omega)) _) | (with_reducible refine Below.setCell ?_ (by first | exact Nat.le_refl _ | omega | (simp only [sizes]; omega)) _) | (refine Below.trans ?_ (Below.mono (by with_reducible assumption) (by first | exact Nat.le_refl _ | omega | (simp only [sizes]; omega))))))⟩
            case measure => simp [intOf]; omega
          · obtain ⟨j, rfl⟩ : ∃ j : Nat, best = j := ⟨best.toNat, by omega⟩
            have hjk : j < k := by omega
            have hdn : decide ((j : Int) < 0) = false := decide_eq_false (by omega)
            obtain ⟨⟨r', l', s', p', a'⟩, hy⟩ := get_lt (xs := cs) (k := j) (by rw [HN.out]; omega)
            obtain ⟨e0', e1', e2', e3', e4'⟩ := hbc j _ hy
            dsimp only at e0' e1' e2' e3' e4'
            have e0 := (hbw.cell (p := ⟨b, off + j * 5, none⟩) hbs).trans e0'
            have e1 := (hbw.cell (p := ⟨b, off + j * 5 + 1, none⟩) hbs).trans e1'
            have e2 := (hbw.cell (p := ⟨b, off + j * 5 + 2, none⟩) hbs).trans e2'
            have e3 := (hbw.cell (p := ⟨b, off + j * 5 + 3, none⟩) hbs).trans e3'
            have e4 := (hbw.cell (p := ⟨b, off + j * 5 + 4, none⟩) hbs).trans e4'
            clear e0' e1' e2' e3' e4'
            have HY := Lib.hid hy; clear hy
            cases hpo : poorB ⟨r, l, s, p, a⟩ ⟨r', l', s', p', a'⟩ t
            · have HP := Lib.hid hpo; clear hpo
              go_wp2_with fail
              refine (vmfleetref35_taxed_is H.out _).mono ?_
              rintro e w2 ⟨rfl, hb2⟩
              obtain ⟨hc2, hf2⟩ := bcell hb2
              have hz2 := bsize hb2
              try simp only [sizes1] at hz2
              try simp only [sizes] at hc2 hf2
              have hb2b : b < w2.heap.size := by omega
              go_wp2_with fail
              refine wp_region_quiet_below (by kernel_rfl) (by kernel_rfl) ?_
              repeat (go_big_quiet_step (first | fail | (go_at_call 20; exact quiet_ret (vmfleetref35_ValidClaim_is HV.out _)) | (go_at_call 24; exact quiet_ret (rpoor_is HP.out _))))
              refine wpQuiet_nil ?_
              intro w3 hw3
              have hb3 := below_of_regrown hw3
              clear hw3
              obtain ⟨hc3, hf3⟩ := bcell hb3
              have hz3 := bsize hb3
              try simp only [sizes1] at hz3
              try simp only [sizes] at hc3 hf3
              go_wp2_with fail
              go_roundw
              case rel => exact ⟨k + 1, _, by omega, by go_num, rfl, vicF_miss HB.out HX.out ((vicOk_next HV.out hp HY.out).trans HP.out), by omega, by omega, (by repeat (first | with_reducible exact Below.refl _ _ | with_reducible refine Below.drew ?_ | (with_reducible refine Below.alloc ?_ (by first | exact Nat.le_refl _ | omega | (simp only [sizes]; omega)) _) | (with_reducible refine Below.setCell ?_ (by first | exact Nat.le_refl _ | omega | (simp only [sizes]; omega)) _) | (refine Below.trans ?_ (Below.mono (by with_reducible assumption) (by first | exact Nat.le_refl _ | omega | (simp only [sizes]; omega))))))⟩
              case measure => simp [intOf]; omega
            · have HP := Lib.hid hpo; clear hpo
              go_wp2_with fail
              refine (vmfleetref35_taxed_is H.out _).mono ?_
              rintro e w2 ⟨rfl, hb2⟩
              obtain ⟨hc2, hf2⟩ := bcell hb2
              have hz2 := bsize hb2
              try simp only [sizes1] at hz2
              try simp only [sizes] at hc2 hf2
              have hb2b : b < w2.heap.size := by omega
              go_wp2_with fail
              refine wp_region_quiet_below (by kernel_rfl) (by kernel_rfl) ?_
              repeat (go_big_quiet_step (first | fail | (go_at_call 20; exact quiet_ret (vmfleetref35_ValidClaim_is HV.out _)) | (go_at_call 24; exact quiet_ret (rpoor_is HP.out _))))
              refine wpQuiet_nil ?_
              intro w3 hw3
              have hb3 := below_of_regrown hw3
              clear hw3
              obtain ⟨hc3, hf3⟩ := bcell hb3
              have hz3 := bsize hb3
              try simp only [sizes1] at hz3
              try simp only [sizes] at hc3 hf3
              go_wp2_with fail
              go_roundw
              case rel => exact ⟨k + 1, _, by omega, by go_num, rfl, vicF_hit HB.out HX.out ((vicOk_next HV.out hp HY.out).trans HP.out), by omega, by omega, (by repeat (first | with_reducible exact Below.refl _ _ | with_reducible refine Below.drew ?_ | (with_reducible refine Below.alloc ?_ (by first | exact Nat.le_refl _ | omega | (simp only [sizes]; omega)) _) | (with_reducible refine Below.setCell ?_ (by first | exact Nat.le_refl _ | omega | (simp only [sizes]; omega)) _) | (refine Below.trans ?_ (Below.mono (by with_reducible assumption) (by first | exact Nat.le_refl _ | omega | (simp only [sizes]; omega))))))⟩
              case measure => simp [intOf]; omega
        · have hpd : decide (r < p) = false := decide_eq_false hp
          go_wp2_with fail
          refine (vmfleetref35_taxed_is H.out _).mono ?_
          rintro e w2 ⟨rfl, hb2⟩
          obtain ⟨hc2, hf2⟩ := bcell hb2
          have hz2 := bsize hb2
          try simp only [sizes1] at hz2
          try simp only [sizes] at hc2 hf2
          have hb2b : b < w2.heap.size := by omega
          go_wp2_with fail
          refine wp_region_quiet_below (by kernel_rfl) (by kernel_rfl) ?_
          repeat (go_big_quiet_step (first | fail | (go_at_call 20; exact quiet_ret (vmfleetref35_ValidClaim_is HV.out _))))
          refine wpQuiet_nil ?_
          intro w3 hw3
          have hb3 := below_of_regrown hw3
          clear hw3
          obtain ⟨hc3, hf3⟩ := bcell hb3
          have hz3 := bsize hb3
          try simp only [sizes1] at hz3
          try simp only [sizes] at hc3 hf3
          go_wp2_with fail
          go_roundw
          case rel => exact ⟨k + 1, _, by omega, by go_num, rfl, vicF_miss HB.out HX.out (vicOk_few (show ¬ r < p from by omega)), by omega, by omega, (by repeat (first | with_reducible exact Below.refl _ _ | with_reducible refine Below.drew ?_ | (with_reducible refine Below.alloc ?_ (by first | exact Nat.le_refl _ | omega | (simp only [sizes]; omega)) _) | (with_reducible refine Below.setCell ?_ (by first | exact Nat.le_refl _ | omega | (simp only [sizes]; omega)) _) | (refine Below.trans ?_ (Below.mono (by with_reducible assumption) (by first | exact Nat.le_refl _ | omega | (simp only [sizes]; omega))))))⟩
          case measure => simp [intOf]; omega
    · obtain rfl : k = n := by omega
      by_cases hneg : best < 0
      · go_wp2_with fail
        go_ret2
        exact Ret.mk' (by rw [HR.out, ← HB.out, if_neg (by omega)]; rfl) (by repeat (first | with_reducible exact Below.refl _ _ | with_reducible refine Below.drew ?_ | (with_reducible refine Below.alloc ?_ (by first | exact Nat.le_refl _ | omega | (simp only [sizes]; omega)) _) | (with_reducible refine Below.setCell ?_ (by first | exact Nat.le_refl _ | omega | (simp only [sizes]; omega)) _) | (refine Below.trans ?_ (Below.mono (by with_reducible assumption) (by first | exact Nat.le_refl _ | omega | (simp only [sizes]; omega))))))
      · go_wp2_with fail
        go_ret2
        exact Ret.mk' (by rw [HR.out, ← HB.out, if_pos (by omega)]; rfl) (by repeat (first | with_reducible exact Below.refl _ _ | with_reducible refine Below.drew ?_ | (with_reducible refine Below.alloc ?_ (by first | exact Nat.le_refl _ | omega | (simp only [sizes]; omega)) _) | (with_reducible refine Below.setCell ?_ (by first | exact Nat.le_refl _ | omega | (simp only [sizes]; omega)) _) | (refine Below.trans ?_ (Below.mono (by with_reducible assumption) (by first | exact Nat.le_refl _ | omega | (simp only [sizes]; omega))))))
theorem vmfleetref35_Payer_any (va : Value) (cs : List Clm) (t : Int) (w : World) (ha : ClmRow w va cs) : Calls Try.prog 14 #[va, .int .i64 t] w (Ret w (.tuple #[.int .i64 (victimR cs t).1, .bool (victimR cs t).2])) := by
  cases h : taxB t
  · have e : victimR cs t = (0, false) := by unfold victimR; rw [if_neg (by simp [h])]
    rw [e]
    exact payer_notax va cs t w ha h
  · exact payer_tax va cs t w ha h
end Go.Proofs.Ytclnjjppcdgkiaa
