/-
  The guest that gets the next frame, walked.
-/
import Derived.Test.YtclnjjppcdgkiaaTaxVictim
namespace Go.Proofs.Ytclnjjppcdgkiaa
open Go.RowKit

def clm0 : Clm := ⟨0, 0, 0, 0, 0⟩
def priced (c : Clm) (f : Int) : Clm := ⟨c.r, c.l, c.s, f + 1, c.a⟩
def ricStep (t : Int) (k : Nat) (prev : Int × Clm) (c : Clm) (f : Int) : Int × Clm :=
  if c.l ≤ f then prev else if decide (prev.1 < 0) || poorB prev.2 (priced c f) t then ((k : Int), priced c f) else prev
def ricF (l : List Clm) (fr : List Int) (t : Int) : Nat → Int × Clm
  | 0 => (-1, clm0)
  | k + 1 => match l[k]?, fr[k]? with
    | some c, some f => ricStep t k (ricF l fr t k) c f
    | _, _ => ricF l fr t k
theorem ricF_succ {l : List Clm} {fr : List Int} {t : Int} {k : Nat} {c : Clm} {f : Int} {q : Int × Clm} (h : q = ricF l fr t k) (hc : l[k]? = some c) (hf : fr[k]? = some f) : ricF l fr t (k + 1) = ricStep t k q c f := by
  rw [ricF, hc, hf, h]
theorem ricF_bd (l : List Clm) (fr : List Int) (t : Int) : ∀ k : Nat, -1 ≤ (ricF l fr t k).1 ∧ (ricF l fr t k).1 < k
  | 0 => by simp [ricF]
  | k + 1 => by
    have := ricF_bd l fr t k
    unfold ricF
    split
    · unfold ricStep
      split
      · omega
      · split
        · dsimp only; omega
        · omega
    · omega
def clmArr (c : Clm) : Array Value := #[.int .i64 c.r, .int .i64 c.l, .int .i64 c.s, .int .i64 c.p, .int .i64 c.a]

set_option maxHeartbeats 4000000 in
theorem richest_any (va vf : Value) (cs : List Clm) (fr : List Int) (t : Int) (w : World) (ha : ClmRow w va cs) (hf : IntRow w vf fr) (hl : cs.length = fr.length) (hfb : ∀ f ∈ fr, 0 ≤ f ∧ f ≤ 1000) :
    Calls Try.prog 35 #[va, vf, .int .i64 t] w (Ret w (.int .i64 (ricF cs fr t cs.length).1)) := by
  obtain ⟨ao, ca, rfl, a1, a2, a3⟩ := ha.out
  obtain ⟨bo, cb, rfl, b1, b2, b3⟩ := hf.out
  unfold maxLen at a2 b2
  clear ha hf
  obtain ⟨n, hn⟩ : ∃ n, cs.length = n := ⟨_, rfl⟩
  rw [← hl, hn] at b1 b3
  rw [← hl]
  rw [hn] at a1 a3 ⊢
  have HL : Hid (fr.length = n) := Lib.hid (hl.symm.trans hn); clear hl
  have HN := Lib.hid hn; clear hn
  have HF := Lib.hid hfb; clear hfb
  go_enter Try.func35, Try.ntmps35
  go_wp2_with fail
  go_loopw [7, 13] (fun bs i wr => ∃ (k : Nat) (best : Int) (pc : Clm), k ≤ n ∧ i = .int .i64 k ∧ bs = .int .i64 best ∧ Hid ((best, pc) = ricF cs fr t k) ∧ -1 ≤ best ∧ best < k ∧ HasBlock wr w.heap.size (clmArr pc) 23 ∧ Below w.heap.size w wr) (fun _ i _ => n - (intOf i).toNat)
  case atStart => exact ⟨0, -1, clm0, Nat.zero_le _, rfl, rfl, rfl, by omega, by omega, HasBlock.made _ _ _, (by repeat (first | with_reducible exact Below.refl _ _ | with_reducible refine Below.drew ?_ | (with_reducible refine Below.alloc ?_ (by first | exact Nat.le_refl _ | omega | (simp only [sizes]; omega)) _) | (with_reducible refine Below.setCell ?_ (by first | exact Nat.le_refl _ | omega | (simp only [sizes]; omega)) _) | (refine Below.trans ?_ (Below.mono (by with_reducible assumption) (by first | exact Nat.le_refl _ | omega | (simp only [sizes]; omega))))))⟩
  case round =>
    obtain ⟨k, best, ⟨pr, pl, ps, pp, pa⟩, hk, rfl, rfl, HB, hb0, hbk, HP0, hbw⟩ := hrel
    have HP1 : HasBlock wr w.heap.size #[.int .i64 pr, .int .i64 pl, .int .i64 ps, .int .i64 pp, .int .i64 pa] 23 := HP0
    clear HP0
    have x0 := (HP1.cell 0).trans rfl
    have x1 := (HP1.cell 1).trans rfl
    have x2 := (HP1.cell 2).trans rfl
    have x3 := (HP1.cell 3).trans rfl
    have x4 := (HP1.cell 4).trans rfl
    have xf := HP1.free
    have xz := HP1.lt
    have hbs0 := hbw.size
    by_cases hlt : k < n
    · obtain ⟨⟨r, l, s, p, a⟩, hx⟩ := get_lt (xs := cs) (k := k) (by rw [HN.out]; exact hlt)
      obtain ⟨f, hy⟩ := get_lt (xs := fr) (k := k) (by rw [HL.out]; exact hlt)
      have hfb := HF.out f (List.mem_of_getElem? hy)
      obtain ⟨b, off, rfl, hbs, hbc⟩ := a3.resolve_left (by omega)
      obtain ⟨b', off', rfl, hbs', hbc'⟩ := b3.resolve_left (by omega)
      obtain ⟨d0', d1', d2', d3', d4'⟩ := hbc k _ hx
      dsimp only at d0' d1' d2' d3' d4'
      have d0 := (hbw.cell (p := ⟨b, off + k * 5, none⟩) hbs).trans d0'
      have d1 := (hbw.cell (p := ⟨b, off + k * 5 + 1, none⟩) hbs).trans d1'
      have d2 := (hbw.cell (p := ⟨b, off + k * 5 + 2, none⟩) hbs).trans d2'
      have d3 := (hbw.cell (p := ⟨b, off + k * 5 + 3, none⟩) hbs).trans d3'
      have d4 := (hbw.cell (p := ⟨b, off + k * 5 + 4, none⟩) hbs).trans d4'
      clear d0' d1' d2' d3' d4'
      have e0 := (hbw.cell (p := ⟨b', off' + k, none⟩) hbs').trans (hbc' k f hy)
      have HX := Lib.hid hx; clear hx a3 b3 hbc hbc'
      have HY := Lib.hid hy; clear hy
      have hbs1 : b < wr.heap.size := by omega
      have hbs2 : b' < wr.heap.size := by omega
      by_cases hcl : l ≤ f
      · have hge : decide (l ≤ f) = true := decide_eq_true hcl
        go_wp2_with fail
        refine wp_region_quiet_below (by kernel_rfl) (by kernel_rfl) ?_
        repeat (go_big_quiet_step (first | fail | fail))
        refine wpQuiet_nil ?_
        intro w1 hw1
        have hb1 := below_of_regrown hw1
        clear hw1
        obtain ⟨hc1, hf1⟩ := bcell hb1
        have hz1 := bsize hb1
        try simp only [sizes1] at hz1
        try simp only [sizes] at hc1 hf1
        have hsz1 : w.heap.size < w1.heap.size := by omega
        go_wp2_with fail
        go_roundw
        case rel => exact ⟨k + 1, _, ⟨pr, pl, ps, pp, pa⟩, by omega, by go_num, rfl, (by have := ricF_succ HB.out HX.out HY.out; rw [ricStep, if_pos hcl] at this; exact this.symm), by omega, by omega, (show HasBlock _ _ #[.int .i64 pr, .int .i64 pl, .int .i64 ps, .int .i64 pp, .int .i64 pa] _ from (by repeat (first | with_reducible assumption | (with_reducible refine HasBlock.alloc ?_ _) | (with_reducible refine HasBlock.drew ?_) | (with_reducible refine HasBlock.set_ne ?_ (by omega) _) | (refine HasBlock.below ?_ (by with_reducible assumption))))), (by repeat (first | with_reducible exact Below.refl _ _ | with_reducible refine Below.drew ?_ | (with_reducible refine Below.alloc ?_ (by first | exact Nat.le_refl _ | omega | (simp only [sizes]; omega)) _) | (with_reducible refine Below.setCell ?_ (by first | exact Nat.le_refl _ | omega | (simp only [sizes]; omega)) _) | (refine Below.trans ?_ (Below.mono (by with_reducible assumption) (by first | exact Nat.le_refl _ | omega | (simp only [sizes]; omega))))))⟩
        case measure => simp [intOf]; omega
      · have hge : decide (l ≤ f) = false := decide_eq_false hcl
        by_cases hneg : best < 0
        · obtain rfl : best = -1 := by omega
          go_wp2_with fail
          refine wp_region_quiet_below (by kernel_rfl) (by kernel_rfl) ?_
          repeat (go_big_quiet_step (first | fail | fail))
          refine wpQuiet_nil ?_
          intro w1 hw1
          have hb1 := below_of_regrown hw1
          clear hw1
          obtain ⟨hc1, hf1⟩ := bcell hb1
          have hz1 := bsize hb1
          try simp only [sizes1] at hz1
          try simp only [sizes] at hc1 hf1
          have hsz1 : w.heap.size < w1.heap.size := by omega
          have hsz2 : b' < w1.heap.size := by omega
          go_wp2_with fail
          go_roundw
          case rel => exact ⟨k + 1, k, ⟨r, l, s, f + 1, a⟩, by omega, by go_num, rfl, (by have := ricF_succ HB.out HX.out HY.out; rw [ricStep, if_neg (show ¬ l ≤ f from by omega)] at this; exact this.symm), by omega, by omega, (show HasBlock _ _ #[.int .i64 r, .int .i64 l, .int .i64 s, .int .i64 (f + 1), .int .i64 a] _ from (by repeat (first | with_reducible assumption | (with_reducible refine HasBlock.alloc ?_ _) | (with_reducible refine HasBlock.drew ?_) | (with_reducible refine HasBlock.store5 (x0 := .int .i64 pr) (x1 := .int .i64 pl) (x2 := .int .i64 ps) (x3 := .int .i64 pp) (x4 := .int .i64 pa) ?_ _ _ _ _ _) | (with_reducible refine HasBlock.set_ne ?_ (by omega) _) | (refine HasBlock.below ?_ (by with_reducible assumption))))), (by repeat (first | with_reducible exact Below.refl _ _ | with_reducible refine Below.drew ?_ | (with_reducible refine Below.alloc ?_ (by first | exact Nat.le_refl _ | omega | (simp only [sizes]; omega)) _) | (with_reducible refine Below.setCell ?_ (by first | exact Nat.le_refl _ | omega | (simp only [sizes]; omega)) _) | (refine Below.trans ?_ (Below.mono (by with_reducible assumption) (by first | exact Nat.le_refl _ | omega | (simp only [sizes]; omega))))))⟩
          case measure => simp [intOf]; omega
        · obtain ⟨j, rfl⟩ : ∃ j : Nat, best = j := ⟨best.toNat, by omega⟩
          have hdn : decide ((j : Int) < 0) = false := decide_eq_false (by omega)
          cases hpo : poorB ⟨pr, pl, ps, pp, pa⟩ ⟨r, l, s, f + 1, a⟩ t
          · have HP := Lib.hid hpo; clear hpo
            go_wp2_with fail
            refine wp_region_quiet_below (by kernel_rfl) (by kernel_rfl) ?_
            repeat (go_big_quiet_step (first | fail | fail))
            refine wpQuiet_nil ?_
            intro w1 hw1
            have hb1 := below_of_regrown hw1
            clear hw1
            obtain ⟨hc1, hf1⟩ := bcell hb1
            have hz1 := bsize hb1
            try simp only [sizes1] at hz1
            try simp only [sizes] at hc1 hf1
            have hsz1 : w.heap.size < w1.heap.size := by omega
            have hsz2 : b' < w1.heap.size := by omega
            go_wp2_with fail
            refine (poor_is HP.out _).mono ?_
            rintro e w2 ⟨rfl, hb2⟩
            obtain ⟨hc2, hf2⟩ := bcell hb2
            have hz2 := bsize hb2
            try simp only [sizes1] at hz2
            try simp only [sizes] at hc2 hf2
            have hsz3 : w.heap.size < w2.heap.size := by omega
            go_wp2_with fail
            go_roundw
            case rel => exact ⟨k + 1, _, ⟨pr, pl, ps, pp, pa⟩, by omega, by go_num, rfl, (by have := ricF_succ HB.out HX.out HY.out; rw [ricStep, if_neg (show ¬ l ≤ f from by omega), hdn, Bool.false_or, show priced ⟨r, l, s, p, a⟩ f = ⟨r, l, s, f + 1, a⟩ from rfl, HP.out, if_neg (by simp)] at this; exact this.symm), by omega, by omega, (show HasBlock _ _ #[.int .i64 pr, .int .i64 pl, .int .i64 ps, .int .i64 pp, .int .i64 pa] _ from (by repeat (first | with_reducible assumption | (with_reducible refine HasBlock.alloc ?_ _) | (with_reducible refine HasBlock.drew ?_) | (with_reducible refine HasBlock.set_ne ?_ (by omega) _) | (refine HasBlock.below ?_ (by with_reducible assumption))))), (by repeat (first | with_reducible exact Below.refl _ _ | with_reducible refine Below.drew ?_ | (with_reducible refine Below.alloc ?_ (by first | exact Nat.le_refl _ | omega | (simp only [sizes]; omega)) _) | (with_reducible refine Below.setCell ?_ (by first | exact Nat.le_refl _ | omega | (simp only [sizes]; omega)) _) | (refine Below.trans ?_ (Below.mono (by with_reducible assumption) (by first | exact Nat.le_refl _ | omega | (simp only [sizes]; omega))))))⟩
            case measure => simp [intOf]; omega
          · have HP := Lib.hid hpo; clear hpo
            go_wp2_with fail
            refine wp_region_quiet_below (by kernel_rfl) (by kernel_rfl) ?_
            repeat (go_big_quiet_step (first | fail | fail))
            refine wpQuiet_nil ?_
            intro w1 hw1
            have hb1 := below_of_regrown hw1
            clear hw1
            obtain ⟨hc1, hf1⟩ := bcell hb1
            have hz1 := bsize hb1
            try simp only [sizes1] at hz1
            try simp only [sizes] at hc1 hf1
            have hsz1 : w.heap.size < w1.heap.size := by omega
            have hsz2 : b' < w1.heap.size := by omega
            go_wp2_with fail
            refine (poor_is HP.out _).mono ?_
            rintro e w2 ⟨rfl, hb2⟩
            obtain ⟨hc2, hf2⟩ := bcell hb2
            have hz2 := bsize hb2
            try simp only [sizes1] at hz2
            try simp only [sizes] at hc2 hf2
            have hsz3 : w.heap.size < w2.heap.size := by omega
            go_wp2_with fail
            go_roundw
            case rel => exact ⟨k + 1, k, ⟨r, l, s, f + 1, a⟩, by omega, by go_num, rfl, (by have := ricF_succ HB.out HX.out HY.out; rw [ricStep, if_neg (show ¬ l ≤ f from by omega), hdn, Bool.false_or, show priced ⟨r, l, s, p, a⟩ f = ⟨r, l, s, f + 1, a⟩ from rfl, HP.out, if_pos rfl] at this; exact this.symm), by omega, by omega, (show HasBlock _ _ #[.int .i64 r, .int .i64 l, .int .i64 s, .int .i64 (f + 1), .int .i64 a] _ from (by repeat (first | with_reducible assumption | (with_reducible refine HasBlock.alloc ?_ _) | (with_reducible refine HasBlock.drew ?_) | (with_reducible refine HasBlock.store5 (x0 := .int .i64 pr) (x1 := .int .i64 pl) (x2 := .int .i64 ps) (x3 := .int .i64 pp) (x4 := .int .i64 pa) ?_ _ _ _ _ _) | (with_reducible refine HasBlock.set_ne ?_ (by omega) _) | (refine HasBlock.below ?_ (by with_reducible assumption))))), (by repeat (first | with_reducible exact Below.refl _ _ | with_reducible refine Below.drew ?_ | (with_reducible refine Below.alloc ?_ (by first | exact Nat.le_refl _ | omega | (simp only [sizes]; omega)) _) | (with_reducible refine Below.setCell ?_ (by first | exact Nat.le_refl _ | omega | (simp only [sizes]; omega)) _) | (refine Below.trans ?_ (Below.mono (by with_reducible assumption) (by first | exact Nat.le_refl _ | omega | (simp only [sizes]; omega))))))⟩
            case measure => simp [intOf]; omega
    · obtain rfl : k = n := by omega
      go_wp2_with fail
      go_ret
      exact Ret.mk' (by rw [← HB.out]; rfl) (by repeat (first | with_reducible exact Below.refl _ _ | with_reducible refine Below.drew ?_ | (with_reducible refine Below.alloc ?_ (by first | exact Nat.le_refl _ | omega | (simp only [sizes]; omega)) _) | (with_reducible refine Below.setCell ?_ (by first | exact Nat.le_refl _ | omega | (simp only [sizes]; omega)) _) | (refine Below.trans ?_ (Below.mono (by with_reducible assumption) (by first | exact Nat.le_refl _ | omega | (simp only [sizes]; omega))))))
end Go.Proofs.Ytclnjjppcdgkiaa
