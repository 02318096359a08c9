/-
  The law on copies in parts, walked.
-/
import Derived.Test.YtfomfokgibijjaaMirAwake
import Derived.Deep.Cut
import Derived.Deep.CutRange
namespace Go.Proofs.Ytfomfokgibijjaa
open Go.RowKit

theorem mirRow {w : World} {S T : List ByteArray} {c : Int} {vs vt : Value} (h1 : StrRow w vs S) (h2 : StrRow w vt T) : MirRow w S T c (.agg #[vs, vt, .int .i64 c]) := ⟨vs, vt, rfl, h1, h2⟩
/-- After a copy of k blocks in all. -/
theorem cp_zero {S T : List ByteArray} {c : Int} : cpT S T c 0 = T ∧ cpC S T c 0 = c := by
  unfold cpT cpC goodC
  rw [decide_eq_false (by omega), Bool.and_false]
  exact ⟨rfl, rfl⟩
theorem cpC_eq {S T : List ByteArray} {c q : Int} (h : validB S T c = true) (hq : 0 ≤ q) : cpC S T c q = c + min q (S.length - c) := by
  have h5 := (validB_iff.1 h).1.2.2.2.2
  unfold cpC goodC
  rw [h, Bool.true_and]
  by_cases h1 : 1 ≤ q
  · rw [decide_eq_true h1, if_pos rfl]
  · rw [decide_eq_false h1, if_neg (by decide)]
    omega
theorem cp_add {S T : List ByteArray} {c j k : Int} (h : validB S T c = true) (hj : 0 ≤ j) (hk : 0 ≤ k) : cpT S (cpT S T c j) (cpC S T c j) k = cpT S T c (j + k) ∧ cpC S (cpT S T c j) (cpC S T c j) k = cpC S T c (j + k) := by
  have hv := copy_valid (q := j) h
  have hd := (validB_iff.1 h).1
  have hd1 := (validB_iff.1 hv).1
  have hC := fun q hq => cpC_eq (q := q) h hq
  have hC1 := fun q hq => cpC_eq (q := q) hv hq
  have h5 := hd.2.2.2.2
  have e : cpC S (cpT S T c j) (cpC S T c j) k = cpC S T c (j + k) := by
    rw [hC1 k hk, hC j hj, hC (j + k) (by omega)]
    omega
  refine ⟨?_, e⟩
  apply List.ext_getElem?
  intro i
  rw [cpT_at hd1, cpT_at hd, cpT_at hd, e]
  have b1 := hC j hj
  have b2 := hC (j + k) (by omega)
  by_cases a1 : cpC S T c j ≤ (i : Int) ∧ (i : Int) < cpC S T c (j + k)
  · rw [if_pos a1, if_pos (by omega)]
  · rw [if_neg a1]
    by_cases a2 : c ≤ (i : Int) ∧ (i : Int) < cpC S T c j
    · rw [if_pos a2, if_pos (by omega)]
    · rw [if_neg a2, if_neg (by omega)]
set_option maxRecDepth 100000 in
theorem parts_out (n : Int) (ao : Option Addr) (len cap : Nat) (w : World) (h : 20 < len) (hl : len ≤ 9223372036854775807) : Calls Try.prog 5 #[.int .i64 n, .slice ao len cap] w (Ret w (.bool true)) := by
  go_enter Try.func5, Try.ntmps5
  go_wp2_with fail
  refine (awake_any _).mono ?_
  rintro e w1 ⟨rfl, hb1⟩
  obtain ⟨hc1, hf1⟩ := bcell hb1
  have hz1 := bsize hb1
  try simp only [sizes1] at hz1
  try simp only [sizes] at hc1 hf1
  go_wp2_with fail
  go_ret
  exact Ret.mk (by repeat (first | with_reducible exact Below.refl _ _ | with_reducible refine Below.drew ?_ | (with_reducible refine Below.alloc ?_ (by first | exact Nat.le_refl _ | omega | (simp only [sizes]; omega)) _) | (with_reducible refine Below.setCell ?_ (by first | exact Nat.le_refl _ | omega | (simp only [sizes]; omega)) _) | (refine Below.trans ?_ (Below.mono (by with_reducible assumption) (by first | exact Nat.le_refl _ | omega | (simp only [sizes]; omega))))))
set_option maxRecDepth 100000 in
theorem keeps_out (n : Int) (ao : Option Addr) (len cap : Nat) (w : World) (h : 60 < len) (hl : len ≤ 9223372036854775807) : Calls Try.prog 4 #[.int .i64 n, .slice ao len cap] w (Ret w (.bool true)) := by
  go_enter Try.func4, Try.ntmps4
  go_wp2_with fail
  refine (awake_any _).mono ?_
  rintro e w1 ⟨rfl, hb1⟩
  obtain ⟨hc1, hf1⟩ := bcell hb1
  have hz1 := bsize hb1
  try simp only [sizes1] at hz1
  try simp only [sizes] at hc1 hf1
  go_wp2_with fail
  go_ret
  exact Ret.mk (by repeat (first | with_reducible exact Below.refl _ _ | with_reducible refine Below.drew ?_ | (with_reducible refine Below.alloc ?_ (by first | exact Nat.le_refl _ | omega | (simp only [sizes]; omega)) _) | (with_reducible refine Below.setCell ?_ (by first | exact Nat.le_refl _ | omega | (simp only [sizes]; omega)) _) | (refine Below.trans ?_ (Below.mono (by with_reducible assumption) (by first | exact Nat.le_refl _ | omega | (simp only [sizes]; omega))))))
/-- What Begin makes of a disk of four blocks. -/
theorem begin4 (S : List ByteArray) (hl : S.length = 4) (hb : begB S = true) (va : Value) (w : World) (h : StrRow w va S) : Calls Try.prog 8 #[va] w (Ret4 S Z4 0 true w) := by
  have hh := begin_any va S w h (by rw [hl]; omega)
  rw [show begS S = S by unfold begS; rw [if_pos hb], show begT S = Z4 by unfold begT; rw [if_pos hb, hl]; rfl, hb] at hh
  exact hh.mono fun _ _ h => ret4 h hl Z4_len
theorem beg_valid {S : List ByteArray} (hl : S.length = 4) (hb : begB S = true) : validB S Z4 0 = true := by
  unfold begB at hb
  rw [hl] at hb
  exact hb
theorem copy4 (S T : List ByteArray) (c q : Int) (hs : S.length = 4) (ht : T.length = 4) (hv : validB S T c = true) (hq : -9223372036854775808 ≤ q ∧ q ≤ 9223372036854775807) (vs vt : Value) (w : World) (h1 : StrRow w vs S) (h2 : StrRow w vt T) : Calls Try.prog 17 #[.agg #[vs, vt, .int .i64 c], .int .i64 q] w (Ret4' S (cpT S T c q) (cpC S T c q) w) := by
  have hc := (validB_iff.1 hv).1
  have h5 := hc.2.2.2
  have hb := copy_mir vs vt S T c q w h1 h2 (by omega) (by omega) (by omega) hq
  exact hb.mono fun _ _ h => ret4' h hs ((cpT_len _ _ _ _).trans ht)
set_option maxRecDepth 100000 in
set_option maxHeartbeats 8000000 in
theorem parts_in (n : Int) (va : Value) (ls : List Int) (w : World) (ha : IntRow w va ls) (h : ls.length ≤ 20) (hb : ∀ x ∈ ls, -9223372036854775808 ≤ x ∧ x ≤ 9223372036854775807) : Calls Try.prog 5 #[.int .i64 n, va] w (Ret w (.bool true)) := by
  obtain ⟨ao, ca, rfl, a1, a2, a3⟩ := ha.out
  unfold maxLen at a2
  clear ha
  obtain ⟨N, hN⟩ : ∃ n, ls.length = n := ⟨_, rfl⟩
  rw [hN] at h a1 a3 ⊢
  have HN := Lib.hid hN; clear hN
  have HB := Lib.hid hb; clear hb
  have BK := fun w => blocks_any n w
  have hbeg := blocks_beg n
  have hlen := blocksL_len n 4
  obtain ⟨S, hS⟩ : ∃ S, blocksL n 4 = S := ⟨_, rfl⟩
  rw [hS] at BK hbeg hlen
  clear hS
  have hval := beg_valid hlen hbeg
  have BG := fun va w h => begin4 S hlen hbeg va w h
  have CP := fun T c q ht hv hq vs vt w h1 h2 => copy4 S T c q hlen ht hv hq vs vt w h1 h2
  have HBK := Lib.hid BK; clear BK
  have HBG := Lib.hid BG; clear BG
  have HCP := Lib.hid CP; clear CP
  have HL := Lib.hid hlen; clear hlen
  have HVAL := Lib.hid hval; clear hval hbeg
  have hzl := Z4_len
  obtain ⟨Z, hZ⟩ : ∃ Z, Z4 = Z := ⟨_, rfl⟩
  rw [hZ] at HBG HVAL hzl
  have HZL := Lib.hid hzl; clear hzl hZ
  go_enter Try.func5, Try.ntmps5
  go_wp2_with fail
  refine (HBK.out _).mono ?_
  rintro e w1 ⟨v1, rfl, ho1, hb1⟩
  have HR1 := Lib.hid ho1.row
  obtain ⟨q1, kk1, rfl, _, _⟩ := ho1.formN HL.out
  clear ho1
  go_wp2_with fail
  refine (HBG.out _ _ HR1.out).mono ?_
  rintro e w2 ⟨bo, co, cb, cc, rfl, r1, r2, hb2⟩
  have hbw2 : Below w.heap.size w w2 := hb1.trans (hb2.mono hb1.size)
  clear hb1 hb2 HR1
  have hz2 := hbw2.size
  go_wp2_with fail
  have D1 := (HasBlock.made w2 #[.slice bo 4 cb, .slice co 4 cc, .int .i64 0] 24).alloc (.cells #[.slice bo 4 cb, .slice co 4 cc, .int .i64 0] 24)
  have D2 := HasBlock.made (w2.alloc (.cells #[.slice bo 4 cb, .slice co 4 cc, .int .i64 0] 24)) #[.slice bo 4 cb, .slice co 4 cc, .int .i64 0] 24
  simp only [sizes] at D2
  have hb3 : Below w2.heap.size w2 ((w2.alloc (.cells #[.slice bo 4 cb, .slice co 4 cc, .int .i64 0] 24)).alloc (.cells #[.slice bo 4 cb, .slice co 4 cc, .int .i64 0] 24)) := (by repeat (first | with_reducible exact Below.refl _ _ | with_reducible refine Below.drew ?_ | (with_reducible refine Below.alloc ?_ (by first | exact Nat.le_refl _ | omega | (dsimp only; omega) | (simp only [sizes]; omega)) _) | (with_reducible refine Below.setCell ?_ (by first | exact Nat.le_refl _ | omega | (dsimp only; omega) | (simp only [sizes]; omega)) _) | (refine Below.trans ?_ (Below.mono (by with_reducible assumption) (by first | exact Nat.le_refl _ | omega | (dsimp only; omega) | (simp only [sizes]; omega))))))
  have s1 := Lib.hid (r1.below hb3)
  have s2 := Lib.hid (r2.below hb3)
  have hbw3 := hbw2.trans (hb3.mono hbw2.size)
  clear r1 r2 hbw2 hb3
  obtain ⟨B, hB⟩ : ∃ B, w2.heap.size = B := ⟨_, rfl⟩
  rw [hB] at D1 D2 hz2 ⊢
  clear hB
  generalize hW : (w2.alloc (.cells #[.slice bo 4 cb, .slice co 4 cc, .int .i64 0] 24)).alloc (.cells #[.slice bo 4 cb, .slice co 4 cc, .int .i64 0] 24) = w3 at D1 D2 s1 s2 hbw3 ⊢
  clear hW
  go_loopw [8, 9] (fun sv i wr => ∃ (k : Nat) (sm : Nat) (eo fo : Option Addr) (ec fc : Nat), k ≤ N ∧ i = .int .i64 k ∧ sv = .int .i64 sm ∧ sm ≤ 3 * k ∧ HasBlock wr B #[.slice bo 4 cb, .slice co 4 cc, .int .i64 0] 24 ∧ HasBlock wr (B + 1) #[.slice eo 4 ec, .slice fo 4 fc, .int .i64 (cpC S Z 0 sm)] 24 ∧ StrRow wr (.slice bo 4 cb) S ∧ StrRow wr (.slice co 4 cc) Z ∧ StrRow wr (.slice eo 4 ec) S ∧ StrRow wr (.slice fo 4 fc) (cpT S Z 0 sm) ∧ Below w.heap.size w wr) (fun _ i _ => N - (intOf i).toNat)
  case atStart =>
    have hz := cp_zero (S := S) (T := Z) (c := 0)
    exact ⟨0, 0, bo, co, cb, cc, Nat.zero_le _, rfl, rfl, by omega, D1, by rw [show ((0 : Nat) : Int) = 0 from rfl, hz.2]; exact D2, s1.out, s2.out, s1.out, by rw [show ((0 : Nat) : Int) = 0 from rfl, hz.1]; exact s2.out, hbw3⟩
  case round =>
    obtain ⟨k, sm, eo, fo, ec, fc, hk, rfl, rfl, hsm, E1, E2, t1, t2, t3, t4, hbw⟩ := hrel
    clear D1 D2 s1 s2 hbw3
    have hsz0 := hbw.size
    have hvk := copy_valid (q := (sm : Int)) HVAL.out
    have htl := (cpT_len S Z 0 sm).trans HZL.out
    have hadd := fun j hj => cp_add (j := (sm : Int)) (k := j) HVAL.out (by omega) hj
    obtain ⟨T', hT'⟩ : ∃ T', cpT S Z 0 sm = T' := ⟨_, rfl⟩
    obtain ⟨c', hc'⟩ : ∃ c', cpC S Z 0 sm = c' := ⟨_, rfl⟩
    rw [hT', hc'] at hvk hadd
    rw [hT'] at t4 htl
    rw [hc'] at E2
    have HVK := Lib.hid hvk; clear hvk
    have HADD := Lib.hid hadd; clear hadd
    have HTL := Lib.hid htl; clear htl
    have HT' := Lib.hid hT'; clear hT'
    have HC' := Lib.hid hc'; clear hc'
    have T1 := Lib.hid t1; clear t1
    have T2 := Lib.hid t2; clear t2
    have T3 := Lib.hid t3; clear t3
    have T4 := Lib.hid t4; clear t4
    have x0 := (E1.cell 0).trans rfl
    have x1 := (E1.cell 1).trans rfl
    have x2 := (E1.cell 2).trans rfl
    have xf := E1.free
    have xz := E1.lt
    have y0 := (E2.cell 0).trans rfl
    have y1 := (E2.cell 1).trans rfl
    have y2 := (E2.cell 2).trans rfl
    have yf := E2.free
    have yz := E2.lt
    by_cases hlt : k < N
    · obtain ⟨x, hx⟩ := get_lt (xs := ls) (k := k) (by rw [HN.out]; exact hlt)
      have hxb := HB.out x (List.mem_of_getElem? hx)
      obtain ⟨b, off, rfl, hbs, hbc⟩ := a3.resolve_left (by omega)
      have hcx := (hbw.cell (p := ⟨b, off + k, none⟩) hbs).trans (hbc k x hx)
      clear hx hbc a3
      have v1 := Int.emod_nonneg x (show (3 : Int) ≠ 0 by omega)
      have v2 := Int.emod_lt_of_pos x (show (0 : Int) < 3 by omega)
      have R := fun w => round_any x 3 w hxb (by omega) (by omega)
      obtain ⟨p, hp⟩ : ∃ v : Nat, x % 3 = v := ⟨(x % 3).toNat, by omega⟩
      rw [hp] at R v1 v2
      have HR := Lib.hid R; clear R hp
      go_wp2_with fail
      refine (HR.out _).mono ?_
      rintro e w4 ⟨rfl, hb4⟩
      have F1 := E1.below hb4
      have F2 := E2.below hb4
      have hbw4 := hbw.trans (hb4.mono hbw.size)
      have s3 := T3.out.below hb4
      have s4 := T4.out.below hb4
      have s1 := Lib.hid (T1.out.below hb4)
      have s2 := Lib.hid (T2.out.below hb4)
      clear x0 x1 x2 xf xz
      clear y0 y1 y2 yf yz
      clear E1 E2 hb4 hbw T1 T2 T3 T4 hcx
      have x0 := (F1.cell 0).trans rfl
      have x1 := (F1.cell 1).trans rfl
      have x2 := (F1.cell 2).trans rfl
      have xf := F1.free
      have xz := F1.lt
      have y0 := (F2.cell 0).trans rfl
      have y1 := (F2.cell 1).trans rfl
      have y2 := (F2.cell 2).trans rfl
      have yf := F2.free
      have yz := F2.lt
      go_wp2_with fail
      with_reducible refine (HCP.out T' c' p HTL.out HVK.out (by omega) _ _ _ s3 s4).mono ?_
      rintro e w5 ⟨go', ho, gc, hc, rfl, r1, r2, hb5⟩
      have E1 := F1.below hb5
      have E2 := F2.below hb5
      have hbw5 := hbw4.trans (hb5.mono hbw4.size)
      have s1' := s1.out.below hb5
      have s2' := s2.out.below hb5
      clear x0 x1 x2 xf xz
      clear y0 y1 y2 yf yz
      clear F1 F2 hb5 hbw4 s1 s2 s3 s4
      have x0 := (E1.cell 0).trans rfl
      have x1 := (E1.cell 1).trans rfl
      have x2 := (E1.cell 2).trans rfl
      have xf := E1.free
      have xz := E1.lt
      have y0 := (E2.cell 0).trans rfl
      have y1 := (E2.cell 1).trans rfl
      have y2 := (E2.cell 2).trans rfl
      have yf := E2.free
      have yz := E2.lt
      go_wp2_with fail
      go_roundw
      case rel =>
        have e1 := (HADD.out p (by omega)).1
        have e2 := (HADD.out p (by omega)).2
        refine ⟨k + 1, sm + p, go', ho, gc, hc, by omega, by go_num, by go_num, by omega, ?_, ?_, ?_, ?_, ?_, ?_, (by repeat (first | with_reducible exact Below.refl _ _ | with_reducible refine Below.drew ?_ | (with_reducible refine Below.alloc ?_ (by first | exact Nat.le_refl _ | omega | (dsimp only; omega) | (simp only [sizes]; omega)) _) | (with_reducible refine Below.setCell ?_ (by first | exact Nat.le_refl _ | omega | (dsimp only; omega) | (simp only [sizes]; omega)) _) | (refine Below.trans ?_ (Below.mono (by with_reducible assumption) (by first | exact Nat.le_refl _ | omega | (dsimp only; omega) | (simp only [sizes]; omega))))))⟩
        · exact ((E1.set_ne (by omega) _).set_ne (by omega) _).set_ne (by omega) _
        · rw [show ((sm + p : Nat) : Int) = (sm : Int) + p by omega, ← e2]
          exact HasBlock.store3 E2
        · exact StrRow.store3 s1' E2
        · exact StrRow.store3 s2' E2
        · exact StrRow.store3 r1 E2
        · rw [show ((sm + p : Nat) : Int) = (sm : Int) + p by omega, ← e1]
          exact StrRow.store3 r2 E2
      case measure => simp [intOf]; omega
    · obtain rfl : k = N := by omega
      have CPZ := fun vs vt w h1 h2 => HCP.out Z 0 sm HZL.out HVAL.out (by omega) vs vt w h1 h2
      rw [HT'.out, HC'.out] at CPZ
      have HCPZ := Lib.hid CPZ; clear CPZ
      go_upto_region 11 with (fail)
      go_region_with (first
        | (go_at_call 17; refine (HCPZ.out _ _ _ (T1.out.below (by repeat (first | with_reducible exact Below.refl _ _ | with_reducible refine Below.drew ?_ | (with_reducible refine Below.alloc ?_ (by first | exact Nat.le_refl _ | omega | (dsimp only; omega) | (simp only [sizes]; omega)) _) | (with_reducible refine Below.setCell ?_ (by first | exact Nat.le_refl _ | omega | (dsimp only; omega) | (simp only [sizes]; omega)) _) | (refine Below.trans ?_ (Below.mono (by with_reducible assumption) (by first | exact Nat.le_refl _ | omega | (dsimp only; omega) | (simp only [sizes]; omega))))))) (T2.out.below (by repeat (first | with_reducible exact Below.refl _ _ | with_reducible refine Below.drew ?_ | (with_reducible refine Below.alloc ?_ (by first | exact Nat.le_refl _ | omega | (dsimp only; omega) | (simp only [sizes]; omega)) _) | (with_reducible refine Below.setCell ?_ (by first | exact Nat.le_refl _ | omega | (dsimp only; omega) | (simp only [sizes]; omega)) _) | (refine Below.trans ?_ (Below.mono (by with_reducible assumption) (by first | exact Nat.le_refl _ | omega | (dsimp only; omega) | (simp only [sizes]; omega)))))))).mono ?_; rintro e w9 ⟨go', ho, gc, hc, rfl, r1, r2, hb9⟩; have hB9 : Below wr.heap.size wr w9 := (by repeat (first | with_reducible exact Below.refl _ _ | with_reducible refine Below.drew ?_ | (with_reducible refine Below.alloc ?_ (by first | exact Nat.le_refl _ | omega | (dsimp only; omega) | (simp only [sizes]; omega)) _) | (with_reducible refine Below.setCell ?_ (by first | exact Nat.le_refl _ | omega | (dsimp only; omega) | (simp only [sizes]; omega)) _) | (refine Below.trans ?_ (Below.mono (by with_reducible assumption) (by first | exact Nat.le_refl _ | omega | (dsimp only; omega) | (simp only [sizes]; omega)))))); obtain ⟨hc9, hf9⟩ := bcell hB9; have hz9 := hB9.size; clear hb9)
        | (go_at_call 16; refine (same_mir _ _ S T' c' _ (mirRow (T3.out.below (by repeat (first | with_reducible exact Below.refl _ _ | with_reducible refine Below.drew ?_ | (with_reducible refine Below.alloc ?_ (by first | exact Nat.le_refl _ | omega | (dsimp only; omega) | (simp only [sizes]; omega)) _) | (with_reducible refine Below.setCell ?_ (by first | exact Nat.le_refl _ | omega | (dsimp only; omega) | (simp only [sizes]; omega)) _) | (refine Below.trans ?_ (Below.mono (by with_reducible assumption) (by first | exact Nat.le_refl _ | omega | (dsimp only; omega) | (simp only [sizes]; omega))))))) (T4.out.below (by repeat (first | with_reducible exact Below.refl _ _ | with_reducible refine Below.drew ?_ | (with_reducible refine Below.alloc ?_ (by first | exact Nat.le_refl _ | omega | (dsimp only; omega) | (simp only [sizes]; omega)) _) | (with_reducible refine Below.setCell ?_ (by first | exact Nat.le_refl _ | omega | (dsimp only; omega) | (simp only [sizes]; omega)) _) | (refine Below.trans ?_ (Below.mono (by with_reducible assumption) (by first | exact Nat.le_refl _ | omega | (dsimp only; omega) | (simp only [sizes]; omega)))))))) (mirRow (r1.below (by repeat (first | with_reducible exact Below.refl _ _ | with_reducible refine Below.drew ?_ | (with_reducible refine Below.alloc ?_ (by first | exact Nat.le_refl _ | omega | (dsimp only; omega) | (simp only [sizes]; omega)) _) | (with_reducible refine Below.setCell ?_ (by first | exact Nat.le_refl _ | omega | (dsimp only; omega) | (simp only [sizes]; omega)) _) | (refine Below.trans ?_ (Below.mono (by with_reducible assumption) (by first | exact Nat.le_refl _ | omega | (dsimp only; omega) | (simp only [sizes]; omega))))))) (r2.below (by repeat (first | with_reducible exact Below.refl _ _ | with_reducible refine Below.drew ?_ | (with_reducible refine Below.alloc ?_ (by first | exact Nat.le_refl _ | omega | (dsimp only; omega) | (simp only [sizes]; omega)) _) | (with_reducible refine Below.setCell ?_ (by first | exact Nat.le_refl _ | omega | (dsimp only; omega) | (simp only [sizes]; omega)) _) | (refine Below.trans ?_ (Below.mono (by with_reducible assumption) (by first | exact Nat.le_refl _ | omega | (dsimp only; omega) | (simp only [sizes]; omega))))))))).mono ?_; rintro e w10 ⟨rfl, hb10⟩; have hB10 : Below wr.heap.size wr w10 := (by repeat (first | with_reducible exact Below.refl _ _ | with_reducible refine Below.drew ?_ | (with_reducible refine Below.alloc ?_ (by first | exact Nat.le_refl _ | omega | (dsimp only; omega) | (simp only [sizes]; omega)) _) | (with_reducible refine Below.setCell ?_ (by first | exact Nat.le_refl _ | omega | (dsimp only; omega) | (simp only [sizes]; omega)) _) | (refine Below.trans ?_ (Below.mono (by with_reducible assumption) (by first | exact Nat.le_refl _ | omega | (dsimp only; omega) | (simp only [sizes]; omega)))))); have hz10 := hB10.size; clear hb10)
        | (go_at_call 7; refine (awake_any _).mono ?_; rintro e w11 ⟨rfl, hb11⟩; have hB11 : Below wr.heap.size wr w11 := (by repeat (first | with_reducible exact Below.refl _ _ | with_reducible refine Below.drew ?_ | (with_reducible refine Below.alloc ?_ (by first | exact Nat.le_refl _ | omega | (dsimp only; omega) | (simp only [sizes]; omega)) _) | (with_reducible refine Below.setCell ?_ (by first | exact Nat.le_refl _ | omega | (dsimp only; omega) | (simp only [sizes]; omega)) _) | (refine Below.trans ?_ (Below.mono (by with_reducible assumption) (by first | exact Nat.le_refl _ | omega | (dsimp only; omega) | (simp only [sizes]; omega)))))); clear hb11))
      all_goals
        go_wp2_with fail
        go_ret
        exact Ret.mk (by repeat (first | with_reducible exact Below.refl _ _ | with_reducible refine Below.drew ?_ | (with_reducible refine Below.alloc ?_ (by first | exact Nat.le_refl _ | omega | (dsimp only; omega) | (simp only [sizes]; omega)) _) | (with_reducible refine Below.setCell ?_ (by first | exact Nat.le_refl _ | omega | (dsimp only; omega) | (simp only [sizes]; omega)) _) | (refine Below.trans ?_ (Below.mono (by with_reducible assumption) (by first | exact Nat.le_refl _ | omega | (dsimp only; omega) | (simp only [sizes]; omega))))))
end Go.Proofs.Ytfomfokgibijjaa
