/-
  Texts joined for the hand-in, in build order: HoScan HoAct HoPAwake HoAwake Law. No law is proved here.
-/
import Derived.Test.YtbnngjhnkegliaaB8
import Derived.Test.YtbnngjhnkegliaaB7
import Derived.Test.YtbnngjhnkegliaaB9
import Derived.Deep.RegionLaw
import Derived.Test.YtbnngjhnkegliaaRows
import Derived.ProofKit
import Derived.OpenShut
import Derived.Lib.SmallJoins
import Derived.Deep.Fields
import Derived.Test.YtbnngjhnkegliaaB1
namespace Go.Proofs.Ytbnngjhnkegliaa
open Go.RowKit

theorem info_pair : (Try.prog.info? 73).map (fun i => (i.zero, i.size, i.bytes)) = some (some (.agg #[.int .i64 0, .int .i64 0]), 2, 16) := by kernel_rfl
theorem one_pair (a b : Int) : ∀ u ∈ [Value.int .i64 a, .int .i64 b], u.oneCell' = true := by
  intro u hu
  simp at hu
  rcases hu with rfl | rfl <;> rfl
/-- A list of pairs as its cells. -/
def prFlat (O : List (Nat × Nat)) : List Value := O.flatMap (fun x => [.int .i64 x.1, .int .i64 x.2])
theorem prFlat_at : ∀ (O : List (Nat × Nat)) (i : Nat) (x : Nat × Nat), O[i]? = some x → (prFlat O)[i * 2]? = some (.int .i64 x.1) ∧ (prFlat O)[i * 2 + 1]? = some (.int .i64 x.2)
  | [], _, _, h => by simp at h
  | a :: O, 0, x, h => by
    simp at h
    subst h
    exact ⟨rfl, rfl⟩
  | a :: O, i + 1, x, h => by
    have h1 := prFlat_at O i x (by simpa using h)
    have e : prFlat (a :: O) = .int .i64 a.1 :: .int .i64 a.2 :: prFlat O := rfl
    rw [e, show (i + 1) * 2 = i * 2 + 1 + 1 from by omega]
    exact h1
theorem prFlat_push (O : List (Nat × Nat)) (x : Nat × Nat) : prFlat (O ++ [x]) = prFlat O ++ [.int .i64 x.1, .int .i64 x.2] := by
  unfold prFlat
  rw [List.flatMap_append]
  rfl
/-- The pages of the guests before a guest, and some of its own. -/
def ordUp (P : Pl) (i k : Nat) : List (Nat × Nat) := ordTo P i ++ (List.range k).map (fun p => (i, p))
theorem ordUp_succ (P : Pl) (i k : Nat) : ordUp P i (k + 1) = ordUp P i k ++ [(i, k)] := by
  unfold ordUp
  rw [List.range_succ, List.map_append, List.append_assoc]
  rfl
theorem ordUp_len (P : Pl) (i k : Nat) : (ordUp P i k).length = (ordTo P i).length + k := by
  unfold ordUp
  rw [List.length_append, List.length_map, List.length_range]
set_option maxRecDepth 100000 in
set_option maxHeartbeats 8000000 in
theorem hscan_ok (v : Value) (H : Ho) (k : Int) (w : World) (ha : HoAt w v H) (hok : H.Ok) (hk : -9223372036854775808 ≤ k ∧ k ≤ 9223372036854775807) : Calls Try.prog 16 #[v, .int .i64 k] w (RetHoB (fun v => v) (H.scan k) w) := by
  have CL := fun v w h => hclone_ok v H w h hok
  have HV0 := fun v w h => hvalid_ok v H w h hok
  have HCL := Lib.hid CL; clear CL
  have HHS := Lib.hid HV0; clear HV0
  have hbd := hok.bounds
  have hol := ord_len H
  have hsn := hok.n
  obtain ⟨of, or', om, og, kf, kr, km, kg, rfl, kf1, kf2, kr1, kr2, km1, km2, kg1, kg2, h⟩ := ha
  obtain ⟨n, hn⟩ : ∃ n, H.P.F.length = n := ⟨_, rfl⟩
  obtain ⟨r, hr⟩ : ∃ n, H.P.R.length = n := ⟨_, rfl⟩
  obtain ⟨m, hm⟩ : ∃ n, H.P.M.length = n := ⟨_, rfl⟩
  obtain ⟨q, hq⟩ : ∃ n, H.G.length = n := ⟨_, rfl⟩
  obtain ⟨tx, htx⟩ : ∃ n, H.t = n := ⟨_, rfl⟩
  obtain ⟨dx, hdx⟩ : ∃ n, H.d = n := ⟨_, rfl⟩
  obtain ⟨sx, hsx⟩ : ∃ n, H.n = n := ⟨_, rfl⟩
  rw [hn] at h kf1 ⊢
  rw [hr] at h kr1 ⊢
  rw [hm] at h km1 ⊢
  rw [hq] at h kg1 ⊢
  rw [htx, hdx, hsx]
  have HN := Lib.hid hn; clear hn
  have HR := Lib.hid hr; clear hr
  have HM := Lib.hid hm; clear hm
  have HQ := Lib.hid hq; clear hq
  have HT := Lib.hid htx; clear htx
  have HD := Lib.hid hdx; clear hdx
  have HS := Lib.hid hsx; clear hsx
  rw [HN.out, HR.out, HM.out, HQ.out] at hbd
  rw [HS.out] at hsn
  have h0 := h
  have HVA : Hid (∀ w' : World, Below w.heap.size w w' → HoAt w' (.agg #[.slice of n kf, .slice or' r kr, .slice om m km, .slice og q kg, .int .i64 tx, .int .u64 dx, .int .i64 sx]) H) := Lib.hid (fun w' hb => by
    have := (h0.below hb).at_
    rwa [HT.out, HD.out, HS.out] at this)
  have H0 := Lib.hid h0
  clear h h0
  have D1 := (HasBlock.made w #[.slice of n kf, .slice or' r kr, .slice om m km, .slice og q kg, .int .i64 tx, .int .u64 dx, .int .i64 sx] 31).alloc (.cells #[.slice none 0 0, .slice none 0 0, .slice none 0 0, .slice none 0 0, .int .i64 0, .int .u64 0, .int .i64 0] 31)
  have D2 := HasBlock.made (w.alloc (.cells #[.slice of n kf, .slice or' r kr, .slice om m km, .slice og q kg, .int .i64 tx, .int .u64 dx, .int .i64 sx] 31)) #[.slice none 0 0, .slice none 0 0, .slice none 0 0, .slice none 0 0, .int .i64 0, .int .u64 0, .int .i64 0] 31
  rw [World.size_alloc] at D2
  have hbw : Below w.heap.size w ((w.alloc (.cells #[.slice of n kf, .slice or' r kr, .slice om m km, .slice og q kg, .int .i64 tx, .int .u64 dx, .int .i64 sx] 31)).alloc (.cells #[.slice none 0 0, .slice none 0 0, .slice none 0 0, .slice none 0 0, .int .i64 0, .int .u64 0, .int .i64 0] 31)) := (by repeat (first | with_reducible exact Below.refl _ _ | with_reducible refine Below.drew ?_ | (with_reducible refine Below.alloc ?_ (by first | exact Nat.le_refl _ | omega | (dsimp only; omega) | (simp only [sizes]; omega)) _) | (with_reducible refine Below.setCell ?_ (by first | exact Nat.le_refl _ | omega | (dsimp only; omega) | (simp only [sizes]; omega)) _) | (refine Below.trans ?_ (Below.mono (by with_reducible assumption) (by first | exact Nat.le_refl _ | omega | (dsimp only; omega) | (simp only [sizes]; omega))))))
  have HOK := Lib.hid hok; clear hok
  have HOL := Lib.hid hol; clear hol
  have hz0 : w.heap.size + 1 + 1 = ((w.alloc (.cells #[.slice of n kf, .slice or' r kr, .slice om m km, .slice og q kg, .int .i64 tx, .int .u64 dx, .int .i64 sx] 31)).alloc (.cells #[.slice none 0 0, .slice none 0 0, .slice none 0 0, .slice none 0 0, .int .i64 0, .int .u64 0, .int .i64 0] 31)).heap.size := by simp only [sizes]
  by_cases hk1 : k < 1
  · have hsc : H.scan k = H := by unfold Ho.scan; rw [if_pos hk1]
    rw [hsc]
    have t1 : decide (k < 1) = true := decide_eq_true hk1
    clear hsc
    go_enter Try.func16, Try.ntmps16
    obtain ⟨D1_c, D1_f, D1_z⟩ := D1.all
    go_wp2_with fail
    clear D1_c D1_f D1_z
    with_reducible refine (HCL.out _ _ (HVA.out _ hbw)).mono ?_
    rintro e w1 ⟨of1, or1, om1, og1, kf1', kr1', km1', kg1', us1, gs1, rfl, O1, hb1⟩
    rw [HN.out, HR.out, HM.out, HQ.out] at O1 ⊢
    rw [HT.out, HD.out, HS.out]
    replace O1 := O1.lower (base' := w.heap.size + 1 + 1) (Nat.le_of_eq hz0)
    have hz1 := hb1.size
    rw [← hz0] at hz1
    replace D1 := D1.below hb1
    replace D2 := D2.below hb1
    replace hbw := hbw.trans (hb1.mono hbw.size)
    clear hb1 hz0
    obtain ⟨D1_c, D1_f, D1_z⟩ := D1.all
    go_wp2_with fail
    clear D1_c D1_f D1_z
    have hbx : Below w1.heap.size w1 (w1.alloc (.cells #[.slice of1 n kf1', .slice or1 r kr1', .slice om1 m km1', .slice og1 q kg1', .int .i64 tx, .int .u64 dx, .int .i64 sx] 31)) := (Below.refl _ _).alloc (Nat.le_refl _) _
    have DR := HasBlock.made w1 #[.slice of1 n kf1', .slice or1 r kr1', .slice om1 m km1', .slice og1 q kg1', .int .i64 tx, .int .u64 dx, .int .i64 sx] 31
    replace D1 := D1.below hbx
    replace D2 := D2.below hbx
    replace O1 := O1.below hbx
    replace hbw := hbw.trans (hbx.mono hbw.size)
    have hz2 := hbx.size
    clear hbx
    generalize hW : w1.alloc (.cells #[.slice of1 n kf1', .slice or1 r kr1', .slice om1 m km1', .slice og1 q kg1', .int .i64 tx, .int .u64 dx, .int .i64 sx] 31) = w2 at D1 D2 DR O1 hbw hz2 ⊢
    obtain ⟨B, hB⟩ : ∃ B, w1.heap.size = B := ⟨_, rfl⟩
    rw [hB] at DR hz1 hz2 ⊢
    clear hW hB
    have hBA : w.heap.size + 1 + 1 ≤ B := hz1
    have hBZ2 := DR.lt
    with_reducible refine (HHS.out _ _ (HVA.out _ hbw)).mono ?_
    rintro e w3 ⟨rfl, hb3⟩
    replace D1 := D1.below hb3
    replace D2 := D2.below hb3
    replace DR := DR.below hb3
    replace O1 := O1.below hb3
    replace hbw := hbw.trans (hb3.mono hbw.size)
    replace hz2 := Nat.le_trans hz2 hb3.size
    have hBZ := Nat.lt_of_lt_of_le hBZ2 hb3.size
    clear hb3 hBZ2
    have hzz : w.heap.size + 1 + 1 ≤ w3.heap.size := Nat.le_trans hBA hz2
    obtain ⟨D1_c, D1_f, D1_z⟩ := D1.all
    obtain ⟨DR_c, DR_f, DR_z⟩ := DR.all
    obtain ⟨D2_c, D2_f, D2_z⟩ := D2.all
    go_wp2_with fail
    have nB : w.heap.size + 1 ≠ B := by omega
    refine bodyPost_ret (v := .agg #[.slice of1 n kf1', .slice or1 r kr1', .slice om1 m km1', .slice og1 q kg1', .int .i64 tx, .int .u64 dx, .int .i64 sx]) (by simp [results, Try.results16, go_sem, D2_c]) rfl ?_
    skip
    exact hoRet' (k := fun v => v) (H := H) HN.out HR.out HM.out HQ.out HT.out HD.out HS.out (O1.fill7 (by omega) _ _ _ _ _ _ _) (Below.fill7 hbw (by omega) _ _ _ _ _ _ _)
  · have hk2 : 1 ≤ k := by omega
    obtain ⟨kn, rfl⟩ : ∃ kn : Nat, k = kn := ⟨k.toNat, by omega⟩
    have hsc : H.scan kn = Ho.scanN H.ord H (min kn H.ord.length) := by unfold Ho.scan; rw [if_neg hk1, Int.toNat_natCast]
    have t1 : decide ((kn : Int) < 1) = false := decide_eq_false hk1
    rw [hsc]
    clear hsc hk1
    obtain ⟨L, hL⟩ : ∃ L, lenM H.P.M = L := ⟨_, rfl⟩
    have hlb := HOK.out.len H.P.M.length (Nat.le_refl _)
    rw [List.take_length, hL, HM.out] at hlb
    rw [HOL.out, hL]
    rw [hL] at hsn HOL
    have HLL := Lib.hid hL; clear hL
    obtain ⟨i0, hi0, iz0, iz1, iz2⟩ := info_parts info_pair
    go_enter Try.func16, Try.ntmps16
    obtain ⟨D1_c, D1_f, D1_z⟩ := D1.all
    go_wp2_with fail
    clear D1_c D1_f D1_z
    with_reducible refine (HCL.out _ _ (HVA.out _ hbw)).mono ?_
    rintro e w1 ⟨of1, or1, om1, og1, kf1', kr1', km1', kg1', us1, gs1, rfl, O1, hb1⟩
    rw [HN.out, HR.out, HM.out, HQ.out] at O1 ⊢
    rw [HT.out, HD.out, HS.out]
    replace O1 := O1.lower (base' := w.heap.size + 1 + 1) (Nat.le_of_eq hz0)
    have hz1 := hb1.size
    rw [← hz0] at hz1
    replace D1 := D1.below hb1
    replace D2 := D2.below hb1
    replace hbw := hbw.trans (hb1.mono hbw.size)
    clear hb1 hz0
    obtain ⟨D1_c, D1_f, D1_z⟩ := D1.all
    go_wp2_with fail
    clear D1_c D1_f D1_z
    have hbx : Below w1.heap.size w1 (w1.alloc (.cells #[.slice of1 n kf1', .slice or1 r kr1', .slice om1 m km1', .slice og1 q kg1', .int .i64 tx, .int .u64 dx, .int .i64 sx] 31)) := (Below.refl _ _).alloc (Nat.le_refl _) _
    have DR := HasBlock.made w1 #[.slice of1 n kf1', .slice or1 r kr1', .slice om1 m km1', .slice og1 q kg1', .int .i64 tx, .int .u64 dx, .int .i64 sx] 31
    replace D1 := D1.below hbx
    replace D2 := D2.below hbx
    replace O1 := O1.below hbx
    replace hbw := hbw.trans (hbx.mono hbw.size)
    have hz2 := hbx.size
    clear hbx
    generalize hW : w1.alloc (.cells #[.slice of1 n kf1', .slice or1 r kr1', .slice om1 m km1', .slice og1 q kg1', .int .i64 tx, .int .u64 dx, .int .i64 sx] 31) = w2 at D1 D2 DR O1 hbw hz2 ⊢
    obtain ⟨B, hB⟩ : ∃ B, w1.heap.size = B := ⟨_, rfl⟩
    rw [hB] at DR hz1 hz2 ⊢
    clear hW hB
    have hBA : w.heap.size + 1 + 1 ≤ B := hz1
    have hBZ2 := DR.lt
    with_reducible refine (HHS.out _ _ (HVA.out _ hbw)).mono ?_
    rintro e w3 ⟨rfl, hb3⟩
    replace D1 := D1.below hb3
    replace D2 := D2.below hb3
    replace DR := DR.below hb3
    replace O1 := O1.below hb3
    replace hbw := hbw.trans (hb3.mono hbw.size)
    replace hz2 := Nat.le_trans hz2 hb3.size
    have hBZ := Nat.lt_of_lt_of_le hBZ2 hb3.size
    clear hb3 hBZ2
    have hzz : w.heap.size + 1 + 1 ≤ w3.heap.size := Nat.le_trans hBA hz2
    obtain ⟨D1_c, D1_f, D1_z⟩ := D1.all
    obtain ⟨DR_c, DR_f, DR_z⟩ := DR.all
    obtain ⟨D2_c, D2_f, D2_z⟩ := D2.all
    go_wp2_with fail
    clear D1_c D1_f D1_z DR_c DR_f DR_z D2_c D2_f D2_z
    go_loopw [6, 27] (fun sv iv wr => ∃ (i N : Nat) (o : Option Addr) (cp : Nat), i ≤ m ∧ iv = .int .i64 i ∧ sv = .slice o N cp ∧ Hid (N = (ordTo H.P i).length) ∧ N ≤ cp ∧ cp ≤ 9223372036854775807 ∧ Hid (wr.ownsRow w3.heap.size 73 2 (.slice o N cp) N (prFlat (ordTo H.P i))) ∧ Below w3.heap.size w3 wr) (fun _ iv _ => m - (intOf iv).toNat)
    case atStart => exact ⟨0, 0, none, 0, by omega, rfl, rfl, rfl, Nat.le_refl _, by omega, World.ownsRow_nil _ _ _ _, Below.refl _ _⟩
    case round =>
      obtain ⟨i, N, o, cp, hi, rfl, rfl, HNN, hc1, hc2, HOW, hbr⟩ := hrel
      have hbwr := hbw.trans (hbr.mono hbw.size)
      by_cases hlt : i < m
      · obtain ⟨l, hl⟩ := get_lt (xs := H.P.M) (k := i) (by rw [HM.out]; exact hlt)
        have hll := HOK.out.p.l l (mem_at hl)
        have hnl := HOK.out.len i (by rw [HM.out]; omega)
        rw [← ordTo_len H.P i (by rw [HM.out]; omega), ← HNN.out] at hnl
        obtain ⟨mb, moff, lo, lc, rfl, hmb, cm0, lc1, lc2, _⟩ := H0.out.p.guest hl
        have hpl := Pl.pages_eq hl
        have hnext : ordTo H.P (i + 1) = ordUp H.P i l.length := by rw [ordTo_succ, hpl]; rfl
        obtain ⟨ql, hql⟩ : ∃ x, l.length = x := ⟨_, rfl⟩
        rw [hql] at hll cm0 lc1 hnext
        have HNX := Lib.hid hnext; clear hnext
        have cm := (hbwr.cell (p := ⟨mb, moff + i, none⟩) hmb).trans cm0
        have i0' : (0 : Int) ≤ (i : Int) := by omega
        have im : (i : Int) < (m : Int) := by omega
        have hmb2 : mb < wr.heap.size := by have := hbwr.size; omega
        clear hl hpl hql cm0
        go_wp2_with fail
        clear cm hmb2
        have HST : Hid (wr.ownsRow w3.heap.size 73 2 (.slice o N cp) N (prFlat (ordUp H.P i 0))) := Lib.hid (by
          have e : ordUp H.P i 0 = ordTo H.P i := by unfold ordUp; simp
          rw [e]
          exact HOW.out)
        go_loopw [6, 34] (fun sv iv wr => ∃ (p N2 : Nat) (o : Option Addr) (cp : Nat), p ≤ ql ∧ iv = .int .i64 p ∧ sv = .slice o N2 cp ∧ Hid (N2 = N + p) ∧ N2 ≤ cp ∧ cp ≤ 9223372036854775807 ∧ Hid (wr.ownsRow w3.heap.size 73 2 (.slice o N2 cp) N2 (prFlat (ordUp H.P i p))) ∧ Below w3.heap.size w3 wr) (fun _ iv _ => ql - (intOf iv).toNat)
        case atStart => exact ⟨0, N, o, cp, by omega, rfl, rfl, rfl, hc1, hc2, HST, hbr⟩
        case round =>
          clear HST HOW hbr hbwr hc1 hc2
          obtain ⟨p, N2, o, cp, hp, rfl, rfl, hN2, hc1, hc2, HOW, hbr⟩ := hrel
          have hN2b : N2 ≤ 300 := by have := hN2.out; omega
          by_cases hpt : p < ql
          · have hzr := hbr.size
            have hpush : prFlat (ordUp H.P i p) ++ [.int .i64 i, .int .i64 p] = prFlat (ordUp H.P i (p + 1)) := by rw [ordUp_succ, prFlat_push]
            have HPU := Lib.hid hpush; clear hpush
            go_wp2_with (at_builtin; go_must (refine wpList_append_own _ rfl (.tmp 37) (.tmp 41) 72 rfl w3.heap.size 73 i0 (.agg #[.int .i64 0, .int .i64 0]) 2 16 Try.underlying72 hi0 iz0 iz1 iz2 rfl (by decide) _ N2 (prFlat (ordUp H.P i p)) rfl (HOW.out.alloc _) ⟨wr.heap.size, 0, none⟩ 1 1 [.int .i64 i, .int .i64 p] rfl rfl (cells_made _ [.int .i64 i, .int .i64 p] _ _ (by first | rfl | simp only [sizes])) (one_pair _ _) (by unfold maxLen; omega) (by omega) (by simp only [sizes]; omega) ?_; intro v7 w7 hown7 hgrow7 _; obtain ⟨o7, c7', rfl, hc71, hc72⟩ := own_form' hown7))
            have hbr7 : Below w3.heap.size w3 w7 := below_append' (Below.alloc' hbr (Nat.le_refl _) _) (HOW.out.alloc _) hgrow7 (Nat.le_refl _)
            go_roundw
            case rel => exact ⟨p + 1, N2 + 1, o7, c7', by omega, by go_num, rfl, Lib.hid (by rw [hN2.out]; rfl), hc71, hc72, Lib.hid (by rw [← HPU.out]; exact hown7), hbr7⟩
            case measure => simp [intOf]; omega
          · obtain rfl : p = ql := by omega
            go_wp2_with fail
            go_roundw
            case rel => exact ⟨i + 1, N2, o, cp, by omega, by go_num, rfl, Lib.hid (by rw [HNX.out, ordUp_len, ← HNN.out]; exact hN2.out), hc1, hc2, by rw [HNX.out]; exact HOW, hbr⟩
            case measure => simp [intOf]; omega
      · obtain rfl : m = i := by omega
        have hNL : N = L := by rw [HNN.out, ← HM.out]; exact HOL.out
        subst hNL
        have HOR : Hid (wr.ownsRow w3.heap.size 73 2 (.slice o N cp) N (prFlat H.ord)) := Lib.hid (by have := HOW.out; rw [← HM.out] at this; exact this)
        clear HOW HNN
        have OX := O1.below hbr
        have D1X := D1.below hbr
        have D2X := D2.below hbr
        have DRX := DR.below hbr
        clear O1 D1 D2 DR
        by_cases hL0 : N = 0
        · subst hL0
          clear HOR
          obtain ⟨DRX_c, DRX_f, DRX_z⟩ := DRX.all
          obtain ⟨D2_c, D2_f, D2_z⟩ := D2X.all
          go_wp2_with fail
          have e0 : Ho.scanN H.ord H (min kn 0) = H := by
            have e1 : min kn 0 = 0 := Nat.min_zero kn
            rw [e1, Ho.scanN]
          have nB : w.heap.size + 1 ≠ B := by omega
          refine bodyPost_ret (v := .agg #[.slice of1 n kf1', .slice or1 r kr1', .slice om1 m km1', .slice og1 q kg1', .int .i64 tx, .int .u64 dx, .int .i64 sx]) (by simp [results, Try.results16, go_sem, D2_c]) rfl ?_
          rw [e0]
          exact hoRet' (k := fun v => v) (H := H) HN.out HR.out HM.out HQ.out HT.out HD.out HS.out (OX.fill7 (by omega) _ _ _ _ _ _ _) (Below.fill7 hbwr (by omega) _ _ _ _ _ _ _)
        · have e1 : ((N : Int) == 0) = false := by rw [beq_eq_false_iff_ne]; omega
          have hO2 := HOR.out
          rcases hO2.2 with ⟨_, h00⟩ | ⟨bO, cO, cur, e0, b1, b2, b3, b4, b5⟩
          · exact absurd h00 hL0
          injection e0 with e0 e9 e10
          subst e0 e10
          clear e9 b5 b2 b4 cur hO2
          by_cases hm : kn ≤ N
          · have hmn : min kn N = kn := Nat.min_eq_left hm
            go_wp2_with fail
            go_loopw [53] (fun iv wr2 => ∃ (j : Nat) (K : Ho), j ≤ kn ∧ iv = .int .i64 j ∧ Hid (K = Ho.scanN H.ord H j) ∧ HostAt (w.heap.size + 1 + 1) B wr2 K ∧ HasBlock wr2 (w.heap.size + 1) #[.slice none 0 0, .slice none 0 0, .slice none 0 0, .slice none 0 0, .int .i64 0, .int .u64 0, .int .i64 0] 31 ∧ Hid (wr2.ownsRow w3.heap.size 73 2 (.slice (some ⟨bO, 0, none⟩) N cp) N (prFlat H.ord)) ∧ Below w.heap.size w wr2 ∧ w3.heap.size ≤ wr2.heap.size) (fun iv _ => kn - (intOf iv).toNat)
            case atStart => exact ⟨0, H, by omega, rfl, rfl, HostAt.mk HN.out HR.out HM.out HQ.out HT.out HD.out HS.out DRX OX, D2X, HOR, hbwr, hbr.size⟩
            case round =>
              clear DRX OX D2X HOR hbwr hbr
              obtain ⟨j, K, hj, rfl, HKE, hAK, D2X, HOR, hbw2, hzr⟩ := hrel
              have SC := scanN_scanned HOK.out j
              rw [← HKE.out] at SC
              have hKo := SC.k.ok
              have hKF := SC.k.al.f.trans HN.out
              have hKR := SC.k.al.r.trans HR.out
              have hKM := SC.k.al.m.trans HM.out
              have hKQ := SC.k.gl.trans HQ.out
              have hKT := SC.k.t.trans HT.out
              have hKD := SC.d.trans HD.out
              have hKn := hKo.n
              rw [lenM_alike SC.k.al, HLL.out] at hKn
              obtain ⟨c, hc⟩ : ∃ c : Nat, K.n = c := ⟨K.n.toNat, by omega⟩
              obtain ⟨of2, or2, om2, og2, kf2', kr2', km2', kg2', us2, gs2, DK, OK⟩ := hAK
              rw [hKF, hKR, hKM, hKQ] at DK OK
              rw [hKT, hKD, hc] at DK
              have HKL := Lib.hid (And.intro hKF (And.intro hKR (And.intro hKM (And.intro hKQ (And.intro hKT (And.intro hKD hc)))))); clear hKF hKR hKM hKQ hKT hKD
              by_cases hjt : j < kn
              · have hcN : c < N := by omega
                obtain ⟨⟨a, b⟩, hx⟩ := get_lt (xs := H.ord) (k := c) (by rw [HOL.out]; exact hcN)
                have hat : H.P.at a b := ord_mem.1 (mem_at hx)
                have hatK := (SC.k.al.at a b).2 hat
                obtain ⟨px, py⟩ := prFlat_at _ _ _ hx
                have hx0 := World.ownsRow.cellAt HOR.out (c * 2) (by omega)
                have hx1 := World.ownsRow.cellAt HOR.out (c * 2 + 1) (by omega)
                rw [px] at hx0
                rw [py] at hx1
                dsimp only at hx0 hx1
                have hbO := (World.ownsRow.lt HOR.out bO rfl).2
                have SHc := fun v w h => pshare_own v K.P a b w h hKo.p.fit hKo.p.small
                have hnext : Ho.scanN H.ord H (j + 1) = ⟨K.P.sh a b, K.G, K.t, K.d, ((c : Int) + 1) % (N : Int)⟩ := by
                  rw [Ho.scanN, ← HKE.out]
                  unfold Ho.scan1
                  rw [hc, Int.toNat_natCast, hx]
                  dsimp only
                  rw [HOL.out]
                have hSA := (Pl.sh_law hKo.p hatK).1.al
                have hsf := (Pl.sh_law hKo.p hatK).2
                obtain ⟨Q, hQ⟩ : ∃ Q, K.P.sh a b = Q := ⟨_, rfl⟩
                obtain ⟨t, ht⟩ : ∃ t, K.P.sok a b = t := ⟨_, rfl⟩
                rw [hQ, ht] at SHc hsf
                rw [hQ] at hnext hSA
                have HSH := Lib.hid SHc; clear SHc hQ ht
                have HNXT := Lib.hid hnext; clear hnext
                have HSF := Lib.hid hsf; clear hsf
                have HSA := Lib.hid hSA; clear hSA
                clear hx px py hat hatK hc hKo SC
                have c0' : (0 : Int) ≤ (c : Int) := by omega
                have cN : (c : Int) < (N : Int) := by omega
                obtain ⟨DK_c, DK_f, DK_z⟩ := DK.all
                go_wp2_with fail
                clear DK_c DK_f DK_z hx0 hx1 hbO
                with_reducible refine (HSH.out _ _ (OK.alloc _).row.p).mono ?_
                rintro e w5 ⟨of5, or5, om5, kf5, kr5, km5, us5, rfl, O5, hb5⟩
                obtain ⟨n5, hgn⟩ : ∃ n, (Pl.F Q).length = n := ⟨_, rfl⟩
                obtain ⟨r5, hgr⟩ : ∃ n, (Pl.R Q).length = n := ⟨_, rfl⟩
                obtain ⟨m5, hgm⟩ : ∃ n, (Pl.M Q).length = n := ⟨_, rfl⟩
                rw [hgn, hgr, hgm] at O5 ⊢
                have HG5 := Lib.hid (And.intro hgn (And.intro hgr hgm))
                clear hgn hgr hgm
                have hbx : Below wr.heap.size wr w5 := ((Below.refl _ wr).alloc (Nat.le_refl _) (.cells #[.int .i64 a, .int .i64 b] 73)).trans (hb5.mono (by simp only [sizes]; omega))
                have D5 := DK.below hbx
                have D25 := D2X.below hbx
                have O4 := OK.below hbx
                have HO5 : Hid (w5.ownsRow w3.heap.size 73 2 (.slice (some ⟨bO, 0, none⟩) N cp) N (prFlat H.ord)) := Lib.hid (owns_below HOR.out hbx)
                have hz5 := Nat.le_trans hzr hbx.size
                have hltG := (OK.alloc (.cells #[.int .i64 a, .int .i64 b] 73)).ltG
                have hzk : w.heap.size + 1 + 1 ≤ wr.heap.size := by omega
                have hzl : wr.heap.size ≤ (wr.alloc (.cells #[.int .i64 a, .int .i64 b] 73)).heap.size := by simp only [sizes]; omega
                have O5G := O5.ge
                replace O5 := O5.lower (base' := w.heap.size + 1 + 1) (Nat.le_trans hzk hzl)
                have hbw5 := hbw2.trans (hbx.mono hbw2.size)
                clear DK D2X OK HOR hbx hb5 HSH
                have nB : w.heap.size + 1 ≠ B := by omega
                cases t
                · have hQP : Q = K.P := HSF.out rfl
                  obtain ⟨D5_c, D5_f, D5_z⟩ := D5.all
                  go_wp2_with fail
                  obtain ⟨V, hV⟩ : ∃ V, ((c : Int) + 1) % (N : Int) = V := ⟨_, rfl⟩
                  rw [hV] at HNXT ⊢
                  clear hV D5_c D5_f D5_z
                  subst hQP
                  go_roundw
                  case rel => exact ⟨j + 1, ⟨K.P, K.G, K.t, K.d, V⟩, by omega, by go_num, Lib.hid HNXT.out.symm, HostAt.mk HKL.out.1 HKL.out.2.1 HKL.out.2.2.1 HKL.out.2.2.2.1 HKL.out.2.2.2.2.1 HKL.out.2.2.2.2.2.1 rfl ((D5.put7_6 (.int .i64 V)).alloc _) (((O4.setbox (j := 6) D5 hostT (.int .i64 V)).alloc _).head rfl rfl), (D25.set_ne nB (j := 6) (.int .i64 V)).alloc _, Lib.hid ((owns_setlow HO5.out hBZ (.int .i64 V)).alloc _), (hbw5.setCell (p := ⟨B, 6, none⟩) (by dsimp only; omega) (.int .i64 V)).alloc (by simp only [sizes]; omega) _, by simp only [sizes]; omega⟩
                  case measure => simp [intOf]; omega
                · obtain ⟨D5_c, D5_f, D5_z⟩ := D5.all
                  go_wp2_with fail
                  obtain ⟨V, hV⟩ : ∃ V, ((c : Int) + 1) % (N : Int) = V := ⟨_, rfl⟩
                  rw [hV] at HNXT ⊢
                  clear hV D5_c D5_f D5_z
                  have Oa := O4.newPool O5 hltG O5G
                  have Ob := (((Oa.setbox (j := 0) D5 hostT (.slice of5 n5 kf5)).setbox (j := 1) (D5.put7_0 (.slice of5 n5 kf5)) hostT (.slice or5 r5 kr5)).setbox (j := 2) ((D5.put7_0 (.slice of5 n5 kf5)).put7_1 (.slice or5 r5 kr5)) hostT (.slice om5 m5 km5)).setbox (j := 6) (D5.poolIn (.slice of5 n5 kf5) (.slice or5 r5 kr5) (.slice om5 m5 km5)) hostT (.int .i64 V)
                  go_roundw
                  case rel => exact ⟨j + 1, ⟨Q, K.G, K.t, K.d, V⟩, by omega, by go_num, Lib.hid HNXT.out.symm, HostAt.mk HG5.out.1 HG5.out.2.1 HG5.out.2.2 HKL.out.2.2.2.1 HKL.out.2.2.2.2.1 HKL.out.2.2.2.2.2.1 rfl (((D5.poolIn (.slice of5 n5 kf5) (.slice or5 r5 kr5) (.slice om5 m5 km5)).put7_6 (.int .i64 V)).alloc _) ((Ob.alloc _).head rfl rfl), ((((D25.set_ne nB (j := 0) (.slice of5 n5 kf5)).set_ne nB (j := 1) (.slice or5 r5 kr5)).set_ne nB (j := 2) (.slice om5 m5 km5)).set_ne nB (j := 6) (.int .i64 V)).alloc _, Lib.hid ((owns_setlow (owns_setlow (owns_setlow (owns_setlow HO5.out hBZ (.slice of5 n5 kf5)) hBZ (.slice or5 r5 kr5)) hBZ (.slice om5 m5 km5)) hBZ (.int .i64 V)).alloc _), ((((hbw5.setCell (p := ⟨B, 0, none⟩) (by dsimp only; omega) (.slice of5 n5 kf5)).setCell (p := ⟨B, 1, none⟩) (by dsimp only; omega) (.slice or5 r5 kr5)).setCell (p := ⟨B, 2, none⟩) (by dsimp only; omega) (.slice om5 m5 km5)).setCell (p := ⟨B, 6, none⟩) (by dsimp only; omega) (.int .i64 V)).alloc (by simp only [sizes]; omega) _, by simp only [sizes]; omega⟩
                  case measure => simp [intOf]; omega
              · have hjn : j = kn := by omega
                rw [hjn] at HKE
                clear hjn
                obtain ⟨DK_c, DK_f, DK_z⟩ := DK.all
                obtain ⟨D2X_c, D2X_f, D2X_z⟩ := D2X.all
                go_wp2_with fail
                have nB : w.heap.size + 1 ≠ B := by omega
                refine bodyPost_ret (v := .agg #[.slice of2 n kf2', .slice or2 r kr2', .slice om2 m km2', .slice og2 q kg2', .int .i64 tx, .int .u64 dx, .int .i64 c]) (by simp [results, Try.results16, go_sem, D2X_c]) rfl ?_
                rw [hmn, ← HKE.out]
                exact hoRet' (k := fun v => v) (H := K) HKL.out.1 HKL.out.2.1 HKL.out.2.2.1 HKL.out.2.2.2.1 HKL.out.2.2.2.2.1 HKL.out.2.2.2.2.2.1 HKL.out.2.2.2.2.2.2 (OK.fill7 (by omega) _ _ _ _ _ _ _) (Below.fill7 hbw2 (by omega) _ _ _ _ _ _ _)
          · have hmn : min kn N = N := Nat.min_eq_right (by omega)
            go_wp2_with fail
            go_loopw [53] (fun iv wr2 => ∃ (j : Nat) (K : Ho), j ≤ N ∧ iv = .int .i64 j ∧ Hid (K = Ho.scanN H.ord H j) ∧ HostAt (w.heap.size + 1 + 1) B wr2 K ∧ HasBlock wr2 (w.heap.size + 1) #[.slice none 0 0, .slice none 0 0, .slice none 0 0, .slice none 0 0, .int .i64 0, .int .u64 0, .int .i64 0] 31 ∧ Hid (wr2.ownsRow w3.heap.size 73 2 (.slice (some ⟨bO, 0, none⟩) N cp) N (prFlat H.ord)) ∧ Below w.heap.size w wr2 ∧ w3.heap.size ≤ wr2.heap.size) (fun iv _ => N - (intOf iv).toNat)
            case atStart => exact ⟨0, H, by omega, rfl, rfl, HostAt.mk HN.out HR.out HM.out HQ.out HT.out HD.out HS.out DRX OX, D2X, HOR, hbwr, hbr.size⟩
            case round =>
              clear DRX OX D2X HOR hbwr hbr
              obtain ⟨j, K, hj, rfl, HKE, hAK, D2X, HOR, hbw2, hzr⟩ := hrel
              have SC := scanN_scanned HOK.out j
              rw [← HKE.out] at SC
              have hKo := SC.k.ok
              have hKF := SC.k.al.f.trans HN.out
              have hKR := SC.k.al.r.trans HR.out
              have hKM := SC.k.al.m.trans HM.out
              have hKQ := SC.k.gl.trans HQ.out
              have hKT := SC.k.t.trans HT.out
              have hKD := SC.d.trans HD.out
              have hKn := hKo.n
              rw [lenM_alike SC.k.al, HLL.out] at hKn
              obtain ⟨c, hc⟩ : ∃ c : Nat, K.n = c := ⟨K.n.toNat, by omega⟩
              obtain ⟨of2, or2, om2, og2, kf2', kr2', km2', kg2', us2, gs2, DK, OK⟩ := hAK
              rw [hKF, hKR, hKM, hKQ] at DK OK
              rw [hKT, hKD, hc] at DK
              have HKL := Lib.hid (And.intro hKF (And.intro hKR (And.intro hKM (And.intro hKQ (And.intro hKT (And.intro hKD hc)))))); clear hKF hKR hKM hKQ hKT hKD
              by_cases hjt : j < N
              · have hcN : c < N := by omega
                obtain ⟨⟨a, b⟩, hx⟩ := get_lt (xs := H.ord) (k := c) (by rw [HOL.out]; exact hcN)
                have hat : H.P.at a b := ord_mem.1 (mem_at hx)
                have hatK := (SC.k.al.at a b).2 hat
                obtain ⟨px, py⟩ := prFlat_at _ _ _ hx
                have hx0 := World.ownsRow.cellAt HOR.out (c * 2) (by omega)
                have hx1 := World.ownsRow.cellAt HOR.out (c * 2 + 1) (by omega)
                rw [px] at hx0
                rw [py] at hx1
                dsimp only at hx0 hx1
                have hbO := (World.ownsRow.lt HOR.out bO rfl).2
                have SHc := fun v w h => pshare_own v K.P a b w h hKo.p.fit hKo.p.small
                have hnext : Ho.scanN H.ord H (j + 1) = ⟨K.P.sh a b, K.G, K.t, K.d, ((c : Int) + 1) % (N : Int)⟩ := by
                  rw [Ho.scanN, ← HKE.out]
                  unfold Ho.scan1
                  rw [hc, Int.toNat_natCast, hx]
                  dsimp only
                  rw [HOL.out]
                have hSA := (Pl.sh_law hKo.p hatK).1.al
                have hsf := (Pl.sh_law hKo.p hatK).2
                obtain ⟨Q, hQ⟩ : ∃ Q, K.P.sh a b = Q := ⟨_, rfl⟩
                obtain ⟨t, ht⟩ : ∃ t, K.P.sok a b = t := ⟨_, rfl⟩
                rw [hQ, ht] at SHc hsf
                rw [hQ] at hnext hSA
                have HSH := Lib.hid SHc; clear SHc hQ ht
                have HNXT := Lib.hid hnext; clear hnext
                have HSF := Lib.hid hsf; clear hsf
                have HSA := Lib.hid hSA; clear hSA
                clear hx px py hat hatK hc hKo SC
                have c0' : (0 : Int) ≤ (c : Int) := by omega
                have cN : (c : Int) < (N : Int) := by omega
                obtain ⟨DK_c, DK_f, DK_z⟩ := DK.all
                go_wp2_with fail
                clear DK_c DK_f DK_z hx0 hx1 hbO
                with_reducible refine (HSH.out _ _ (OK.alloc _).row.p).mono ?_
                rintro e w5 ⟨of5, or5, om5, kf5, kr5, km5, us5, rfl, O5, hb5⟩
                obtain ⟨n5, hgn⟩ : ∃ n, (Pl.F Q).length = n := ⟨_, rfl⟩
                obtain ⟨r5, hgr⟩ : ∃ n, (Pl.R Q).length = n := ⟨_, rfl⟩
                obtain ⟨m5, hgm⟩ : ∃ n, (Pl.M Q).length = n := ⟨_, rfl⟩
                rw [hgn, hgr, hgm] at O5 ⊢
                have HG5 := Lib.hid (And.intro hgn (And.intro hgr hgm))
                clear hgn hgr hgm
                have hbx : Below wr.heap.size wr w5 := ((Below.refl _ wr).alloc (Nat.le_refl _) (.cells #[.int .i64 a, .int .i64 b] 73)).trans (hb5.mono (by simp only [sizes]; omega))
                have D5 := DK.below hbx
                have D25 := D2X.below hbx
                have O4 := OK.below hbx
                have HO5 : Hid (w5.ownsRow w3.heap.size 73 2 (.slice (some ⟨bO, 0, none⟩) N cp) N (prFlat H.ord)) := Lib.hid (owns_below HOR.out hbx)
                have hz5 := Nat.le_trans hzr hbx.size
                have hltG := (OK.alloc (.cells #[.int .i64 a, .int .i64 b] 73)).ltG
                have hzk : w.heap.size + 1 + 1 ≤ wr.heap.size := by omega
                have hzl : wr.heap.size ≤ (wr.alloc (.cells #[.int .i64 a, .int .i64 b] 73)).heap.size := by simp only [sizes]; omega
                have O5G := O5.ge
                replace O5 := O5.lower (base' := w.heap.size + 1 + 1) (Nat.le_trans hzk hzl)
                have hbw5 := hbw2.trans (hbx.mono hbw2.size)
                clear DK D2X OK HOR hbx hb5 HSH
                have nB : w.heap.size + 1 ≠ B := by omega
                cases t
                · have hQP : Q = K.P := HSF.out rfl
                  obtain ⟨D5_c, D5_f, D5_z⟩ := D5.all
                  go_wp2_with fail
                  obtain ⟨V, hV⟩ : ∃ V, ((c : Int) + 1) % (N : Int) = V := ⟨_, rfl⟩
                  rw [hV] at HNXT ⊢
                  clear hV D5_c D5_f D5_z
                  subst hQP
                  go_roundw
                  case rel => exact ⟨j + 1, ⟨K.P, K.G, K.t, K.d, V⟩, by omega, by go_num, Lib.hid HNXT.out.symm, HostAt.mk HKL.out.1 HKL.out.2.1 HKL.out.2.2.1 HKL.out.2.2.2.1 HKL.out.2.2.2.2.1 HKL.out.2.2.2.2.2.1 rfl ((D5.put7_6 (.int .i64 V)).alloc _) (((O4.setbox (j := 6) D5 hostT (.int .i64 V)).alloc _).head rfl rfl), (D25.set_ne nB (j := 6) (.int .i64 V)).alloc _, Lib.hid ((owns_setlow HO5.out hBZ (.int .i64 V)).alloc _), (hbw5.setCell (p := ⟨B, 6, none⟩) (by dsimp only; omega) (.int .i64 V)).alloc (by simp only [sizes]; omega) _, by simp only [sizes]; omega⟩
                  case measure => simp [intOf]; omega
                · obtain ⟨D5_c, D5_f, D5_z⟩ := D5.all
                  go_wp2_with fail
                  obtain ⟨V, hV⟩ : ∃ V, ((c : Int) + 1) % (N : Int) = V := ⟨_, rfl⟩
                  rw [hV] at HNXT ⊢
                  clear hV D5_c D5_f D5_z
                  have Oa := O4.newPool O5 hltG O5G
                  have Ob := (((Oa.setbox (j := 0) D5 hostT (.slice of5 n5 kf5)).setbox (j := 1) (D5.put7_0 (.slice of5 n5 kf5)) hostT (.slice or5 r5 kr5)).setbox (j := 2) ((D5.put7_0 (.slice of5 n5 kf5)).put7_1 (.slice or5 r5 kr5)) hostT (.slice om5 m5 km5)).setbox (j := 6) (D5.poolIn (.slice of5 n5 kf5) (.slice or5 r5 kr5) (.slice om5 m5 km5)) hostT (.int .i64 V)
                  go_roundw
                  case rel => exact ⟨j + 1, ⟨Q, K.G, K.t, K.d, V⟩, by omega, by go_num, Lib.hid HNXT.out.symm, HostAt.mk HG5.out.1 HG5.out.2.1 HG5.out.2.2 HKL.out.2.2.2.1 HKL.out.2.2.2.2.1 HKL.out.2.2.2.2.2.1 rfl (((D5.poolIn (.slice of5 n5 kf5) (.slice or5 r5 kr5) (.slice om5 m5 km5)).put7_6 (.int .i64 V)).alloc _) ((Ob.alloc _).head rfl rfl), ((((D25.set_ne nB (j := 0) (.slice of5 n5 kf5)).set_ne nB (j := 1) (.slice or5 r5 kr5)).set_ne nB (j := 2) (.slice om5 m5 km5)).set_ne nB (j := 6) (.int .i64 V)).alloc _, Lib.hid ((owns_setlow (owns_setlow (owns_setlow (owns_setlow HO5.out hBZ (.slice of5 n5 kf5)) hBZ (.slice or5 r5 kr5)) hBZ (.slice om5 m5 km5)) hBZ (.int .i64 V)).alloc _), ((((hbw5.setCell (p := ⟨B, 0, none⟩) (by dsimp only; omega) (.slice of5 n5 kf5)).setCell (p := ⟨B, 1, none⟩) (by dsimp only; omega) (.slice or5 r5 kr5)).setCell (p := ⟨B, 2, none⟩) (by dsimp only; omega) (.slice om5 m5 km5)).setCell (p := ⟨B, 6, none⟩) (by dsimp only; omega) (.int .i64 V)).alloc (by simp only [sizes]; omega) _, by simp only [sizes]; omega⟩
                  case measure => simp [intOf]; omega
              · have hjn : j = N := by omega
                rw [hjn] at HKE
                clear hjn
                obtain ⟨DK_c, DK_f, DK_z⟩ := DK.all
                obtain ⟨D2X_c, D2X_f, D2X_z⟩ := D2X.all
                go_wp2_with fail
                have nB : w.heap.size + 1 ≠ B := by omega
                refine bodyPost_ret (v := .agg #[.slice of2 n kf2', .slice or2 r kr2', .slice om2 m km2', .slice og2 q kg2', .int .i64 tx, .int .u64 dx, .int .i64 c]) (by simp [results, Try.results16, go_sem, D2X_c]) rfl ?_
                rw [hmn, ← HKE.out]
                exact hoRet' (k := fun v => v) (H := K) HKL.out.1 HKL.out.2.1 HKL.out.2.2.1 HKL.out.2.2.2.1 HKL.out.2.2.2.2.1 HKL.out.2.2.2.2.2.1 HKL.out.2.2.2.2.2.2 (OK.fill7 (by omega) _ _ _ _ _ _ _) (Below.fill7 hbw2 (by omega) _ _ _ _ _ _ _)
end Go.Proofs.Ytbnngjhnkegliaa
namespace Go.Proofs.Ytbnngjhnkegliaa
open Go.RowKit

/-- What an operation may do: a write, a read, a scan or a sample. -/
def ActTo (H H' : Ho) (g p : Nat) (s : ByteArray) : Prop :=
  (g < 3 ∧ p < 6 ∧ ((∃ n, s = pageS n ∧ WriteTo H g p s H') ∨ (s = ⟨#[]⟩ ∧ ReadTo H g p H'))) ∨ (g = 0 ∧ p = 0 ∧ s = ⟨#[]⟩ ∧ ((∃ n, H' = H.scan n) ∨ ∃ i k, H' = H.sample i k))
theorem act_kept {n : Nat} {ls : List Int} {H H' : Ho} {g p : Nat} {s : ByteArray} (h : HShape n ls H) (ha : ActTo H H' g p s) : HShape n ls H' ∧ (∀ a b, H.P.at a b → H'.text a b = if s.size ≠ 0 ∧ g = a ∧ p = b then s else H.text a b) ∧ (s.size = 0 ∨ (g < 3 ∧ p < 6 ∧ s.size = 128)) := by
  rcases ha with ⟨hg, hp, ⟨m, rfl, hw⟩ | ⟨rfl, hr⟩⟩ | ⟨rfl, rfl, rfl, ⟨m, rfl⟩ | ⟨i, k, rfl⟩⟩
  · have hat := (h.at_ g p).2 ⟨hg, hp⟩
    have hs := pageS_size m
    have W := write_keeps h.ok hat hs hw
    refine ⟨h.kept W.k, fun a b hab => ?_, .inr ⟨hg, hp, hs⟩⟩
    rw [W.text a b hab]
    by_cases e : g = a ∧ p = b
    · rw [if_pos e, if_pos ⟨by omega, e⟩]
    · rw [if_neg e, if_neg (fun h => e h.2)]
  · have hat := (h.at_ g p).2 ⟨hg, hp⟩
    obtain ⟨k1, k2, _⟩ := read_keeps h.ok hat hr
    exact ⟨h.kept k1, fun a b hab => by rw [k2 a b hab, if_neg (fun h => h.1 rfl)], .inl rfl⟩
  · have S := scan_scanned h.ok m
    exact ⟨h.kept S.k, fun a b hab => by rw [S.text hab, if_neg (fun h => h.1 rfl)], .inl rfl⟩
  · obtain ⟨_, _, _, _, _, h6, _⟩ := sample_keeps h.ok i k
    exact ⟨h.kept (sample_kept h.ok i k), fun a b hab => by rw [h6, if_neg (fun h => h.1 rfl)], .inl rfl⟩
def RetAct (H : Ho) (w : World) (e : Ending) (w' : World) : Prop := ∃ (H' : Ho) (g p : Nat) (s : ByteArray), ActTo H H' g p s ∧ RetHoB (fun v => .tuple #[v, .int .i64 g, .int .i64 p, .string s, .bool true]) H' w e w'
set_option maxRecDepth 100000 in
set_option maxHeartbeats 8000000 in
theorem act_any (v : Value) (n : Nat) (ls : List Int) (H : Ho) (x : Int) (w : World) (ha : HoAt w v H) (hsh : HShape n ls H) : Calls Try.prog 19 #[v, .int .i64 x] w (RetAct H w) := by
  obtain ⟨V, hV⟩ : ∃ v, mixI x 42 = v := ⟨_, rfl⟩
  have hb := mixI_bd x 42
  have hm := mix_any x 42
  rw [hV] at hb hm
  clear hV
  have HMX := Lib.hid hm; clear hm
  obtain ⟨g, hg⟩ : ∃ g : Nat, V % 3 = g := ⟨(V % 3).toNat, by omega⟩
  obtain ⟨p, hp⟩ : ∃ p : Nat, V / 16 % 6 = p := ⟨(V / 16 % 6).toNat, by omega⟩
  obtain ⟨k, hk⟩ : ∃ k : Nat, V / 256 % 8 = k := ⟨(V / 256 % 8).toNat, by omega⟩
  have hg3 : g < 3 := by omega
  have hp6 : p < 6 := by omega
  have hk8 : k < 8 := by omega
  have hat := (hsh.at_ g p).2 ⟨hg3, hp6⟩
  have hgl : g < H.G.length := by rw [hsh.g]; exact hg3
  have PG := fun w => page_any (V / 4096) w (by omega)
  have WR := fun v w h => hwrite_ok v H g p (pageS (V / 4096)) w h hsh.ok hat (pageS_size _)
  have RD := fun v w h => hread_ok v H g p w h hsh.ok hat
  have hpg : pageS (V / 4096) = pageS (V / 4096) := rfl
  obtain ⟨d, hd⟩ : ∃ d, pageS (V / 4096) = d := ⟨_, rfl⟩
  have hdd : ∃ n, d = pageS n := ⟨_, hd.symm⟩
  rw [hd] at PG WR
  have HDD := Lib.hid hdd; clear hdd hd hpg
  have HPG := Lib.hid PG; clear PG
  have HWR := Lib.hid WR; clear WR
  have HRD := Lib.hid RD; clear RD
  have HSH := Lib.hid hsh; clear hsh hat hgl
  obtain ⟨of, or', om, og, kf, kr, km, kg, rfl, kf1, kf2, kr1, kr2, km1, km2, kg1, kg2, h⟩ := ha
  obtain ⟨n, hn⟩ : ∃ n, H.P.F.length = n := ⟨_, rfl⟩
  obtain ⟨r, hr⟩ : ∃ n, H.P.R.length = n := ⟨_, rfl⟩
  obtain ⟨m, hm⟩ : ∃ n, H.P.M.length = n := ⟨_, rfl⟩
  obtain ⟨q, hq⟩ : ∃ n, H.G.length = n := ⟨_, rfl⟩
  obtain ⟨tx, htx⟩ : ∃ n, H.t = n := ⟨_, rfl⟩
  obtain ⟨dx, hdx⟩ : ∃ n, H.d = n := ⟨_, rfl⟩
  obtain ⟨sx, hsx⟩ : ∃ n, H.n = n := ⟨_, rfl⟩
  rw [hn] at h kf1 ⊢
  rw [hr] at h kr1 ⊢
  rw [hm] at h km1 ⊢
  rw [hq] at h kg1 ⊢
  rw [htx, hdx, hsx]
  have HN := Lib.hid hn; clear hn
  have HR := Lib.hid hr; clear hr
  have HM := Lib.hid hm; clear hm
  have HQ := Lib.hid hq; clear hq
  have HT := Lib.hid htx; clear htx
  have HD := Lib.hid hdx; clear hdx
  have HS := Lib.hid hsx; clear hsx
  have h0 := h
  have HVA : Hid (∀ w' : World, Below w.heap.size w w' → HoAt w' (.agg #[.slice of n kf, .slice or' r kr, .slice om m km, .slice og q kg, .int .i64 tx, .int .u64 dx, .int .i64 sx]) H) := Lib.hid (fun w' hb => by
    have := (h0.below hb).at_
    rwa [HT.out, HD.out, HS.out] at this)
  clear h h0
  have D1 := (HasBlock.made w #[.slice of n kf, .slice or' r kr, .slice om m km, .slice og q kg, .int .i64 tx, .int .u64 dx, .int .i64 sx] 31).alloc (.cells #[.slice none 0 0, .slice none 0 0, .slice none 0 0, .slice none 0 0, .int .i64 0, .int .u64 0, .int .i64 0] 31)
  have D2 := HasBlock.made (w.alloc (.cells #[.slice of n kf, .slice or' r kr, .slice om m km, .slice og q kg, .int .i64 tx, .int .u64 dx, .int .i64 sx] 31)) #[.slice none 0 0, .slice none 0 0, .slice none 0 0, .slice none 0 0, .int .i64 0, .int .u64 0, .int .i64 0] 31
  rw [World.size_alloc] at D2
  have hbw : Below w.heap.size w ((w.alloc (.cells #[.slice of n kf, .slice or' r kr, .slice om m km, .slice og q kg, .int .i64 tx, .int .u64 dx, .int .i64 sx] 31)).alloc (.cells #[.slice none 0 0, .slice none 0 0, .slice none 0 0, .slice none 0 0, .int .i64 0, .int .u64 0, .int .i64 0] 31)) := (by repeat (first | with_reducible exact Below.refl _ _ | with_reducible refine Below.drew ?_ | (with_reducible refine Below.alloc ?_ (by first | exact Nat.le_refl _ | omega | (dsimp only; omega) | (simp only [sizes]; omega)) _) | (with_reducible refine Below.setCell ?_ (by first | exact Nat.le_refl _ | omega | (dsimp only; omega) | (simp only [sizes]; omega)) _) | (refine Below.trans ?_ (Below.mono (by with_reducible assumption) (by first | exact Nat.le_refl _ | omega | (dsimp only; omega) | (simp only [sizes]; omega))))))
  have hz0 : w.heap.size + 1 + 1 = ((w.alloc (.cells #[.slice of n kf, .slice or' r kr, .slice om m km, .slice og q kg, .int .i64 tx, .int .u64 dx, .int .i64 sx] 31)).alloc (.cells #[.slice none 0 0, .slice none 0 0, .slice none 0 0, .slice none 0 0, .int .i64 0, .int .u64 0, .int .i64 0] 31)).heap.size := by simp only [sizes]
  go_enter Try.func19, Try.ntmps19
  obtain ⟨D1_c, D1_f, D1_z⟩ := D1.all
  go_wp2_with fail
  clear D1_c D1_f D1_z
  with_reducible refine (HMX.out _).mono ?_
  rintro e w1 ⟨rfl, hb1⟩
  replace D1 := D1.below hb1
  replace D2 := D2.below hb1
  have hz1 : w.heap.size + 1 + 1 ≤ w1.heap.size := by rw [hz0]; exact hb1.size
  replace hbw := hbw.trans (hb1.mono hbw.size)
  clear hb1 hz0
  have q1 : (V.tmod 3) = (g : Int) := by rw [Int.tmod_eq_emod_of_nonneg hb.1]; exact hg
  have q2 : ((V / 16).tmod 6) = (p : Int) := by rw [Int.tmod_eq_emod_of_nonneg (by omega)]; exact hp
  have q3 : ((V / 256).tmod 8) = (k : Int) := by rw [Int.tmod_eq_emod_of_nonneg (by omega)]; exact hk
  have hk7 : k = 0 ∨ k = 1 ∨ k = 2 ∨ k = 3 ∨ k = 4 ∨ k = 5 ∨ k = 6 ∨ k = 7 := by omega
  rcases hk7 with rfl | rfl | rfl | rfl | rfl | rfl | rfl | rfl
  · obtain ⟨D1_c, D1_f, D1_z⟩ := D1.all
    go_wp2_with fail
    clear D1_c D1_f D1_z
    with_reducible refine (HPG.out _).mono ?_
    rintro e w2 ⟨rfl, hb2⟩
    replace D1 := D1.below hb2
    replace D2 := D2.below hb2
    replace hbw := hbw.trans (hb2.mono hbw.size)
    replace hz1 := Nat.le_trans hz1 hb2.size
    clear hb2
    obtain ⟨D1_c, D1_f, D1_z⟩ := D1.all
    go_wp2_with fail
    clear D1_c D1_f D1_z
    with_reducible refine (HWR.out _ _ (HVA.out _ hbw)).mono ?_
    rintro e w3 ⟨H2, hw2, of3, or3, om3, og3, kf3, kr3, km3, kg3, us3, gs3, rfl, O3, hb3⟩
    obtain ⟨n3, hln⟩ : ∃ n, (Pl.F (Ho.P H2)).length = n := ⟨_, rfl⟩
    obtain ⟨r3, hlr⟩ : ∃ n, (Pl.R (Ho.P H2)).length = n := ⟨_, rfl⟩
    obtain ⟨m3, hlm⟩ : ∃ n, (Pl.M (Ho.P H2)).length = n := ⟨_, rfl⟩
    obtain ⟨q3, hlq⟩ : ∃ n, (Ho.G H2).length = n := ⟨_, rfl⟩
    obtain ⟨t3, hlt3⟩ : ∃ n, Ho.t H2 = n := ⟨_, rfl⟩
    obtain ⟨d3, hld⟩ : ∃ n, Ho.d H2 = n := ⟨_, rfl⟩
    obtain ⟨s3, hls⟩ : ∃ n, Ho.n H2 = n := ⟨_, rfl⟩
    rw [hln, hlr, hlm, hlq] at O3 ⊢
    rw [hlt3, hld, hls]
    have HG3 := Lib.hid (And.intro hln (And.intro hlr (And.intro hlm (And.intro hlq (And.intro hlt3 (And.intro hld hls))))))
    clear hln hlr hlm hlq hlt3 hld hls
    have HWT := Lib.hid hw2; clear hw2
    replace O3 := O3.lower hz1
    replace D2 := D2.below hb3
    replace hbw := hbw.trans (hb3.mono hbw.size)
    clear hb3 D1
    obtain ⟨D2_c, D2_f, D2_z⟩ := D2.all
    go_wp2_with fail
    refine bodyPost_ret (v := .tuple #[.agg #[.slice of3 n3 kf3, .slice or3 r3 kr3, .slice om3 m3 km3, .slice og3 q3 kg3, .int .i64 t3, .int .u64 d3, .int .i64 s3], .int .i64 g, .int .i64 p, .string d, .bool true]) (by simp [results, Try.results19, go_sem, D2_c, D2_z]) rfl ?_
    refine ⟨H2, g, p, d, .inl ⟨hg3, hp6, .inl ⟨HDD.out.choose, HDD.out.choose_spec, HWT.out⟩⟩, hoRet' (k := fun v => .tuple #[v, .int .i64 g, .int .i64 p, .string d, .bool true]) (base := w.heap.size + 1 + 1) HG3.out.1 HG3.out.2.1 HG3.out.2.2.1 HG3.out.2.2.2.1 HG3.out.2.2.2.2.1 HG3.out.2.2.2.2.2.1 HG3.out.2.2.2.2.2.2 (gs := gs3) (us := us3) ?hO ?hB⟩
    case hO => (repeat' (first | with_reducible assumption | (with_reducible refine OwnH.fillz (x0 := .slice none 0 0) (x1 := .slice none 0 0) (x2 := .slice none 0 0) (x3 := .slice none 0 0) (x4 := .int .i64 0) (x5 := .int .u64 0) (x6 := .int .i64 0) ?_ ?_ _ _ _ _ _ _ _) | (with_reducible refine OwnH.drew ?_) | (with_reducible refine OwnH.alloc ?_ _) | (with_reducible refine OwnH.below ?_ (by with_reducible assumption)) | (with_reducible refine HasBlock.drew ?_) | (with_reducible refine HasBlock.made' (by first | with_reducible rfl | omega | (dsimp only; omega) | (simp only [sizes]; done) | (simp only [sizes]; omega))) | (with_reducible refine HasBlock.alloc ?_ _) | (with_reducible refine HasBlock.below ?_ (by with_reducible assumption))))
    case hB => (repeat (first | with_reducible assumption | with_reducible exact Below.refl _ _ | (with_reducible refine Below.drew ?_) | (with_reducible refine Below.alloc' ?_ (Nat.le_refl _) _) | (with_reducible refine Below.setCell ?_ (by first | with_reducible rfl | omega | (dsimp only; omega) | (simp only [sizes]; done) | (simp only [sizes]; omega)) _) | (with_reducible refine Below.trans ?_ (Below.mono (by with_reducible assumption) (by first | with_reducible rfl | omega | (dsimp only; omega) | (simp only [sizes]; done) | (simp only [sizes]; omega))))))
  · obtain ⟨D1_c, D1_f, D1_z⟩ := D1.all
    go_wp2_with fail
    clear D1_c D1_f D1_z
    with_reducible refine (HPG.out _).mono ?_
    rintro e w2 ⟨rfl, hb2⟩
    replace D1 := D1.below hb2
    replace D2 := D2.below hb2
    replace hbw := hbw.trans (hb2.mono hbw.size)
    replace hz1 := Nat.le_trans hz1 hb2.size
    clear hb2
    obtain ⟨D1_c, D1_f, D1_z⟩ := D1.all
    go_wp2_with fail
    clear D1_c D1_f D1_z
    with_reducible refine (HWR.out _ _ (HVA.out _ hbw)).mono ?_
    rintro e w3 ⟨H2, hw2, of3, or3, om3, og3, kf3, kr3, km3, kg3, us3, gs3, rfl, O3, hb3⟩
    obtain ⟨n3, hln⟩ : ∃ n, (Pl.F (Ho.P H2)).length = n := ⟨_, rfl⟩
    obtain ⟨r3, hlr⟩ : ∃ n, (Pl.R (Ho.P H2)).length = n := ⟨_, rfl⟩
    obtain ⟨m3, hlm⟩ : ∃ n, (Pl.M (Ho.P H2)).length = n := ⟨_, rfl⟩
    obtain ⟨q3, hlq⟩ : ∃ n, (Ho.G H2).length = n := ⟨_, rfl⟩
    obtain ⟨t3, hlt3⟩ : ∃ n, Ho.t H2 = n := ⟨_, rfl⟩
    obtain ⟨d3, hld⟩ : ∃ n, Ho.d H2 = n := ⟨_, rfl⟩
    obtain ⟨s3, hls⟩ : ∃ n, Ho.n H2 = n := ⟨_, rfl⟩
    rw [hln, hlr, hlm, hlq] at O3 ⊢
    rw [hlt3, hld, hls]
    have HG3 := Lib.hid (And.intro hln (And.intro hlr (And.intro hlm (And.intro hlq (And.intro hlt3 (And.intro hld hls))))))
    clear hln hlr hlm hlq hlt3 hld hls
    have HWT := Lib.hid hw2; clear hw2
    replace O3 := O3.lower hz1
    replace D2 := D2.below hb3
    replace hbw := hbw.trans (hb3.mono hbw.size)
    clear hb3 D1
    obtain ⟨D2_c, D2_f, D2_z⟩ := D2.all
    go_wp2_with fail
    refine bodyPost_ret (v := .tuple #[.agg #[.slice of3 n3 kf3, .slice or3 r3 kr3, .slice om3 m3 km3, .slice og3 q3 kg3, .int .i64 t3, .int .u64 d3, .int .i64 s3], .int .i64 g, .int .i64 p, .string d, .bool true]) (by simp [results, Try.results19, go_sem, D2_c, D2_z]) rfl ?_
    refine ⟨H2, g, p, d, .inl ⟨hg3, hp6, .inl ⟨HDD.out.choose, HDD.out.choose_spec, HWT.out⟩⟩, hoRet' (k := fun v => .tuple #[v, .int .i64 g, .int .i64 p, .string d, .bool true]) (base := w.heap.size + 1 + 1) HG3.out.1 HG3.out.2.1 HG3.out.2.2.1 HG3.out.2.2.2.1 HG3.out.2.2.2.2.1 HG3.out.2.2.2.2.2.1 HG3.out.2.2.2.2.2.2 (gs := gs3) (us := us3) ?hO ?hB⟩
    case hO => (repeat' (first | with_reducible assumption | (with_reducible refine OwnH.fillz (x0 := .slice none 0 0) (x1 := .slice none 0 0) (x2 := .slice none 0 0) (x3 := .slice none 0 0) (x4 := .int .i64 0) (x5 := .int .u64 0) (x6 := .int .i64 0) ?_ ?_ _ _ _ _ _ _ _) | (with_reducible refine OwnH.drew ?_) | (with_reducible refine OwnH.alloc ?_ _) | (with_reducible refine OwnH.below ?_ (by with_reducible assumption)) | (with_reducible refine HasBlock.drew ?_) | (with_reducible refine HasBlock.made' (by first | with_reducible rfl | omega | (dsimp only; omega) | (simp only [sizes]; done) | (simp only [sizes]; omega))) | (with_reducible refine HasBlock.alloc ?_ _) | (with_reducible refine HasBlock.below ?_ (by with_reducible assumption))))
    case hB => (repeat (first | with_reducible assumption | with_reducible exact Below.refl _ _ | (with_reducible refine Below.drew ?_) | (with_reducible refine Below.alloc' ?_ (Nat.le_refl _) _) | (with_reducible refine Below.setCell ?_ (by first | with_reducible rfl | omega | (dsimp only; omega) | (simp only [sizes]; done) | (simp only [sizes]; omega)) _) | (with_reducible refine Below.trans ?_ (Below.mono (by with_reducible assumption) (by first | with_reducible rfl | omega | (dsimp only; omega) | (simp only [sizes]; done) | (simp only [sizes]; omega))))))
  · obtain ⟨D1_c, D1_f, D1_z⟩ := D1.all
    go_wp2_with fail
    clear D1_c D1_f D1_z
    with_reducible refine (HPG.out _).mono ?_
    rintro e w2 ⟨rfl, hb2⟩
    replace D1 := D1.below hb2
    replace D2 := D2.below hb2
    replace hbw := hbw.trans (hb2.mono hbw.size)
    replace hz1 := Nat.le_trans hz1 hb2.size
    clear hb2
    obtain ⟨D1_c, D1_f, D1_z⟩ := D1.all
    go_wp2_with fail
    clear D1_c D1_f D1_z
    with_reducible refine (HWR.out _ _ (HVA.out _ hbw)).mono ?_
    rintro e w3 ⟨H2, hw2, of3, or3, om3, og3, kf3, kr3, km3, kg3, us3, gs3, rfl, O3, hb3⟩
    obtain ⟨n3, hln⟩ : ∃ n, (Pl.F (Ho.P H2)).length = n := ⟨_, rfl⟩
    obtain ⟨r3, hlr⟩ : ∃ n, (Pl.R (Ho.P H2)).length = n := ⟨_, rfl⟩
    obtain ⟨m3, hlm⟩ : ∃ n, (Pl.M (Ho.P H2)).length = n := ⟨_, rfl⟩
    obtain ⟨q3, hlq⟩ : ∃ n, (Ho.G H2).length = n := ⟨_, rfl⟩
    obtain ⟨t3, hlt3⟩ : ∃ n, Ho.t H2 = n := ⟨_, rfl⟩
    obtain ⟨d3, hld⟩ : ∃ n, Ho.d H2 = n := ⟨_, rfl⟩
    obtain ⟨s3, hls⟩ : ∃ n, Ho.n H2 = n := ⟨_, rfl⟩
    rw [hln, hlr, hlm, hlq] at O3 ⊢
    rw [hlt3, hld, hls]
    have HG3 := Lib.hid (And.intro hln (And.intro hlr (And.intro hlm (And.intro hlq (And.intro hlt3 (And.intro hld hls))))))
    clear hln hlr hlm hlq hlt3 hld hls
    have HWT := Lib.hid hw2; clear hw2
    replace O3 := O3.lower hz1
    replace D2 := D2.below hb3
    replace hbw := hbw.trans (hb3.mono hbw.size)
    clear hb3 D1
    obtain ⟨D2_c, D2_f, D2_z⟩ := D2.all
    go_wp2_with fail
    refine bodyPost_ret (v := .tuple #[.agg #[.slice of3 n3 kf3, .slice or3 r3 kr3, .slice om3 m3 km3, .slice og3 q3 kg3, .int .i64 t3, .int .u64 d3, .int .i64 s3], .int .i64 g, .int .i64 p, .string d, .bool true]) (by simp [results, Try.results19, go_sem, D2_c, D2_z]) rfl ?_
    refine ⟨H2, g, p, d, .inl ⟨hg3, hp6, .inl ⟨HDD.out.choose, HDD.out.choose_spec, HWT.out⟩⟩, hoRet' (k := fun v => .tuple #[v, .int .i64 g, .int .i64 p, .string d, .bool true]) (base := w.heap.size + 1 + 1) HG3.out.1 HG3.out.2.1 HG3.out.2.2.1 HG3.out.2.2.2.1 HG3.out.2.2.2.2.1 HG3.out.2.2.2.2.2.1 HG3.out.2.2.2.2.2.2 (gs := gs3) (us := us3) ?hO ?hB⟩
    case hO => (repeat' (first | with_reducible assumption | (with_reducible refine OwnH.fillz (x0 := .slice none 0 0) (x1 := .slice none 0 0) (x2 := .slice none 0 0) (x3 := .slice none 0 0) (x4 := .int .i64 0) (x5 := .int .u64 0) (x6 := .int .i64 0) ?_ ?_ _ _ _ _ _ _ _) | (with_reducible refine OwnH.drew ?_) | (with_reducible refine OwnH.alloc ?_ _) | (with_reducible refine OwnH.below ?_ (by with_reducible assumption)) | (with_reducible refine HasBlock.drew ?_) | (with_reducible refine HasBlock.made' (by first | with_reducible rfl | omega | (dsimp only; omega) | (simp only [sizes]; done) | (simp only [sizes]; omega))) | (with_reducible refine HasBlock.alloc ?_ _) | (with_reducible refine HasBlock.below ?_ (by with_reducible assumption))))
    case hB => (repeat (first | with_reducible assumption | with_reducible exact Below.refl _ _ | (with_reducible refine Below.drew ?_) | (with_reducible refine Below.alloc' ?_ (Nat.le_refl _) _) | (with_reducible refine Below.setCell ?_ (by first | with_reducible rfl | omega | (dsimp only; omega) | (simp only [sizes]; done) | (simp only [sizes]; omega)) _) | (with_reducible refine Below.trans ?_ (Below.mono (by with_reducible assumption) (by first | with_reducible rfl | omega | (dsimp only; omega) | (simp only [sizes]; done) | (simp only [sizes]; omega))))))
  · obtain ⟨D1_c, D1_f, D1_z⟩ := D1.all
    go_wp2_with fail
    clear D1_c D1_f D1_z
    with_reducible refine (HRD.out _ _ (HVA.out _ hbw)).mono ?_
    rintro e w3 ⟨H2, hw2, of3, or3, om3, og3, kf3, kr3, km3, kg3, us3, gs3, rfl, O3, hb3⟩
    obtain ⟨n3, hln⟩ : ∃ n, (Pl.F (Ho.P H2)).length = n := ⟨_, rfl⟩
    obtain ⟨r3, hlr⟩ : ∃ n, (Pl.R (Ho.P H2)).length = n := ⟨_, rfl⟩
    obtain ⟨m3, hlm⟩ : ∃ n, (Pl.M (Ho.P H2)).length = n := ⟨_, rfl⟩
    obtain ⟨q3, hlq⟩ : ∃ n, (Ho.G H2).length = n := ⟨_, rfl⟩
    obtain ⟨t3, hlt3⟩ : ∃ n, Ho.t H2 = n := ⟨_, rfl⟩
    obtain ⟨d3, hld⟩ : ∃ n, Ho.d H2 = n := ⟨_, rfl⟩
    obtain ⟨s3, hls⟩ : ∃ n, Ho.n H2 = n := ⟨_, rfl⟩
    rw [hln, hlr, hlm, hlq] at O3 ⊢
    rw [hlt3, hld, hls]
    have HG3 := Lib.hid (And.intro hln (And.intro hlr (And.intro hlm (And.intro hlq (And.intro hlt3 (And.intro hld hls))))))
    clear hln hlr hlm hlq hlt3 hld hls
    have HWT := Lib.hid hw2; clear hw2
    replace O3 := O3.lower hz1
    replace D2 := D2.below hb3
    replace hbw := hbw.trans (hb3.mono hbw.size)
    clear hb3 D1
    obtain ⟨D2_c, D2_f, D2_z⟩ := D2.all
    go_wp2_with fail
    refine bodyPost_ret (v := .tuple #[.agg #[.slice of3 n3 kf3, .slice or3 r3 kr3, .slice om3 m3 km3, .slice og3 q3 kg3, .int .i64 t3, .int .u64 d3, .int .i64 s3], .int .i64 g, .int .i64 p, .string (⟨#[]⟩ : ByteArray), .bool true]) (by simp [results, Try.results19, go_sem, D2_c, D2_z]) rfl ?_
    refine ⟨H2, g, p, (⟨#[]⟩ : ByteArray), .inl ⟨hg3, hp6, .inr ⟨rfl, HWT.out⟩⟩, hoRet' (k := fun v => .tuple #[v, .int .i64 g, .int .i64 p, .string (⟨#[]⟩ : ByteArray), .bool true]) (base := w.heap.size + 1 + 1) HG3.out.1 HG3.out.2.1 HG3.out.2.2.1 HG3.out.2.2.2.1 HG3.out.2.2.2.2.1 HG3.out.2.2.2.2.2.1 HG3.out.2.2.2.2.2.2 (gs := gs3) (us := us3) ?hO ?hB⟩
    case hO => (repeat' (first | with_reducible assumption | (with_reducible refine OwnH.fillz (x0 := .slice none 0 0) (x1 := .slice none 0 0) (x2 := .slice none 0 0) (x3 := .slice none 0 0) (x4 := .int .i64 0) (x5 := .int .u64 0) (x6 := .int .i64 0) ?_ ?_ _ _ _ _ _ _ _) | (with_reducible refine OwnH.drew ?_) | (with_reducible refine OwnH.alloc ?_ _) | (with_reducible refine OwnH.below ?_ (by with_reducible assumption)) | (with_reducible refine HasBlock.drew ?_) | (with_reducible refine HasBlock.made' (by first | with_reducible rfl | omega | (dsimp only; omega) | (simp only [sizes]; done) | (simp only [sizes]; omega))) | (with_reducible refine HasBlock.alloc ?_ _) | (with_reducible refine HasBlock.below ?_ (by with_reducible assumption))))
    case hB => (repeat (first | with_reducible assumption | with_reducible exact Below.refl _ _ | (with_reducible refine Below.drew ?_) | (with_reducible refine Below.alloc' ?_ (Nat.le_refl _) _) | (with_reducible refine Below.setCell ?_ (by first | with_reducible rfl | omega | (dsimp only; omega) | (simp only [sizes]; done) | (simp only [sizes]; omega)) _) | (with_reducible refine Below.trans ?_ (Below.mono (by with_reducible assumption) (by first | with_reducible rfl | omega | (dsimp only; omega) | (simp only [sizes]; done) | (simp only [sizes]; omega))))))
  · obtain ⟨D1_c, D1_f, D1_z⟩ := D1.all
    go_wp2_with fail
    clear D1_c D1_f D1_z
    with_reducible refine (HRD.out _ _ (HVA.out _ hbw)).mono ?_
    rintro e w3 ⟨H2, hw2, of3, or3, om3, og3, kf3, kr3, km3, kg3, us3, gs3, rfl, O3, hb3⟩
    obtain ⟨n3, hln⟩ : ∃ n, (Pl.F (Ho.P H2)).length = n := ⟨_, rfl⟩
    obtain ⟨r3, hlr⟩ : ∃ n, (Pl.R (Ho.P H2)).length = n := ⟨_, rfl⟩
    obtain ⟨m3, hlm⟩ : ∃ n, (Pl.M (Ho.P H2)).length = n := ⟨_, rfl⟩
    obtain ⟨q3, hlq⟩ : ∃ n, (Ho.G H2).length = n := ⟨_, rfl⟩
    obtain ⟨t3, hlt3⟩ : ∃ n, Ho.t H2 = n := ⟨_, rfl⟩
    obtain ⟨d3, hld⟩ : ∃ n, Ho.d H2 = n := ⟨_, rfl⟩
    obtain ⟨s3, hls⟩ : ∃ n, Ho.n H2 = n := ⟨_, rfl⟩
    rw [hln, hlr, hlm, hlq] at O3 ⊢
    rw [hlt3, hld, hls]
    have HG3 := Lib.hid (And.intro hln (And.intro hlr (And.intro hlm (And.intro hlq (And.intro hlt3 (And.intro hld hls))))))
    clear hln hlr hlm hlq hlt3 hld hls
    have HWT := Lib.hid hw2; clear hw2
    replace O3 := O3.lower hz1
    replace D2 := D2.below hb3
    replace hbw := hbw.trans (hb3.mono hbw.size)
    clear hb3 D1
    obtain ⟨D2_c, D2_f, D2_z⟩ := D2.all
    go_wp2_with fail
    refine bodyPost_ret (v := .tuple #[.agg #[.slice of3 n3 kf3, .slice or3 r3 kr3, .slice om3 m3 km3, .slice og3 q3 kg3, .int .i64 t3, .int .u64 d3, .int .i64 s3], .int .i64 g, .int .i64 p, .string (⟨#[]⟩ : ByteArray), .bool true]) (by simp [results, Try.results19, go_sem, D2_c, D2_z]) rfl ?_
    refine ⟨H2, g, p, (⟨#[]⟩ : ByteArray), .inl ⟨hg3, hp6, .inr ⟨rfl, HWT.out⟩⟩, hoRet' (k := fun v => .tuple #[v, .int .i64 g, .int .i64 p, .string (⟨#[]⟩ : ByteArray), .bool true]) (base := w.heap.size + 1 + 1) HG3.out.1 HG3.out.2.1 HG3.out.2.2.1 HG3.out.2.2.2.1 HG3.out.2.2.2.2.1 HG3.out.2.2.2.2.2.1 HG3.out.2.2.2.2.2.2 (gs := gs3) (us := us3) ?hO ?hB⟩
    case hO => (repeat' (first | with_reducible assumption | (with_reducible refine OwnH.fillz (x0 := .slice none 0 0) (x1 := .slice none 0 0) (x2 := .slice none 0 0) (x3 := .slice none 0 0) (x4 := .int .i64 0) (x5 := .int .u64 0) (x6 := .int .i64 0) ?_ ?_ _ _ _ _ _ _ _) | (with_reducible refine OwnH.drew ?_) | (with_reducible refine OwnH.alloc ?_ _) | (with_reducible refine OwnH.below ?_ (by with_reducible assumption)) | (with_reducible refine HasBlock.drew ?_) | (with_reducible refine HasBlock.made' (by first | with_reducible rfl | omega | (dsimp only; omega) | (simp only [sizes]; done) | (simp only [sizes]; omega))) | (with_reducible refine HasBlock.alloc ?_ _) | (with_reducible refine HasBlock.below ?_ (by with_reducible assumption))))
    case hB => (repeat (first | with_reducible assumption | with_reducible exact Below.refl _ _ | (with_reducible refine Below.drew ?_) | (with_reducible refine Below.alloc' ?_ (Nat.le_refl _) _) | (with_reducible refine Below.setCell ?_ (by first | with_reducible rfl | omega | (dsimp only; omega) | (simp only [sizes]; done) | (simp only [sizes]; omega)) _) | (with_reducible refine Below.trans ?_ (Below.mono (by with_reducible assumption) (by first | with_reducible rfl | omega | (dsimp only; omega) | (simp only [sizes]; done) | (simp only [sizes]; omega))))))
  · obtain ⟨D1_c, D1_f, D1_z⟩ := D1.all
    go_wp2_with fail
    clear D1_c D1_f D1_z
    with_reducible refine (HRD.out _ _ (HVA.out _ hbw)).mono ?_
    rintro e w3 ⟨H2, hw2, of3, or3, om3, og3, kf3, kr3, km3, kg3, us3, gs3, rfl, O3, hb3⟩
    obtain ⟨n3, hln⟩ : ∃ n, (Pl.F (Ho.P H2)).length = n := ⟨_, rfl⟩
    obtain ⟨r3, hlr⟩ : ∃ n, (Pl.R (Ho.P H2)).length = n := ⟨_, rfl⟩
    obtain ⟨m3, hlm⟩ : ∃ n, (Pl.M (Ho.P H2)).length = n := ⟨_, rfl⟩
    obtain ⟨q3, hlq⟩ : ∃ n, (Ho.G H2).length = n := ⟨_, rfl⟩
    obtain ⟨t3, hlt3⟩ : ∃ n, Ho.t H2 = n := ⟨_, rfl⟩
    obtain ⟨d3, hld⟩ : ∃ n, Ho.d H2 = n := ⟨_, rfl⟩
    obtain ⟨s3, hls⟩ : ∃ n, Ho.n H2 = n := ⟨_, rfl⟩
    rw [hln, hlr, hlm, hlq] at O3 ⊢
    rw [hlt3, hld, hls]
    have HG3 := Lib.hid (And.intro hln (And.intro hlr (And.intro hlm (And.intro hlq (And.intro hlt3 (And.intro hld hls))))))
    clear hln hlr hlm hlq hlt3 hld hls
    have HWT := Lib.hid hw2; clear hw2
    replace O3 := O3.lower hz1
    replace D2 := D2.below hb3
    replace hbw := hbw.trans (hb3.mono hbw.size)
    clear hb3 D1
    obtain ⟨D2_c, D2_f, D2_z⟩ := D2.all
    go_wp2_with fail
    refine bodyPost_ret (v := .tuple #[.agg #[.slice of3 n3 kf3, .slice or3 r3 kr3, .slice om3 m3 km3, .slice og3 q3 kg3, .int .i64 t3, .int .u64 d3, .int .i64 s3], .int .i64 g, .int .i64 p, .string (⟨#[]⟩ : ByteArray), .bool true]) (by simp [results, Try.results19, go_sem, D2_c, D2_z]) rfl ?_
    refine ⟨H2, g, p, (⟨#[]⟩ : ByteArray), .inl ⟨hg3, hp6, .inr ⟨rfl, HWT.out⟩⟩, hoRet' (k := fun v => .tuple #[v, .int .i64 g, .int .i64 p, .string (⟨#[]⟩ : ByteArray), .bool true]) (base := w.heap.size + 1 + 1) HG3.out.1 HG3.out.2.1 HG3.out.2.2.1 HG3.out.2.2.2.1 HG3.out.2.2.2.2.1 HG3.out.2.2.2.2.2.1 HG3.out.2.2.2.2.2.2 (gs := gs3) (us := us3) ?hO ?hB⟩
    case hO => (repeat' (first | with_reducible assumption | (with_reducible refine OwnH.fillz (x0 := .slice none 0 0) (x1 := .slice none 0 0) (x2 := .slice none 0 0) (x3 := .slice none 0 0) (x4 := .int .i64 0) (x5 := .int .u64 0) (x6 := .int .i64 0) ?_ ?_ _ _ _ _ _ _ _) | (with_reducible refine OwnH.drew ?_) | (with_reducible refine OwnH.alloc ?_ _) | (with_reducible refine OwnH.below ?_ (by with_reducible assumption)) | (with_reducible refine HasBlock.drew ?_) | (with_reducible refine HasBlock.made' (by first | with_reducible rfl | omega | (dsimp only; omega) | (simp only [sizes]; done) | (simp only [sizes]; omega))) | (with_reducible refine HasBlock.alloc ?_ _) | (with_reducible refine HasBlock.below ?_ (by with_reducible assumption))))
    case hB => (repeat (first | with_reducible assumption | with_reducible exact Below.refl _ _ | (with_reducible refine Below.drew ?_) | (with_reducible refine Below.alloc' ?_ (Nat.le_refl _) _) | (with_reducible refine Below.setCell ?_ (by first | with_reducible rfl | omega | (dsimp only; omega) | (simp only [sizes]; done) | (simp only [sizes]; omega)) _) | (with_reducible refine Below.trans ?_ (Below.mono (by with_reducible assumption) (by first | with_reducible rfl | omega | (dsimp only; omega) | (simp only [sizes]; done) | (simp only [sizes]; omega))))))
  · have SC := fun v w h => hscan_ok v H (1 + V / 4096 % 20) w h HSH.out.ok (by omega)
    have q4 : (V / 4096).tmod 20 = V / 4096 % 20 := Int.tmod_eq_emod_of_nonneg (by omega)
    obtain ⟨N, hN⟩ : ∃ N, V / 4096 % 20 = N := ⟨_, rfl⟩
    rw [hN] at SC q4
    have hN0 : 0 ≤ N ∧ N < 20 := by omega
    have hsx : ∃ n, H.scan (1 + N) = H.scan n := ⟨_, rfl⟩
    obtain ⟨H2, hH2⟩ : ∃ x, H.scan (1 + N) = x := ⟨_, rfl⟩
    rw [hH2] at SC hsx
    have hsx' : ∃ n, H2 = H.scan n := ⟨_, hH2.symm⟩
    have HSX := Lib.hid hsx'; clear hsx' hsx hH2
    have HSC := Lib.hid SC; clear SC
    obtain ⟨D1_c, D1_f, D1_z⟩ := D1.all
    go_wp2_with fail
    clear D1_c D1_f D1_z
    with_reducible refine (HSC.out _ _ (HVA.out _ hbw)).mono ?_
    rintro e w3 ⟨of3, or3, om3, og3, kf3, kr3, km3, kg3, us3, gs3, rfl, O3, hb3⟩
    obtain ⟨n3, hln⟩ : ∃ n, (Pl.F (Ho.P H2)).length = n := ⟨_, rfl⟩
    obtain ⟨r3, hlr⟩ : ∃ n, (Pl.R (Ho.P H2)).length = n := ⟨_, rfl⟩
    obtain ⟨m3, hlm⟩ : ∃ n, (Pl.M (Ho.P H2)).length = n := ⟨_, rfl⟩
    obtain ⟨q3, hlq⟩ : ∃ n, (Ho.G H2).length = n := ⟨_, rfl⟩
    obtain ⟨t3, hlt3⟩ : ∃ n, Ho.t H2 = n := ⟨_, rfl⟩
    obtain ⟨d3, hld⟩ : ∃ n, Ho.d H2 = n := ⟨_, rfl⟩
    obtain ⟨s3, hls⟩ : ∃ n, Ho.n H2 = n := ⟨_, rfl⟩
    rw [hln, hlr, hlm, hlq] at O3 ⊢
    rw [hlt3, hld, hls]
    have HG3 := Lib.hid (And.intro hln (And.intro hlr (And.intro hlm (And.intro hlq (And.intro hlt3 (And.intro hld hls))))))
    clear hln hlr hlm hlq hlt3 hld hls
    replace O3 := O3.lower hz1
    replace D2 := D2.below hb3
    replace hbw := hbw.trans (hb3.mono hbw.size)
    clear hb3 D1
    obtain ⟨D2_c, D2_f, D2_z⟩ := D2.all
    go_wp2_with fail
    refine bodyPost_ret (v := .tuple #[.agg #[.slice of3 n3 kf3, .slice or3 r3 kr3, .slice om3 m3 km3, .slice og3 q3 kg3, .int .i64 t3, .int .u64 d3, .int .i64 s3], .int .i64 0, .int .i64 0, .string (⟨#[]⟩ : ByteArray), .bool true]) (by simp [results, Try.results19, go_sem, D2_c]) rfl ?_
    refine ⟨H2, 0, 0, (⟨#[]⟩ : ByteArray), .inr ⟨rfl, rfl, rfl, .inl HSX.out⟩, hoRet' (k := fun v => .tuple #[v, .int .i64 0, .int .i64 0, .string (⟨#[]⟩ : ByteArray), .bool true]) (base := w.heap.size + 1 + 1) HG3.out.1 HG3.out.2.1 HG3.out.2.2.1 HG3.out.2.2.2.1 HG3.out.2.2.2.2.1 HG3.out.2.2.2.2.2.1 HG3.out.2.2.2.2.2.2 (gs := gs3) (us := us3) ?hO ?hB⟩
    case hO => (repeat' (first | with_reducible assumption | (with_reducible refine OwnH.fillz (x0 := .slice none 0 0) (x1 := .slice none 0 0) (x2 := .slice none 0 0) (x3 := .slice none 0 0) (x4 := .int .i64 0) (x5 := .int .u64 0) (x6 := .int .i64 0) ?_ ?_ _ _ _ _ _ _ _) | (with_reducible refine OwnH.drew ?_) | (with_reducible refine OwnH.alloc ?_ _) | (with_reducible refine OwnH.below ?_ (by with_reducible assumption)) | (with_reducible refine HasBlock.drew ?_) | (with_reducible refine HasBlock.made' (by first | with_reducible rfl | omega | (dsimp only; omega) | (simp only [sizes]; done) | (simp only [sizes]; omega))) | (with_reducible refine HasBlock.alloc ?_ _) | (with_reducible refine HasBlock.below ?_ (by with_reducible assumption))))
    case hB => (repeat (first | with_reducible assumption | with_reducible exact Below.refl _ _ | (with_reducible refine Below.drew ?_) | (with_reducible refine Below.alloc' ?_ (Nat.le_refl _) _) | (with_reducible refine Below.setCell ?_ (by first | with_reducible rfl | omega | (dsimp only; omega) | (simp only [sizes]; done) | (simp only [sizes]; omega)) _) | (with_reducible refine Below.trans ?_ (Below.mono (by with_reducible assumption) (by first | with_reducible rfl | omega | (dsimp only; omega) | (simp only [sizes]; done) | (simp only [sizes]; omega))))))
  · obtain ⟨N, hN⟩ : ∃ N : Nat, V / 4096 % 6 = N := ⟨(V / 4096 % 6).toNat, by omega⟩
    have q4 : (V / 4096).tmod 6 = N := by rw [Int.tmod_eq_emod_of_nonneg (by omega)]; exact hN
    have hN6 : N < 6 := by omega
    have SM := fun v w h => hsample_ok v H g (1 + N) w h HSH.out.ok (by rw [HSH.out.g]; exact hg3) (by omega) (by omega)
    have e1 : ((1 + N : Nat) : Int) = 1 + (N : Int) := by omega
    rw [e1] at SM
    clear e1
    obtain ⟨H2, hH2⟩ : ∃ x, H.sample g (1 + N) = x := ⟨_, rfl⟩
    rw [hH2] at SM
    have hsx' : ∃ i k, H2 = H.sample i k := ⟨_, _, hH2.symm⟩
    have HSX := Lib.hid hsx'; clear hsx' hH2
    have HSM := Lib.hid SM; clear SM
    obtain ⟨D1_c, D1_f, D1_z⟩ := D1.all
    go_wp2_with fail
    clear D1_c D1_f D1_z
    with_reducible refine (HSM.out _ _ (HVA.out _ hbw)).mono ?_
    rintro e w3 ⟨of3, or3, om3, og3, kf3, kr3, km3, kg3, us3, gs3, rfl, O3, hb3⟩
    obtain ⟨n3, hln⟩ : ∃ n, (Pl.F (Ho.P H2)).length = n := ⟨_, rfl⟩
    obtain ⟨r3, hlr⟩ : ∃ n, (Pl.R (Ho.P H2)).length = n := ⟨_, rfl⟩
    obtain ⟨m3, hlm⟩ : ∃ n, (Pl.M (Ho.P H2)).length = n := ⟨_, rfl⟩
    obtain ⟨q3, hlq⟩ : ∃ n, (Ho.G H2).length = n := ⟨_, rfl⟩
    obtain ⟨t3, hlt3⟩ : ∃ n, Ho.t H2 = n := ⟨_, rfl⟩
    obtain ⟨d3, hld⟩ : ∃ n, Ho.d H2 = n := ⟨_, rfl⟩
    obtain ⟨s3, hls⟩ : ∃ n, Ho.n H2 = n := ⟨_, rfl⟩
    rw [hln, hlr, hlm, hlq] at O3 ⊢
    rw [hlt3, hld, hls]
    have HG3 := Lib.hid (And.intro hln (And.intro hlr (And.intro hlm (And.intro hlq (And.intro hlt3 (And.intro hld hls))))))
    clear hln hlr hlm hlq hlt3 hld hls
    replace O3 := O3.lower hz1
    replace D2 := D2.below hb3
    replace hbw := hbw.trans (hb3.mono hbw.size)
    clear hb3 D1
    obtain ⟨D2_c, D2_f, D2_z⟩ := D2.all
    go_wp2_with fail
    refine bodyPost_ret (v := .tuple #[.agg #[.slice of3 n3 kf3, .slice or3 r3 kr3, .slice om3 m3 km3, .slice og3 q3 kg3, .int .i64 t3, .int .u64 d3, .int .i64 s3], .int .i64 0, .int .i64 0, .string (⟨#[]⟩ : ByteArray), .bool true]) (by simp [results, Try.results19, go_sem, D2_c, D2_z]) rfl ?_
    refine ⟨H2, 0, 0, (⟨#[]⟩ : ByteArray), .inr ⟨rfl, rfl, rfl, .inr HSX.out⟩, hoRet' (k := fun v => .tuple #[v, .int .i64 0, .int .i64 0, .string (⟨#[]⟩ : ByteArray), .bool true]) (base := w.heap.size + 1 + 1) HG3.out.1 HG3.out.2.1 HG3.out.2.2.1 HG3.out.2.2.2.1 HG3.out.2.2.2.2.1 HG3.out.2.2.2.2.2.1 HG3.out.2.2.2.2.2.2 (gs := gs3) (us := us3) ?hO ?hB⟩
    case hO => (repeat' (first | with_reducible assumption | (with_reducible refine OwnH.fillz (x0 := .slice none 0 0) (x1 := .slice none 0 0) (x2 := .slice none 0 0) (x3 := .slice none 0 0) (x4 := .int .i64 0) (x5 := .int .u64 0) (x6 := .int .i64 0) ?_ ?_ _ _ _ _ _ _ _) | (with_reducible refine OwnH.drew ?_) | (with_reducible refine OwnH.alloc ?_ _) | (with_reducible refine OwnH.below ?_ (by with_reducible assumption)) | (with_reducible refine HasBlock.drew ?_) | (with_reducible refine HasBlock.made' (by first | with_reducible rfl | omega | (dsimp only; omega) | (simp only [sizes]; done) | (simp only [sizes]; omega))) | (with_reducible refine HasBlock.alloc ?_ _) | (with_reducible refine HasBlock.below ?_ (by with_reducible assumption))))
    case hB => (repeat (first | with_reducible assumption | with_reducible exact Below.refl _ _ | (with_reducible refine Below.drew ?_) | (with_reducible refine Below.alloc' ?_ (Nat.le_refl _) _) | (with_reducible refine Below.setCell ?_ (by first | with_reducible rfl | omega | (dsimp only; omega) | (simp only [sizes]; done) | (simp only [sizes]; omega)) _) | (with_reducible refine Below.trans ?_ (Below.mono (by with_reducible assumption) (by first | with_reducible rfl | omega | (dsimp only; omega) | (simp only [sizes]; done) | (simp only [sizes]; omega))))))
end Go.Proofs.Ytbnngjhnkegliaa
namespace Go.Proofs.Ytbnngjhnkegliaa
open Go.RowKit

/-- What room for a page leaves of the other guests' frames. -/
structure Spare (H K : Ho) (i : Nat) : Prop where
  le : ∀ a, a ≠ i → K.P.chargeN a ≤ H.P.chargeN a
  ge : ∀ (a : Nat) (g : Gm), a ≠ i → H.G[a]? = some g → min (H.P.chargeN a) g.c.r.toNat ≤ K.P.chargeN a
theorem Spare.refl (H : Ho) (i : Nat) : Spare H H i := ⟨fun _ _ => Nat.le_refl _, fun _ _ _ _ => Nat.min_le_left _ _⟩
/-- A guest other than the one that wants room gives up a page only above its reservation. -/
theorem evictC_spare {K L : Ho} {i p : Nat} (hok : K.Ok) (hi : i < K.G.length) (he : K.evictC i p = some L) : ∀ (a : Nat) (g : Gm), a ≠ i → K.G[a]? = some g → L.P.chargeN a ≤ K.P.chargeN a ∧ (L.P.chargeN a = K.P.chargeN a ∨ g.c.r.toNat ≤ L.P.chargeN a) := by
  intro a g hai hg
  have hcb := chosen_bd hok hi
  unfold Ho.evictC at he
  obtain ⟨v, _, _, _, _, hch⟩ := (evict_law hok he).pg
  have h1 := hch a
  by_cases e : (K.chosen i).toNat = a
  · rw [if_pos e] at h1
    refine ⟨by omega, .inr ?_⟩
    by_cases hv : taxB K.t = true ∧ 0 ≤ vicF K.claims K.t K.claims.length
    · have hcv : K.chosen i = vicF K.claims K.t K.claims.length := by
        unfold Ho.chosen victimR
        rw [if_pos hv]
        rfl
      obtain ⟨c, hcc, hrp⟩ := victim_hit _ (Nat.le_refl _) hv.2
      rw [← hcv, e] at hcc
      obtain ⟨l, hl, _⟩ := hok.page hg
      rw [claims_at hg hl] at hcc
      injection hcc with hcc
      subst hcc
      dsimp only at hrp
      have hcl : K.P.chargeN a = l.countP hasB := by unfold Pl.chargeN; rw [Pl.pages_eq hl]
      omega
    · have hci : K.chosen i = i := by
        unfold Ho.chosen victimR
        rw [if_neg hv]
        rfl
      omega
  · rw [if_neg e] at h1
    exact ⟨by omega, .inl (by omega)⟩
theorem Roomed.spare {H K : Ho} {i p : Nat} (h : Roomed i p H K) (hok : H.Ok) (hat : H.P.at i p) : Spare H K i := by
  have hf := Kept.first hok i p
  have h1 : Spare H (H.first i p) i := by
    unfold Ho.first
    split
    · exact Spare.refl H i
    · split
      · cases he : H.evict i p with
        | none => exact Spare.refl H i
        | some L =>
          obtain ⟨v, _, _, _, _, hch⟩ := (evict_law hok he).pg
          have hE : ∀ a, a ≠ i → L.P.chargeN a = H.P.chargeN a := fun a ha => by
            have := hch a
            rw [if_neg (fun e => ha e.symm)] at this
            exact this
          exact ⟨fun a ha => by show L.P.chargeN a ≤ _; rw [hE a ha]; exact Nat.le_refl _, fun a g ha _ => by show _ ≤ L.P.chargeN a; rw [hE a ha]; exact Nat.min_le_left _ _⟩
      · exact Spare.refl H i
  have hst : ∀ K', Steps i p (H.first i p) K' → Spare H K' i ∧ Kept (H.first i p) K' i p := by
    intro K' hs
    induction hs with
    | refl => exact ⟨h1, Kept.refl hf.ok i p⟩
    | @step A L hsA hfull he ih =>
      have hi : i < A.G.length := by rw [ih.2.gl, hf.gl]; exact hok.at_lt hat
      refine ⟨⟨fun a ha => ?_, fun a g ha hg => ?_⟩, ih.2.ev (evict_law ih.2.ok he)⟩
      · by_cases hl : a < A.G.length
        · obtain ⟨g, hg⟩ := get_lt hl
          exact Nat.le_trans (evictC_spare ih.2.ok hi he a g ha hg).1 (ih.1.le a ha)
        · obtain ⟨v, _, _, _, _, hch⟩ := (evict_law ih.2.ok (show A.evict _ _ = some L from he)).pg
          have := hch a
          have := ih.1.le a ha
          split at * <;> omega
      · obtain ⟨g1, hg1, c1, _⟩ := hf.cl a g hg
        obtain ⟨g2, hg2, c2, _⟩ := ih.2.cl a g1 hg1
        have h2 := evictC_spare ih.2.ok hi he a g2 ha hg2
        have h3 := ih.1.ge a g ha hg
        rw [c2, c1] at h2
        omega
  exact (hst K h.1).1
theorem mark_P (H : Ho) (i p : Nat) : (H.mark i p).P = H.P := (mark_rest H i p).1
theorem put_spare {K : Ho} (hok : K.Ok) {i p : Nat} {d : ByteArray} (hat : K.P.at i p) (hd : d.size = 128) (hk : K.P.wok' i p d = true) (a : Nat) (ha : a ≠ i) : (K.P.wr i p d).chargeN a = K.P.chargeN a := by
  have W := (Pl.wr_law hok.p hat hd).1 hk
  obtain ⟨F1, _⟩ := Pl.wr_fr hok.p hat hk
  rw [← (Pl.wr_eq hok.p hat hd).1] at W F1
  have := Pl.charge_fr W.al hat (fun x y hxy => by rw [F1 x y hxy]) a
  rw [if_neg (fun h => ha h.1.symm), if_neg (fun h => ha h.1.symm)] at this
  exact this
theorem write_spare {H H' : Ho} {i p : Nat} {d : ByteArray} (hok : H.Ok) (hat : H.P.at i p) (hd : d.size = 128) (h : WriteTo H i p d H') : Spare H H' i := by
  obtain ⟨K, hK, rfl⟩ := h
  have hR := write_ready hok hat hd hK
  obtain ⟨hc1, hc2⟩ := clear_ok (i := i) (p := p) hok
  have hS : Spare H K i := by
    rcases hK with ⟨_, _, hr⟩ | ⟨_, rfl⟩
    · have S := hr.spare hc1 (by rw [hc2]; exact hat)
      refine ⟨fun a ha => by have := S.le a ha; rw [hc2] at this; exact this, fun a g ha hg => ?_⟩
      obtain ⟨g1, hg1, c1, _⟩ := clear_cl i p hg
      have := S.ge a g1 ha hg1
      rw [hc2, c1] at this
      exact this
    · exact ⟨fun a _ => by rw [hc2]; exact Nat.le_refl _, fun a g _ _ => by rw [hc2]; exact Nat.min_le_left _ _⟩
  have hp := put_spare hR.ok ((hR.al.at i p).2 hat) hd hR.wok
  refine ⟨fun a ha => ?_, fun a g ha hg => ?_⟩
  · rw [mark_P]
    show (K.P.wr i p d).chargeN a ≤ _
    rw [hp a ha]
    exact hS.le a ha
  · rw [mark_P]
    show _ ≤ (K.P.wr i p d).chargeN a
    rw [hp a ha]
    exact hS.ge a g ha hg
theorem read_spare {H H' : Ho} {i p : Nat} (hok : H.Ok) (hat : H.P.at i p) (h : ReadTo H i p H') : Spare H H' i := by
  obtain ⟨g, t, hg, ht, h⟩ := h
  rcases h with ⟨h0, rfl⟩ | ⟨h0, K, hr, rfl⟩
  · exact ⟨fun a _ => by rw [mark_P]; exact Nat.le_refl _, fun a g _ _ => by rw [mark_P]; exact Nat.min_le_left _ _⟩
  · have hs := Ho.sw_eq hg ht
    have hR := read_ready hok hat hs h0 hr
    have hd : t.size = 128 := by
      rcases hok.swp hat with h1 | ⟨_, h2, _⟩
      · rw [hs] at h1
        exact absurd h1 h0
      · rw [← hs]
        exact h2
    have hk := (hr.kept hok hat).1
    have hatK := (hk.al.at i p).2 hat
    have hS := hr.spare hok hat
    have hp := put_spare hR.ok ((hR.al.at i p).2 hat) hd hR.wok
    rw [back_eq (hk.ok.at_lt hatK)]
    have hcP := (clear_rest K i p).1
    refine ⟨fun a ha => ?_, fun a g ha hg => ?_⟩
    · rw [mark_P]
      show ((K.clear i p).P.wr i p t).chargeN a ≤ _
      rw [hp a ha, hcP]
      exact hS.le a ha
    · rw [mark_P]
      show _ ≤ ((K.clear i p).P.wr i p t).chargeN a
      rw [hp a ha, hcP]
      exact hS.ge a g ha hg
/-- A page with a frame is not swapped, and its content is not zero. -/
theorem res_text {H : Ho} (hok : H.Ok) {a b : Nat} (hat : H.P.at a b) (h0 : 0 ≤ H.P.fr a b) : (H.sw a b).size = 0 ∧ H.text a b = H.P.text a b ∧ zeroB (H.text a b) = false := by
  rcases hok.swp hat with h1 | ⟨h1, _⟩
  · have e : H.text a b = H.P.text a b := by rw [Ho.text_sw, if_pos h1]
    exact ⟨h1, e, by rw [e]; exact (Pl.text_good hok.p hat h0).2⟩
  · omega
/-- A page whose content is zero has neither frame nor swap; another has just one of them. -/
theorem zero_page {H : Ho} (hok : H.Ok) {a b : Nat} (hat : H.P.at a b) (hz : zeroB (H.text a b) = true) : H.P.fr a b < 0 ∧ (H.sw a b).size = 0 := by
  refine ⟨?_, ?_⟩
  · rcases Int.lt_or_le (H.P.fr a b) 0 with h | h
    · exact h
    · rw [(res_text hok hat h).2.2] at hz
      cases hz
  · rcases hok.swp hat with h | ⟨_, h1, h2⟩
    · exact h
    · rw [Ho.text_sw, if_neg (by omega), h2] at hz
      cases hz
theorem full_page {H : Ho} (hok : H.Ok) {a b : Nat} (hat : H.P.at a b) (hz : zeroB (H.text a b) = false) : (0 ≤ H.P.fr a b ∧ (H.sw a b).size = 0) ∨ (H.P.fr a b < 0 ∧ (H.sw a b).size = 128) := by
  rcases Int.lt_or_le (H.P.fr a b) 0 with h | h
  · right
    refine ⟨h, ?_⟩
    rcases hok.swp hat with h1 | ⟨_, h1, _⟩
    · rw [Ho.text_sw, if_pos h1] at hz
      unfold Pl.text at hz
      rw [if_pos h, zeros128_zero] at hz
      cases hz
    · exact h1
  · exact .inl ⟨h, (res_text hok hat h).1⟩
/-- Pages with frames and different contents have different frames. -/
theorem fr_ne {H : Ho} (hok : H.Ok) {a b c d : Nat} (h1 : H.P.at a b) (h2 : H.P.at c d) (f1 : 0 ≤ H.P.fr a b) (f2 : 0 ≤ H.P.fr c d) (hne : H.text a b ≠ H.text c d) : H.P.fr a b ≠ H.P.fr c d := by
  intro e
  apply hne
  rw [(res_text hok h1 f1).2.1, (res_text hok h2 f2).2.1]
  unfold Pl.text
  rw [if_neg (by omega), if_neg (by omega), e]
/-! the host of the laws' own check -/
def cA : Clm := ⟨1, 4, 10, 0, 0⟩
def hA0 : Ho := newHo 2 0 1
def hA1 : Ho := hA0.addG cA 4
def hA2 : Ho := hA1.addG cA 4
theorem cA_ok : validB cA = true := rfl
theorem pg1_nz : zeroB (pageS 1) = false := by kernel_rfl
theorem pg2_nz : zeroB (pageS 2) = false := by kernel_rfl
theorem pg3_nz : zeroB (pageS 3) = false := by kernel_rfl
theorem pg_at (n m : Int) (h : (pageS n).data[0]? ≠ (pageS m).data[0]?) : pageS n ≠ pageS m := fun e => h (by rw [e])
theorem pg12 : pageS 1 ≠ pageS 2 := pg_at _ _ (of_decide_eq_true (by kernel_rfl))
theorem pg13 : pageS 1 ≠ pageS 3 := pg_at _ _ (of_decide_eq_true (by kernel_rfl))
theorem pg23 : pageS 2 ≠ pageS 3 := pg_at _ _ (of_decide_eq_true (by kernel_rfl))
theorem hA0_ok : hA0.Ok := newHo_ok (by omega) (by omega) (by omega) (by omega)
theorem hA0_P : hA0.P = ⟨freshF 2, freshR 2, []⟩ := fresh_eq (n := 2) (by omega) (by omega)
theorem hA1_ok : hA1.Ok := addG_ok hA0_ok cA_ok rfl (by show 0 < 8; omega) (by omega) (by omega) (by rw [hA0_P]; show (1 : Int) + sumR [] ≤ ((freshF 2).length : Int); unfold sumR freshF; simp)
theorem hA1_P : hA1.P = ⟨freshF 2, freshR 2, [List.replicate 4 (-1)]⟩ := by
  have h := padd_eq hA0_ok.p (q := 4) (by rw [hA0_P]; show 0 < 8; omega) (by omega) (by omega)
  show hA0.P.add (4 : Nat) = _
  rw [h, hA0_P]
  rfl
theorem hA1_G : hA1.G = [newG cA 4] := rfl
theorem hA2_ok : hA2.Ok := addG_ok hA1_ok cA_ok rfl (by show 1 < 8; omega) (by omega) (by omega) (by rw [hA1_P, hA1_G]; show (1 : Int) + sumR [newG cA 4] ≤ ((freshF 2).length : Int); unfold sumR freshF newG cA; simp)
theorem hA2_P : hA2.P = ⟨freshF 2, freshR 2, [List.replicate 4 (-1), List.replicate 4 (-1)]⟩ := by
  have h := padd_eq hA1_ok.p (q := 4) (by rw [hA1_P]; show 1 < 8; omega) (by omega) (by omega)
  show hA1.P.add (4 : Nat) = _
  rw [h, hA1_P]
  rfl
theorem hA2_G : hA2.G = [newG cA 4, newG cA 4] := rfl
theorem addC_A {H : Ho} (h1 : H.G.length < 8) (h2 : cA.r + sumR H.G ≤ H.P.F.length) : H.addC cA 4 = 0 := by
  unfold Ho.addC
  rw [if_neg (by rintro (h | h | h | h) <;> first | (rw [cA_ok] at h; cases h) | exact absurd rfl h | omega), if_neg (by omega), if_neg (by omega)]
theorem hA0_c : hA0.addC cA 4 = 0 := addC_A (by show 0 < 8; omega) (by rw [hA0_P]; show (1 : Int) + sumR [] ≤ ((freshF 2).length : Int); unfold sumR freshF; simp)
theorem hA1_c : hA1.addC cA 4 = 0 := addC_A (by show 1 < 8; omega) (by rw [hA1_P, hA1_G]; show (1 : Int) + sumR [newG cA 4] ≤ ((freshF 2).length : Int); unfold sumR freshF newG cA; simp)
theorem hA2_c : hA2.addC cA 4 = 3801 := by
  unfold Ho.addC
  rw [if_neg (by rintro (h | h | h | h) <;> first | (rw [cA_ok] at h; cases h) | exact absurd rfl h | omega), if_neg (by show ¬ 8 ≤ 2; omega), if_pos]
  rw [hA2_P, hA2_G]
  show ((freshF 2).length : Int) < 1 + sumR [newG cA 4, newG cA 4]
  unfold sumR freshF newG cA
  simp
/-- Two guests of four pages on two frames. -/
structure AwS (H : Ho) : Prop where
  ok : H.Ok
  f : H.P.F.length = 2
  g : H.G.length = 2
  pg : ∀ a, a < 2 → (H.P.pages a).length = 4
  r : ∀ (a : Nat) (x : Gm), H.G[a]? = some x → x.c.r = 1
theorem AwS.kept {H H' : Ho} (h : AwS H) (k : HoKept H H') : AwS H' :=
  ⟨k.ok, k.al.f.trans h.f, k.gl.trans h.g, fun a ha => (k.al.pg a).trans (h.pg a ha), fun a x hx => by
    obtain ⟨y, hy⟩ := get_lt (xs := H.G) (k := a) (by rw [← k.gl]; exact lt_of_get hx)
    obtain ⟨x', hx', e1, _⟩ := k.cl a y hy
    rw [hx] at hx'
    injection hx' with hx'
    subst hx'
    exact e1.trans (h.r a y hy)⟩
theorem AwS.at_ {H : Ho} (h : AwS H) {a b : Nat} (ha : a < 2) (hb : b < 4) : H.P.at a b := by
  rw [Pl.at_lt, ← h.ok.m, h.g]
  exact ⟨ha, by rw [h.pg a ha]; exact hb⟩
theorem hA2_s : AwS hA2 := ⟨hA2_ok, by rw [hA2_P]; rfl, rfl, fun a ha => by
    unfold Pl.pages
    rw [hA2_P]
    match a, ha with
    | 0, _ => rfl
    | 1, _ => rfl, fun a x hx => by
    rw [hA2_G] at hx
    match a, hx with
    | 0, hx => injection hx with hx; subst hx; rfl
    | 1, hx => injection hx with hx; subst hx; rfl
    | a + 2, hx => simp at hx⟩
theorem hA2_text {a b : Nat} (ha : a < 2) (hb : b < 4) : hA2.text a b = zeros128 := by
  have hg : hA2.G[a]? = some (newG cA 4) := by
    rw [hA2_G]
    match a, ha with
    | 0, _ => rfl
    | 1, _ => rfl
  have hs : (newG cA 4).s[b]? = some ⟨#[]⟩ := by
    show (List.replicate 4 (⟨#[]⟩ : ByteArray))[b]? = _
    rw [List.getElem?_replicate, if_pos hb]
  rw [Ho.text_eq hg hs, if_pos (show (⟨#[]⟩ : ByteArray).size = 0 from rfl)]
  have hf : hA2.P.fr a b = -1 := by
    unfold Pl.fr Pl.pages
    rw [hA2_P]
    match a, ha with
    | 0, _ => show ((List.replicate 4 (-1 : Int))[b]?).getD (-1) = _; rw [List.getElem?_replicate, if_pos hb]; rfl
    | 1, _ => show ((List.replicate 4 (-1 : Int))[b]?).getD (-1) = _; rw [List.getElem?_replicate, if_pos hb]; rfl
  unfold Pl.text
  rw [hf, if_pos (by decide)]
/-- The four pages of a guest, counted. -/
theorem AwS.charge {H : Ho} (h : AwS H) {a : Nat} (ha : a < 2) : H.P.chargeN a = (if 0 ≤ H.P.fr a 0 then 1 else 0) + (if 0 ≤ H.P.fr a 1 then 1 else 0) + (if 0 ≤ H.P.fr a 2 then 1 else 0) + (if 0 ≤ H.P.fr a 3 then 1 else 0) := by
  have hl := h.pg a ha
  unfold Pl.chargeN Pl.fr
  obtain ⟨l, hll⟩ : ∃ l, H.P.pages a = l := ⟨_, rfl⟩
  rw [hll] at hl ⊢
  match l, hl with
  | [x0, x1, x2, x3], _ =>
    simp only [List.countP_cons, List.countP_nil, hasB, decide_eq_true_eq]
    show 0 + _ + _ + _ + _ = (if 0 ≤ x0 then 1 else 0) + (if 0 ≤ x1 then 1 else 0) + (if 0 ≤ x2 then 1 else 0) + (if 0 ≤ x3 then 1 else 0)
    omega
theorem AwS.swapped {H : Ho} (h : AwS H) {a : Nat} (ha : a < 2) {g : Gm} (hg : H.G[a]? = some g) : g.swapped = (if (H.sw a 0).size = 0 then 0 else 1) + (if (H.sw a 1).size = 0 then 0 else 1) + (if (H.sw a 2).size = 0 then 0 else 1) + (if (H.sw a 3).size = 0 then 0 else 1) := by
  have hl := (h.ok.gmP hg).ls
  rw [h.pg a ha] at hl
  have hs : ∀ b t, g.s[b]? = some t → H.sw a b = t := fun b t ht => Ho.sw_eq hg ht
  unfold Gm.swapped
  obtain ⟨l, hll⟩ : ∃ l, g.s = l := ⟨_, rfl⟩
  rw [hll] at hl hs ⊢
  match l, hl with
  | [x0, x1, x2, x3], _ =>
    rw [hs 0 x0 rfl, hs 1 x1 rfl, hs 2 x2 rfl, hs 3 x3 rfl]
    have e : ∀ x : ByteArray, (if fullB x = true then 1 else 0) = (if x.size = 0 then 0 else 1 : Nat) := fun x => by
      unfold fullB emptyB
      by_cases h0 : x.size = 0
      · rw [if_pos h0, decide_eq_true h0]
        rfl
      · rw [if_neg h0, decide_eq_false h0]
        rfl
    simp only [List.countP_cons, List.countP_nil, e]
    omega
/-- The check's own claim: one page of guest 0 is put out for guest 1, and comes back. -/
theorem awake_law {H3 H4 H5 : Ho} (h3 : WriteTo hA2 0 0 (pageS 1) H3) (h4 : WriteTo H3 0 1 (pageS 2) H4) (h5 : WriteTo H4 1 0 (pageS 3) H5) :
    AwS H3 ∧ AwS H4 ∧ AwS H5 ∧ H5.P.chargeN 0 = 1 ∧ (∀ g, H5.G[0]? = some g → g.swapped = 1) ∧ ∀ H6, ReadTo H5 0 0 H6 → AwS H6 ∧ H6.P.text 0 0 = pageS 1 ∧ H6.P.chargeN 1 = 1 := by
  have a2 := hA2_s
  have W3 := write_keeps a2.ok (a2.at_ (a := 0) (b := 0) (by omega) (by omega)) (pageS_size _) h3
  have a3 := a2.kept W3.k
  have W4 := write_keeps a3.ok (a3.at_ (a := 0) (b := 1) (by omega) (by omega)) (pageS_size _) h4
  have a4 := a3.kept W4.k
  have W5 := write_keeps a4.ok (a4.at_ (a := 1) (b := 0) (by omega) (by omega)) (pageS_size _) h5
  have a5 := a4.kept W5.k
  have tx : ∀ a b, a < 2 → b < 4 → H5.text a b = if a = 1 ∧ b = 0 then pageS 3 else if a = 0 ∧ b = 1 then pageS 2 else if a = 0 ∧ b = 0 then pageS 1 else zeros128 := fun a b ha hb => by
    rw [W5.text a b (a4.at_ ha hb), W4.text a b (a3.at_ ha hb), W3.text a b (a2.at_ ha hb), hA2_text ha hb]
    by_cases e1 : a = 1 ∧ b = 0
    · rw [if_pos (show 1 = a ∧ 0 = b by omega), if_pos e1]
    · rw [if_neg (show ¬ (1 = a ∧ 0 = b) by omega), if_neg e1]
      by_cases e2 : a = 0 ∧ b = 1
      · rw [if_pos (show 0 = a ∧ 1 = b by omega), if_pos e2]
      · rw [if_neg (show ¬ (0 = a ∧ 1 = b) by omega), if_neg e2]
        by_cases e3 : a = 0 ∧ b = 0
        · rw [if_pos (show 0 = a ∧ 0 = b by omega), if_pos e3]
        · rw [if_neg (show ¬ (0 = a ∧ 0 = b) by omega), if_neg e3]
  have t00 : H5.text 0 0 = pageS 1 := tx 0 0 (by omega) (by omega)
  have t01 : H5.text 0 1 = pageS 2 := tx 0 1 (by omega) (by omega)
  have t10 : H5.text 1 0 = pageS 3 := tx 1 0 (by omega) (by omega)
  have z : ∀ a b, a < 2 → b < 4 → (a = 1 → b ≠ 0) → (a = 0 → 2 ≤ b) → H5.P.fr a b < 0 ∧ (H5.sw a b).size = 0 := fun a b ha hb h1 h2 => by
    refine zero_page a5.ok (a5.at_ ha hb) ?_
    rw [tx a b ha hb, if_neg (by omega), if_neg (by omega), if_neg (by omega)]
    exact zeros128_zero
  have z02 := z 0 2 (by omega) (by omega) (by omega) (by omega)
  have z03 := z 0 3 (by omega) (by omega) (by omega) (by omega)
  have z11 := z 1 1 (by omega) (by omega) (by omega) (by omega)
  have z12 := z 1 2 (by omega) (by omega) (by omega) (by omega)
  have z13 := z 1 3 (by omega) (by omega) (by omega) (by omega)
  have f10 : 0 ≤ H5.P.fr 1 0 := W5.fr.2 pg3_nz
  have c1 : H5.P.chargeN 1 = 1 := by
    rw [a5.charge (by omega), if_pos f10, if_neg (by omega), if_neg (by omega), if_neg (by omega)]
  have at00 := a5.at_ (a := 0) (b := 0) (by omega) (by omega)
  have at01 := a5.at_ (a := 0) (b := 1) (by omega) (by omega)
  have at10 := a5.at_ (a := 1) (b := 0) (by omega) (by omega)
  have p00 := full_page a5.ok at00 (by rw [t00]; exact pg1_nz)
  have p01 := full_page a5.ok at01 (by rw [t01]; exact pg2_nz)
  have c0 : H5.P.chargeN 0 = (if 0 ≤ H5.P.fr 0 0 then 1 else 0) + (if 0 ≤ H5.P.fr 0 1 then 1 else 0) := by
    rw [a5.charge (by omega), if_neg (show ¬ 0 ≤ H5.P.fr 0 2 by omega), if_neg (show ¬ 0 ≤ H5.P.fr 0 3 by omega), Nat.add_zero]
  have hge : 1 ≤ H5.P.chargeN 0 := by
    have S := write_spare a4.ok (a4.at_ (a := 1) (b := 0) (by omega) (by omega)) (pageS_size _) h5
    obtain ⟨g, hg⟩ := get_lt (xs := H4.G) (k := 0) (by rw [a4.g]; omega)
    have h1 := S.ge 0 g (by omega) hg
    rw [a4.r 0 g hg] at h1
    have f01 : 0 ≤ H4.P.fr 0 1 := W4.fr.2 pg2_nz
    have h2 := a4.charge (a := 0) (by omega)
    rw [if_pos f01] at h2
    have h3 : (1 : Int).toNat = 1 := rfl
    omega
  have hle : ¬ (0 ≤ H5.P.fr 0 0 ∧ 0 ≤ H5.P.fr 0 1) := by
    rintro ⟨e1, e2⟩
    have b1 := a5.ok.p.at_bd at00
    have b2 := a5.ok.p.at_bd at01
    have b3 := a5.ok.p.at_bd at10
    rw [a5.f] at b1 b2 b3
    have n1 := fr_ne a5.ok at00 at01 e1 e2 (by rw [t00, t01]; exact pg12)
    have n2 := fr_ne a5.ok at00 at10 e1 f10 (by rw [t00, t10]; exact pg13)
    have n3 := fr_ne a5.ok at01 at10 e2 f10 (by rw [t01, t10]; exact pg23)
    omega
  have c01 : H5.P.chargeN 0 = 1 := by
    rw [c0] at hge ⊢
    by_cases e1 : 0 ≤ H5.P.fr 0 0
    · rw [if_pos e1] at hge ⊢
      rw [if_neg (fun e2 => hle ⟨e1, e2⟩)]
    · rw [if_neg e1] at hge ⊢
      by_cases e2 : 0 ≤ H5.P.fr 0 1
      · rw [if_pos e2]
      · rw [if_neg e2] at hge
        omega
  refine ⟨a3, a4, a5, c01, fun g hg => ?_, fun H6 h6 => ?_⟩
  · rw [a5.swapped (by omega) hg, if_pos z02.2, if_pos z03.2]
    rw [c0] at c01
    rcases p00 with ⟨e1, e2⟩ | ⟨e1, e2⟩
    · rcases p01 with ⟨e3, e4⟩ | ⟨e3, e4⟩
      · exact absurd ⟨e1, e3⟩ hle
      · rw [if_pos e2, if_neg (by omega)]
    · rcases p01 with ⟨e3, e4⟩ | ⟨e3, e4⟩
      · rw [if_neg (by omega), if_pos e4]
      · rw [if_neg (by omega), if_neg (by omega)] at c01
        omega
  · obtain ⟨k1, _, k3⟩ := read_keeps a5.ok at00 h6
    have S := read_spare a5.ok at00 h6
    obtain ⟨g, hg⟩ := get_lt (xs := H5.G) (k := 1) (by rw [a5.g]; omega)
    have h1 := S.ge 1 g (by omega) hg
    have h2 := S.le 1 (by omega)
    rw [a5.r 1 g hg] at h1
    have h3 : (1 : Int).toNat = 1 := rfl
    exact ⟨a5.kept k1, by rw [k3, t00], by omega⟩
end Go.Proofs.Ytbnngjhnkegliaa
namespace Go.Proofs.Ytbnngjhnkegliaa
open Go.RowKit

/-! each callee at its fixed arguments -/
theorem hw_new (w : World) : Calls Try.prog 22 #[.int .i64 2, .int .i64 0, .int .u64 1] w (RetHoB (fun v => .tuple #[v, .bool true]) hA0 w) := hnew_ok 2 0 1 w (by omega) (by omega) (by omega)
theorem hw_add {H : Ho} (hok : H.Ok) (hc : H.addC cA 4 = 0) (v : Value) (w : World) (h : HoAt w v H) : Calls Try.prog 23 #[v, .agg #[.int .i64 1, .int .i64 4, .int .i64 10, .int .i64 0, .int .i64 0], .int .i64 4] w (RetHoB (fun v => .tuple #[v, .int .i64 0]) (H.addG cA 4) w) := by
  have A := hadd_ok v H 1 4 10 0 0 4 w h hok (by omega)
  have hto : H.addTo cA 4 = H.addG cA 4 := by unfold Ho.addTo; rw [hc, if_pos rfl]; rfl
  change Calls Try.prog 23 _ w (RetHoB (fun v => .tuple #[v, .int .i64 (H.addC cA 4)]) (H.addTo cA 4) w) at A
  rw [hto, hc] at A
  exact A
theorem hw_full (v : Value) (w : World) (h : HoAt w v hA2) : Calls Try.prog 23 #[v, .agg #[.int .i64 1, .int .i64 4, .int .i64 10, .int .i64 0, .int .i64 0], .int .i64 4] w (RetHoB (fun v => .tuple #[v, .int .i64 3801]) hA2 w) := by
  have A := hadd_ok v hA2 1 4 10 0 0 4 w h hA2_ok (by omega)
  have hto : hA2.addTo cA 4 = hA2 := by unfold Ho.addTo; rw [hA2_c, if_neg (by decide)]
  change Calls Try.prog 23 _ w (RetHoB (fun v => .tuple #[v, .int .i64 (hA2.addC cA 4)]) (hA2.addTo cA 4) w) at A
  rw [hto, hA2_c] at A
  exact A
theorem hw_page (k : Int) (w : World) (hk : 0 ≤ k ∧ k ≤ 3) : Calls Try.prog 14 #[.int .i64 k] w (Ret w (.string (pageS k))) := page_any k w (by omega)
theorem AwS.wr {H H' : Ho} {i p : Nat} {d : ByteArray} (h : AwS H) (hi : i < 2) (hp : p < 4) (hd : d.size = 128) (hw : WriteTo H i p d H') : AwS H' := h.kept (write_keeps h.ok (h.at_ hi hp) hd hw).k
set_option maxRecDepth 100000 in
set_option maxHeartbeats 8000000 in
theorem awake_any (w : World) : Calls Try.prog 8 #[] w (Ret w (.bool true)) := by
  have C0 := hw_new
  have C1 := fun v w h => hw_add hA0_ok hA0_c v w h
  have C2 := fun v w h => hw_add hA1_ok hA1_c v w h
  have C3 := hw_full
  change ∀ v w, _ → Calls Try.prog 23 _ w (RetHoB (fun v => .tuple #[v, .int .i64 0]) hA1 w) at C1
  change ∀ v w, _ → Calls Try.prog 23 _ w (RetHoB (fun v => .tuple #[v, .int .i64 0]) hA2 w) at C2
  have PG := hw_page
  have WL := fun H3 H4 H5 => awake_law (H3 := H3) (H4 := H4) (H5 := H5)
  have WR1 : ∀ H, AwS H → ∀ v w, HoAt w v H → Calls Try.prog 12 #[v, .int .i64 0, .int .i64 0, .string (pageS 1)] w (RetWrite 0 0 (pageS 1) H w) := fun H hs v w h => hwrite_ok v H 0 0 (pageS 1) w h hs.ok (hs.at_ (by omega) (by omega)) (pageS_size _)
  have WR2 : ∀ H, AwS H → ∀ v w, HoAt w v H → Calls Try.prog 12 #[v, .int .i64 0, .int .i64 1, .string (pageS 2)] w (RetWrite 0 1 (pageS 2) H w) := fun H hs v w h => hwrite_ok v H 0 1 (pageS 2) w h hs.ok (hs.at_ (by omega) (by omega)) (pageS_size _)
  have WR3 : ∀ H, AwS H → ∀ v w, HoAt w v H → Calls Try.prog 12 #[v, .int .i64 1, .int .i64 0, .string (pageS 3)] w (RetWrite 1 0 (pageS 3) H w) := fun H hs v w h => hwrite_ok v H 1 0 (pageS 3) w h hs.ok (hs.at_ (by omega) (by omega)) (pageS_size _)
  have RD : ∀ H, AwS H → ∀ v w, HoAt w v H → Calls Try.prog 21 #[v, .int .i64 0, .int .i64 0] w (RetRead 0 0 H w) := fun H hs v w h => hread_ok v H 0 0 w h hs.ok (hs.at_ (by omega) (by omega))
  have RS0 : ∀ H, AwS H → ∀ v w, HoAt w v H → Calls Try.prog 18 #[v, .int .i64 0] w (Ret w (.int .i64 ((H.P.chargeN 0 : Nat) : Int))) := fun H hs v w h => hres_ok v H 0 w h hs.ok (by rw [hs.g]; omega)
  have RS1 : ∀ H, AwS H → ∀ v w, HoAt w v H → Calls Try.prog 18 #[v, .int .i64 1] w (Ret w (.int .i64 ((H.P.chargeN 1 : Nat) : Int))) := fun H hs v w h => hres_ok v H 1 w h hs.ok (by rw [hs.g]; omega)
  have SW0 : ∀ H (g : Gm), AwS H → H.G[0]? = some g → ∀ v w, HoAt w v H → Calls Try.prog 17 #[v, .int .i64 0] w (Ret w (.int .i64 ((g.swapped : Nat) : Int))) := fun H g hs hg v w h => hswap_ok v H 0 g w h hs.ok hg
  have HRD := Lib.hid RD; clear RD
  have HRS0 := Lib.hid RS0; clear RS0
  have HRS1 := Lib.hid RS1; clear RS1
  have HSW0 := Lib.hid SW0; clear SW0
  obtain ⟨h0, e0⟩ : ∃ h, hA0 = h := ⟨_, rfl⟩
  obtain ⟨h1, e1⟩ : ∃ h, hA1 = h := ⟨_, rfl⟩
  have hs2 := hA2_s
  obtain ⟨h2, e2⟩ : ∃ h, hA2 = h := ⟨_, rfl⟩
  rw [e0] at C0 C1
  rw [e1] at C1 C2
  rw [e2] at C2 C3 WL hs2
  clear e0 e1 e2
  have HS2 := Lib.hid hs2; clear hs2
  have HC0 := Lib.hid C0; clear C0
  have HC1 := Lib.hid C1; clear C1
  have HC2 := Lib.hid C2; clear C2
  have HC3 := Lib.hid C3; clear C3
  have zz1 := pageS_size 1
  have zz2 := pageS_size 2
  have zz3 := pageS_size 3
  have PG1 := fun w => PG 1 w (by omega)
  have PG2 := fun w => PG 2 w (by omega)
  have PG3 := fun w => PG 3 w (by omega)
  clear PG
  obtain ⟨pg1, e1⟩ : ∃ d, pageS 1 = d := ⟨_, rfl⟩
  obtain ⟨pg2, e2⟩ : ∃ d, pageS 2 = d := ⟨_, rfl⟩
  obtain ⟨pg3, e3⟩ : ∃ d, pageS 3 = d := ⟨_, rfl⟩
  rw [e1] at PG1 WR1 WL zz1
  rw [e2] at PG2 WR2 WL zz2
  rw [e3] at PG3 WR3 WL zz3
  have HZ := Lib.hid (And.intro zz1 (And.intro zz2 zz3)); clear zz1 zz2 zz3
  clear e1 e2 e3
  have HP1 := Lib.hid PG1; clear PG1
  have HP2 := Lib.hid PG2; clear PG2
  have HP3 := Lib.hid PG3; clear PG3
  have HW1 := Lib.hid WR1; clear WR1
  have HW2 := Lib.hid WR2; clear WR2
  have HW3 := Lib.hid WR3; clear WR3
  have HWL := Lib.hid WL; clear WL
  have hbw : Below w.heap.size w w := Below.refl _ _
  go_enter Try.func8, Try.ntmps8
  go_wp2_with fail
  with_reducible refine (HC0.out _).mono ?_
  rintro e w1 ⟨of0, or0, om0, og0, kf0, kr0, km0, kg0, us0, gs0, rfl, O0, hb1⟩
  replace hbw := hbw.trans hb1
  clear hb1
  obtain ⟨n0, hln⟩ : ∃ n, (Pl.F (Ho.P h0)).length = n := ⟨_, rfl⟩
  obtain ⟨r0, hlr⟩ : ∃ n, (Pl.R (Ho.P h0)).length = n := ⟨_, rfl⟩
  obtain ⟨m0, hlm⟩ : ∃ n, (Pl.M (Ho.P h0)).length = n := ⟨_, rfl⟩
  obtain ⟨q0, hlq⟩ : ∃ n, (Ho.G h0).length = n := ⟨_, rfl⟩
  obtain ⟨t0, hlt0⟩ : ∃ n, Ho.t h0 = n := ⟨_, rfl⟩
  obtain ⟨d0, hld⟩ : ∃ n, Ho.d h0 = n := ⟨_, rfl⟩
  obtain ⟨s0, hls⟩ : ∃ n, Ho.n h0 = n := ⟨_, rfl⟩
  rw [hln, hlr, hlm, hlq] at O0 ⊢
  rw [hlt0, hld, hls]
  have HG0 := Lib.hid (And.intro hln (And.intro hlr (And.intro hlm (And.intro hlq (And.intro hlt0 (And.intro hld hls))))))
  clear hln hlr hlm hlq hlt0 hld hls
  go_upto_region 3 with (fail)
  have HB := (HostAt.new (base' := 0) HG0.out O0 (Nat.zero_le _)).below ((Below.refl _ _).alloc (Nat.le_refl _) (.cells #[.int .i64 1, .int .i64 4, .int .i64 10, .int .i64 0, .int .i64 0] 35))
  have DC := HasBlock.made (w1.alloc (.cells #[.slice of0 n0 kf0, .slice or0 r0 kr0, .slice om0 m0 km0, .slice og0 q0 kg0, .int .i64 t0, .int .u64 d0, .int .i64 s0] 31)) #[.int .i64 1, .int .i64 4, .int .i64 10, .int .i64 0, .int .i64 0] 35
  rw [World.size_alloc] at DC
  have hz1 := hbw.size
  replace hbw := (hbw.alloc hbw.size (.cells #[.slice of0 n0 kf0, .slice or0 r0 kr0, .slice om0 m0 km0, .slice og0 q0 kg0, .int .i64 t0, .int .u64 d0, .int .i64 s0] 31)).alloc (by simp only [sizes]; omega) (.cells #[.int .i64 1, .int .i64 4, .int .i64 10, .int .i64 0, .int .i64 0] 35)
  obtain ⟨B0, hB⟩ : ∃ B, w1.heap.size = B := ⟨_, rfl⟩
  rw [hB] at HB DC hz1 ⊢
  generalize hW : (w1.alloc (.cells #[.slice of0 n0 kf0, .slice or0 r0 kr0, .slice om0 m0 km0, .slice og0 q0 kg0, .int .i64 t0, .int .u64 d0, .int .i64 s0] 31)).alloc (.cells #[.int .i64 1, .int .i64 4, .int .i64 10, .int .i64 0, .int .i64 0] 35) = w2 at HB DC hbw ⊢
  clear hW hB O0 HG0
  obtain ⟨of1, or1, om1, og1, kf1, kr1, km1, kg1, us1, gs1, D1, O1⟩ := HB
  obtain ⟨n1, hln⟩ : ∃ n, (Pl.F (Ho.P h0)).length = n := ⟨_, rfl⟩
  obtain ⟨r1, hlr⟩ : ∃ n, (Pl.R (Ho.P h0)).length = n := ⟨_, rfl⟩
  obtain ⟨m1, hlm⟩ : ∃ n, (Pl.M (Ho.P h0)).length = n := ⟨_, rfl⟩
  obtain ⟨q1, hlq⟩ : ∃ n, (Ho.G h0).length = n := ⟨_, rfl⟩
  obtain ⟨t1, hlt1⟩ : ∃ n, Ho.t h0 = n := ⟨_, rfl⟩
  obtain ⟨d1, hld⟩ : ∃ n, Ho.d h0 = n := ⟨_, rfl⟩
  obtain ⟨s1, hls⟩ : ∃ n, Ho.n h0 = n := ⟨_, rfl⟩
  rw [hln, hlr, hlm, hlq] at O1 D1
  rw [hlt1, hld, hls] at D1
  have HG1 := Lib.hid (And.intro hln (And.intro hlr (And.intro hlm (And.intro hlq (And.intro hlt1 (And.intro hld hls))))))
  clear hln hlr hlm hlq hlt1 hld hls
  have HV1 : Hid (∀ w' : World, Below (w2).heap.size w2 w' → HoAt w' (.agg #[.slice of1 n1 kf1, .slice or1 r1 kr1, .slice om1 m1 km1, .slice og1 q1 kg1, .int .i64 t1, .int .u64 d1, .int .i64 s1]) h0) := Lib.hid (fun w' hb => by
    have := (O1.below hb).at_
    rwa [HG1.out.2.2.2.2.1, HG1.out.2.2.2.2.2.1, HG1.out.2.2.2.2.2.2] at this)
  obtain ⟨DC_c, DC_f, DC_z⟩ := DC.all
  obtain ⟨D1_c, D1_f, D1_z⟩ := D1.all
  go_wp2_with fail
  clear DC_c DC_f DC_z
  clear D1_c D1_f D1_z
  with_reducible refine (HC1.out _ _ (HV1.out _ (Below.refl _ _))).mono ?_
  rintro e w3 ⟨of2, or2, om2, og2, kf2, kr2, km2, kg2, us2, gs2, rfl, O2, hbk⟩
  obtain ⟨n2, hln⟩ : ∃ n, (Pl.F (Ho.P h1)).length = n := ⟨_, rfl⟩
  obtain ⟨r2, hlr⟩ : ∃ n, (Pl.R (Ho.P h1)).length = n := ⟨_, rfl⟩
  obtain ⟨m2, hlm⟩ : ∃ n, (Pl.M (Ho.P h1)).length = n := ⟨_, rfl⟩
  obtain ⟨q2, hlq⟩ : ∃ n, (Ho.G h1).length = n := ⟨_, rfl⟩
  obtain ⟨t2, hlt2⟩ : ∃ n, Ho.t h1 = n := ⟨_, rfl⟩
  obtain ⟨d2, hld⟩ : ∃ n, Ho.d h1 = n := ⟨_, rfl⟩
  obtain ⟨s2, hls⟩ : ∃ n, Ho.n h1 = n := ⟨_, rfl⟩
  rw [hln, hlr, hlm, hlq] at O2 ⊢
  rw [hlt2, hld, hls]
  have HG2 := Lib.hid (And.intro hln (And.intro hlr (And.intro hlm (And.intro hlq (And.intro hlt2 (And.intro hld hls))))))
  clear hln hlr hlm hlq hlt2 hld hls
  replace D1 := D1.below hbk
  replace O2 := O2.lower (base' := 0) (Nat.zero_le _)
  replace DC := DC.below hbk
  replace hbw := hbw.trans (hbk.mono hbw.size)
  clear hbk O1 HV1
  have D1k := D1
  obtain ⟨DC_c, DC_f, DC_z⟩ := DC.all
  obtain ⟨D1_c, D1_f, D1_z⟩ := D1.all
  go_upto_region 4 with (fail)
  clear DC_c DC_f DC_z
  clear D1_c D1_f D1_z
  have HB := HostAt.fill HG2.out D1k O2
  replace DC := DC.fill7_ne (B := B0) (by omega) (.slice of2 n2 kf2) (.slice or2 r2 kr2) (.slice om2 m2 km2) (.slice og2 q2 kg2) (.int .i64 t2) (.int .u64 d2) (.int .i64 s2)
  replace hbw := Below.fill7 hbw (b := B0) (by omega) (.slice of2 n2 kf2) (.slice or2 r2 kr2) (.slice om2 m2 km2) (.slice og2 q2 kg2) (.int .i64 t2) (.int .u64 d2) (.int .i64 s2)
  clear O2 D1 D1k
  generalize hW : (((((((World.setCell w3 ⟨B0, 0, none⟩ (.slice of2 n2 kf2)).setCell ⟨B0, 1, none⟩ (.slice or2 r2 kr2)).setCell ⟨B0, 2, none⟩ (.slice om2 m2 km2)).setCell ⟨B0, 3, none⟩ (.slice og2 q2 kg2)).setCell ⟨B0, 4, none⟩ (.int .i64 t2)).setCell ⟨B0, 5, none⟩ (.int .u64 d2)).setCell ⟨B0, 6, none⟩ (.int .i64 s2)) = w4 at HB DC hbw ⊢
  clear hW HG1 HG2
  obtain ⟨of3, or3, om3, og3, kf3, kr3, km3, kg3, us3, gs3, D3, O3⟩ := HB
  obtain ⟨n3, hln⟩ : ∃ n, (Pl.F (Ho.P h1)).length = n := ⟨_, rfl⟩
  obtain ⟨r3, hlr⟩ : ∃ n, (Pl.R (Ho.P h1)).length = n := ⟨_, rfl⟩
  obtain ⟨m3, hlm⟩ : ∃ n, (Pl.M (Ho.P h1)).length = n := ⟨_, rfl⟩
  obtain ⟨q3, hlq⟩ : ∃ n, (Ho.G h1).length = n := ⟨_, rfl⟩
  obtain ⟨t3, hlt3⟩ : ∃ n, Ho.t h1 = n := ⟨_, rfl⟩
  obtain ⟨d3, hld⟩ : ∃ n, Ho.d h1 = n := ⟨_, rfl⟩
  obtain ⟨s3, hls⟩ : ∃ n, Ho.n h1 = n := ⟨_, rfl⟩
  rw [hln, hlr, hlm, hlq] at O3 D3
  rw [hlt3, hld, hls] at D3
  have HG3 := Lib.hid (And.intro hln (And.intro hlr (And.intro hlm (And.intro hlq (And.intro hlt3 (And.intro hld hls))))))
  clear hln hlr hlm hlq hlt3 hld hls
  have HV3 : Hid (∀ w' : World, Below (w4).heap.size w4 w' → HoAt w' (.agg #[.slice of3 n3 kf3, .slice or3 r3 kr3, .slice om3 m3 km3, .slice og3 q3 kg3, .int .i64 t3, .int .u64 d3, .int .i64 s3]) h1) := Lib.hid (fun w' hb => by
    have := (O3.below hb).at_
    rwa [HG3.out.2.2.2.2.1, HG3.out.2.2.2.2.2.1, HG3.out.2.2.2.2.2.2] at this)
  obtain ⟨DC_c, DC_f, DC_z⟩ := DC.all
  obtain ⟨D3_c, D3_f, D3_z⟩ := D3.all
  go_wp2_with fail
  clear DC_c DC_f DC_z
  clear D3_c D3_f D3_z
  with_reducible refine (HC2.out _ _ (HV3.out _ (Below.refl _ _))).mono ?_
  rintro e w5 ⟨of4, or4, om4, og4, kf4, kr4, km4, kg4, us4, gs4, rfl, O4, hbk⟩
  obtain ⟨n4, hln⟩ : ∃ n, (Pl.F (Ho.P h2)).length = n := ⟨_, rfl⟩
  obtain ⟨r4, hlr⟩ : ∃ n, (Pl.R (Ho.P h2)).length = n := ⟨_, rfl⟩
  obtain ⟨m4, hlm⟩ : ∃ n, (Pl.M (Ho.P h2)).length = n := ⟨_, rfl⟩
  obtain ⟨q4, hlq⟩ : ∃ n, (Ho.G h2).length = n := ⟨_, rfl⟩
  obtain ⟨t4, hlt4⟩ : ∃ n, Ho.t h2 = n := ⟨_, rfl⟩
  obtain ⟨d4, hld⟩ : ∃ n, Ho.d h2 = n := ⟨_, rfl⟩
  obtain ⟨s4, hls⟩ : ∃ n, Ho.n h2 = n := ⟨_, rfl⟩
  rw [hln, hlr, hlm, hlq] at O4 ⊢
  rw [hlt4, hld, hls]
  have HG4 := Lib.hid (And.intro hln (And.intro hlr (And.intro hlm (And.intro hlq (And.intro hlt4 (And.intro hld hls))))))
  clear hln hlr hlm hlq hlt4 hld hls
  replace D3 := D3.below hbk
  replace O4 := O4.lower (base' := 0) (Nat.zero_le _)
  replace DC := DC.below hbk
  replace hbw := hbw.trans (hbk.mono hbw.size)
  clear hbk O3 HV3
  have D3k := D3
  obtain ⟨DC_c, DC_f, DC_z⟩ := DC.all
  obtain ⟨D3_c, D3_f, D3_z⟩ := D3.all
  go_upto_region 5 with (fail)
  clear DC_c DC_f DC_z
  clear D3_c D3_f D3_z
  have HB := HostAt.fill HG4.out D3k O4
  replace DC := DC.fill7_ne (B := B0) (by omega) (.slice of4 n4 kf4) (.slice or4 r4 kr4) (.slice om4 m4 km4) (.slice og4 q4 kg4) (.int .i64 t4) (.int .u64 d4) (.int .i64 s4)
  replace hbw := Below.fill7 hbw (b := B0) (by omega) (.slice of4 n4 kf4) (.slice or4 r4 kr4) (.slice om4 m4 km4) (.slice og4 q4 kg4) (.int .i64 t4) (.int .u64 d4) (.int .i64 s4)
  clear O4 D3 D3k
  generalize hW : (((((((World.setCell w5 ⟨B0, 0, none⟩ (.slice of4 n4 kf4)).setCell ⟨B0, 1, none⟩ (.slice or4 r4 kr4)).setCell ⟨B0, 2, none⟩ (.slice om4 m4 km4)).setCell ⟨B0, 3, none⟩ (.slice og4 q4 kg4)).setCell ⟨B0, 4, none⟩ (.int .i64 t4)).setCell ⟨B0, 5, none⟩ (.int .u64 d4)).setCell ⟨B0, 6, none⟩ (.int .i64 s4)) = w6 at HB DC hbw ⊢
  clear hW HG3 HG4
  have HBk := HB
  obtain ⟨of5, or5, om5, og5, kf5, kr5, km5, kg5, us5, gs5, D5, O5⟩ := HB
  obtain ⟨n5, hln⟩ : ∃ n, (Pl.F (Ho.P h2)).length = n := ⟨_, rfl⟩
  obtain ⟨r5, hlr⟩ : ∃ n, (Pl.R (Ho.P h2)).length = n := ⟨_, rfl⟩
  obtain ⟨m5, hlm⟩ : ∃ n, (Pl.M (Ho.P h2)).length = n := ⟨_, rfl⟩
  obtain ⟨q5, hlq⟩ : ∃ n, (Ho.G h2).length = n := ⟨_, rfl⟩
  obtain ⟨t5, hlt5⟩ : ∃ n, Ho.t h2 = n := ⟨_, rfl⟩
  obtain ⟨d5, hld⟩ : ∃ n, Ho.d h2 = n := ⟨_, rfl⟩
  obtain ⟨s5, hls⟩ : ∃ n, Ho.n h2 = n := ⟨_, rfl⟩
  rw [hln, hlr, hlm, hlq] at O5 D5
  rw [hlt5, hld, hls] at D5
  have HG5 := Lib.hid (And.intro hln (And.intro hlr (And.intro hlm (And.intro hlq (And.intro hlt5 (And.intro hld hls))))))
  clear hln hlr hlm hlq hlt5 hld hls
  have HV5 : Hid (∀ w' : World, Below (w6).heap.size w6 w' → HoAt w' (.agg #[.slice of5 n5 kf5, .slice or5 r5 kr5, .slice om5 m5 km5, .slice og5 q5 kg5, .int .i64 t5, .int .u64 d5, .int .i64 s5]) h2) := Lib.hid (fun w' hb => by
    have := (O5.below hb).at_
    rwa [HG5.out.2.2.2.2.1, HG5.out.2.2.2.2.2.1, HG5.out.2.2.2.2.2.2] at this)
  obtain ⟨DC_c, DC_f, DC_z⟩ := DC.all
  obtain ⟨D5_c, D5_f, D5_z⟩ := D5.all
  go_wp2_with fail
  clear DC_c DC_f DC_z
  clear D5_c D5_f D5_z
  with_reducible refine (HC3.out _ _ (HV5.out _ (Below.refl _ _))).mono ?_
  rintro e w7 ⟨of6, or6, om6, og6, kf6, kr6, km6, kg6, us6, gs6, rfl, O6, hbk⟩
  obtain ⟨n6, hln⟩ : ∃ n, (Pl.F (Ho.P h2)).length = n := ⟨_, rfl⟩
  obtain ⟨r6, hlr⟩ : ∃ n, (Pl.R (Ho.P h2)).length = n := ⟨_, rfl⟩
  obtain ⟨m6, hlm⟩ : ∃ n, (Pl.M (Ho.P h2)).length = n := ⟨_, rfl⟩
  obtain ⟨q6, hlq⟩ : ∃ n, (Ho.G h2).length = n := ⟨_, rfl⟩
  obtain ⟨t6, hlt6⟩ : ∃ n, Ho.t h2 = n := ⟨_, rfl⟩
  obtain ⟨d6, hld⟩ : ∃ n, Ho.d h2 = n := ⟨_, rfl⟩
  obtain ⟨s6, hls⟩ : ∃ n, Ho.n h2 = n := ⟨_, rfl⟩
  rw [hln, hlr, hlm, hlq] at O6 ⊢
  rw [hlt6, hld, hls]
  have HG6 := Lib.hid (And.intro hln (And.intro hlr (And.intro hlm (And.intro hlq (And.intro hlt6 (And.intro hld hls))))))
  clear hln hlr hlm hlq hlt6 hld hls
  replace HBk := HBk.below hbk
  replace hbw := hbw.trans (hbk.mono hbw.size)
  clear hbk DC D5 O5 O6 HV5 HG5
  go_upto_region 6 with (fail)
  replace HBk := HBk.below ((Below.refl _ _).alloc (Nat.le_refl _) (.cells #[.slice of6 n6 kf6, .slice or6 r6 kr6, .slice om6 m6 km6, .slice og6 q6 kg6, .int .i64 t6, .int .u64 d6, .int .i64 s6] 31))
  replace hbw := hbw.alloc hbw.size (.cells #[.slice of6 n6 kf6, .slice or6 r6 kr6, .slice om6 m6 km6, .slice og6 q6 kg6, .int .i64 t6, .int .u64 d6, .int .i64 s6] 31)
  generalize hW : w7.alloc (.cells #[.slice of6 n6 kf6, .slice or6 r6 kr6, .slice om6 m6 km6, .slice og6 q6 kg6, .int .i64 t6, .int .u64 d6, .int .i64 s6] 31) = w8 at HBk hbw ⊢
  clear hW HG6
  obtain ⟨of9, or9, om9, og9, kf9, kr9, km9, kg9, us9, gs9, D9, O9⟩ := HBk
  obtain ⟨n9, hln⟩ : ∃ n, (Pl.F (Ho.P h2)).length = n := ⟨_, rfl⟩
  obtain ⟨r9, hlr⟩ : ∃ n, (Pl.R (Ho.P h2)).length = n := ⟨_, rfl⟩
  obtain ⟨m9, hlm⟩ : ∃ n, (Pl.M (Ho.P h2)).length = n := ⟨_, rfl⟩
  obtain ⟨q9, hlq⟩ : ∃ n, (Ho.G h2).length = n := ⟨_, rfl⟩
  obtain ⟨t9, hlt9⟩ : ∃ n, Ho.t h2 = n := ⟨_, rfl⟩
  obtain ⟨d9, hld⟩ : ∃ n, Ho.d h2 = n := ⟨_, rfl⟩
  obtain ⟨s9, hls⟩ : ∃ n, Ho.n h2 = n := ⟨_, rfl⟩
  rw [hln, hlr, hlm, hlq] at O9 D9
  rw [hlt9, hld, hls] at D9
  have HG9 := Lib.hid (And.intro hln (And.intro hlr (And.intro hlm (And.intro hlq (And.intro hlt9 (And.intro hld hls))))))
  clear hln hlr hlm hlq hlt9 hld hls
  have HV9 : Hid (∀ w' : World, Below (w8).heap.size w8 w' → HoAt w' (.agg #[.slice of9 n9 kf9, .slice or9 r9 kr9, .slice om9 m9 km9, .slice og9 q9 kg9, .int .i64 t9, .int .u64 d9, .int .i64 s9]) h2) := Lib.hid (fun w' hb => by
    have := (O9.below hb).at_
    rwa [HG9.out.2.2.2.2.1, HG9.out.2.2.2.2.2.1, HG9.out.2.2.2.2.2.2] at this)
  go_cut [8] from 34 to 39 (fun _ wx => ∃ Hn, WriteTo h2 0 0 pg1 Hn ∧ HostAt 0 B0 wx Hn ∧ Below w.heap.size w wx)
  case first =>
    have D9k := D9
    obtain ⟨D9_c, D9_f, D9_z⟩ := D9.all
    go_region_law (first
      | (go_simp; go_at_call 14
         with_reducible refine (HP1.out _).mono ?_
         rintro _ w15 ⟨rfl, hb15⟩
         have HB15 : Below w8.heap.size w8 w15 := (Below.drew (Below.refl _ w8)).trans hb15
         obtain ⟨hc15, hf15⟩ := bcell HB15
         have hzz15 := HB15.size)
      | (go_simp; go_at_call 12
         with_reducible refine (HW1.out h2 HS2.out _ _ (HV9.out _ HB15)).mono ?_
         rintro _ w16 ⟨H3, hwt, of16, or16, om16, og16, kf16, kr16, km16, kg16, us16, gs16, rfl, O16, hb16⟩
         obtain ⟨n16, hln⟩ : ∃ n, (Pl.F (Ho.P H3)).length = n := ⟨_, rfl⟩
         obtain ⟨r16, hlr⟩ : ∃ n, (Pl.R (Ho.P H3)).length = n := ⟨_, rfl⟩
         obtain ⟨m16, hlm⟩ : ∃ n, (Pl.M (Ho.P H3)).length = n := ⟨_, rfl⟩
         obtain ⟨q16, hlq⟩ : ∃ n, (Ho.G H3).length = n := ⟨_, rfl⟩
         obtain ⟨t16, hlt16⟩ : ∃ n, Ho.t H3 = n := ⟨_, rfl⟩
         obtain ⟨d16, hld⟩ : ∃ n, Ho.d H3 = n := ⟨_, rfl⟩
         obtain ⟨s16, hls⟩ : ∃ n, Ho.n H3 = n := ⟨_, rfl⟩
         rw [hln, hlr, hlm, hlq] at O16 ⊢
         rw [hlt16, hld, hls]
         have HG16 := Lib.hid (And.intro hln (And.intro hlr (And.intro hlm (And.intro hlq (And.intro hlt16 (And.intro hld hls))))))
         clear hln hlr hlm hlq hlt16 hld hls
         have HWT := Lib.hid hwt
         clear hwt
         have HB16 : Below w8.heap.size w8 w16 := HB15.trans (hb16.mono hzz15)
         have E0 := D9k.below HB16
         have O16z := O16.lower (base' := 0) (Nat.zero_le _)
         have hbw16 : Below w.heap.size w w16 := hbw.trans (HB16.mono hbw.size)
         have E0k := E0
         obtain ⟨E0_c, E0_f, E0_z⟩ := E0.all))
    all_goals
      go_wp2_with fail
      go_meet
      exact ⟨H3, HWT.out, HostAt.fill HG16.out E0k O16z, Below.fill7 hbw16 (by omega) _ _ _ _ _ _ _⟩
  case rest =>
    clear D9 O9 HV9 HG9 hbw
    obtain ⟨H3, hw3, HBk, hbw⟩ := hcut
    have HS3 := Lib.hid (HS2.out.wr (by omega) (by omega) HZ.out.1 hw3)
    have HT3 := Lib.hid hw3; clear hw3
    go_upto_region 7 with (fail)
    obtain ⟨of10, or10, om10, og10, kf10, kr10, km10, kg10, us10, gs10, D10, O10⟩ := HBk
    obtain ⟨n10, hln⟩ : ∃ n, (Pl.F (Ho.P H3)).length = n := ⟨_, rfl⟩
    obtain ⟨r10, hlr⟩ : ∃ n, (Pl.R (Ho.P H3)).length = n := ⟨_, rfl⟩
    obtain ⟨m10, hlm⟩ : ∃ n, (Pl.M (Ho.P H3)).length = n := ⟨_, rfl⟩
    obtain ⟨q10, hlq⟩ : ∃ n, (Ho.G H3).length = n := ⟨_, rfl⟩
    obtain ⟨t10, hlt10⟩ : ∃ n, Ho.t H3 = n := ⟨_, rfl⟩
    obtain ⟨d10, hld⟩ : ∃ n, Ho.d H3 = n := ⟨_, rfl⟩
    obtain ⟨s10, hls⟩ : ∃ n, Ho.n H3 = n := ⟨_, rfl⟩
    rw [hln, hlr, hlm, hlq] at O10 D10
    rw [hlt10, hld, hls] at D10
    have HG10 := Lib.hid (And.intro hln (And.intro hlr (And.intro hlm (And.intro hlq (And.intro hlt10 (And.intro hld hls))))))
    clear hln hlr hlm hlq hlt10 hld hls
    have HV10 : Hid (∀ w' : World, Below (wc).heap.size wc w' → HoAt w' (.agg #[.slice of10 n10 kf10, .slice or10 r10 kr10, .slice om10 m10 km10, .slice og10 q10 kg10, .int .i64 t10, .int .u64 d10, .int .i64 s10]) H3) := Lib.hid (fun w' hb => by
      have := (O10.below hb).at_
      rwa [HG10.out.2.2.2.2.1, HG10.out.2.2.2.2.2.1, HG10.out.2.2.2.2.2.2] at this)
    go_cut [8] from 40 to 45 (fun _ wx => ∃ Hn, WriteTo H3 0 1 pg2 Hn ∧ HostAt 0 B0 wx Hn ∧ Below w.heap.size w wx)
    case first =>
      have D10k := D10
      obtain ⟨D10_c, D10_f, D10_z⟩ := D10.all
      go_region_law (first
        | (go_simp; go_at_call 14
           with_reducible refine (HP2.out _).mono ?_
           rintro _ w15 ⟨rfl, hb15⟩
           have HB15 : Below wc.heap.size wc w15 := (Below.drew (Below.refl _ wc)).trans hb15
           obtain ⟨hc15, hf15⟩ := bcell HB15
           have hzz15 := HB15.size)
        | (go_simp; go_at_call 12
           with_reducible refine (HW2.out H3 HS3.out _ _ (HV10.out _ HB15)).mono ?_
           rintro _ w16 ⟨H4, hwt, of16, or16, om16, og16, kf16, kr16, km16, kg16, us16, gs16, rfl, O16, hb16⟩
           obtain ⟨n16, hln⟩ : ∃ n, (Pl.F (Ho.P H4)).length = n := ⟨_, rfl⟩
           obtain ⟨r16, hlr⟩ : ∃ n, (Pl.R (Ho.P H4)).length = n := ⟨_, rfl⟩
           obtain ⟨m16, hlm⟩ : ∃ n, (Pl.M (Ho.P H4)).length = n := ⟨_, rfl⟩
           obtain ⟨q16, hlq⟩ : ∃ n, (Ho.G H4).length = n := ⟨_, rfl⟩
           obtain ⟨t16, hlt16⟩ : ∃ n, Ho.t H4 = n := ⟨_, rfl⟩
           obtain ⟨d16, hld⟩ : ∃ n, Ho.d H4 = n := ⟨_, rfl⟩
           obtain ⟨s16, hls⟩ : ∃ n, Ho.n H4 = n := ⟨_, rfl⟩
           rw [hln, hlr, hlm, hlq] at O16 ⊢
           rw [hlt16, hld, hls]
           have HG16 := Lib.hid (And.intro hln (And.intro hlr (And.intro hlm (And.intro hlq (And.intro hlt16 (And.intro hld hls))))))
           clear hln hlr hlm hlq hlt16 hld hls
           have HWT := Lib.hid hwt
           clear hwt
           have HB16 : Below wc.heap.size wc w16 := HB15.trans (hb16.mono hzz15)
           have E0 := D10k.below HB16
           have O16z := O16.lower (base' := 0) (Nat.zero_le _)
           have hbw16 : Below w.heap.size w w16 := hbw.trans (HB16.mono hbw.size)
           have E0k := E0
           obtain ⟨E0_c, E0_f, E0_z⟩ := E0.all))
      all_goals
        go_wp2_with fail
        go_meet
        exact ⟨H4, HWT.out, HostAt.fill HG16.out E0k O16z, Below.fill7 hbw16 (by omega) _ _ _ _ _ _ _⟩
    case rest =>
      clear D10 O10 HV10 HG10 hbw
      obtain ⟨H4, hw4, HBk, hbw⟩ := hcut
      have HS4 := Lib.hid (HS3.out.wr (by omega) (by omega) HZ.out.2.1 hw4)
      have HT4 := Lib.hid hw4; clear hw4
      go_upto_region 8 with (fail)
      obtain ⟨of11, or11, om11, og11, kf11, kr11, km11, kg11, us11, gs11, D11, O11⟩ := HBk
      obtain ⟨n11, hln⟩ : ∃ n, (Pl.F (Ho.P H4)).length = n := ⟨_, rfl⟩
      obtain ⟨r11, hlr⟩ : ∃ n, (Pl.R (Ho.P H4)).length = n := ⟨_, rfl⟩
      obtain ⟨m11, hlm⟩ : ∃ n, (Pl.M (Ho.P H4)).length = n := ⟨_, rfl⟩
      obtain ⟨q11, hlq⟩ : ∃ n, (Ho.G H4).length = n := ⟨_, rfl⟩
      obtain ⟨t11, hlt11⟩ : ∃ n, Ho.t H4 = n := ⟨_, rfl⟩
      obtain ⟨d11, hld⟩ : ∃ n, Ho.d H4 = n := ⟨_, rfl⟩
      obtain ⟨s11, hls⟩ : ∃ n, Ho.n H4 = n := ⟨_, rfl⟩
      rw [hln, hlr, hlm, hlq] at O11 D11
      rw [hlt11, hld, hls] at D11
      have HG11 := Lib.hid (And.intro hln (And.intro hlr (And.intro hlm (And.intro hlq (And.intro hlt11 (And.intro hld hls))))))
      clear hln hlr hlm hlq hlt11 hld hls
      have HV11 : Hid (∀ w' : World, Below (wc).heap.size wc w' → HoAt w' (.agg #[.slice of11 n11 kf11, .slice or11 r11 kr11, .slice om11 m11 km11, .slice og11 q11 kg11, .int .i64 t11, .int .u64 d11, .int .i64 s11]) H4) := Lib.hid (fun w' hb => by
        have := (O11.below hb).at_
        rwa [HG11.out.2.2.2.2.1, HG11.out.2.2.2.2.2.1, HG11.out.2.2.2.2.2.2] at this)
      go_cut [8] from 46 to 51 (fun v wx => v = .int .i64 0 ∧ ∃ Hn, WriteTo H4 1 0 pg3 Hn ∧ HostAt 0 B0 wx Hn ∧ Below w.heap.size w wx)
      case first =>
        have D11k := D11
        obtain ⟨D11_c, D11_f, D11_z⟩ := D11.all
        go_region_law (first
          | (go_simp; go_at_call 14
             with_reducible refine (HP3.out _).mono ?_
             rintro _ w15 ⟨rfl, hb15⟩
             have HB15 : Below wc.heap.size wc w15 := (Below.drew (Below.refl _ wc)).trans hb15
             obtain ⟨hc15, hf15⟩ := bcell HB15
             have hzz15 := HB15.size)
          | (go_simp; go_at_call 12
             with_reducible refine (HW3.out H4 HS4.out _ _ (HV11.out _ HB15)).mono ?_
             rintro _ w16 ⟨H5, hwt, of16, or16, om16, og16, kf16, kr16, km16, kg16, us16, gs16, rfl, O16, hb16⟩
             obtain ⟨n16, hln⟩ : ∃ n, (Pl.F (Ho.P H5)).length = n := ⟨_, rfl⟩
             obtain ⟨r16, hlr⟩ : ∃ n, (Pl.R (Ho.P H5)).length = n := ⟨_, rfl⟩
             obtain ⟨m16, hlm⟩ : ∃ n, (Pl.M (Ho.P H5)).length = n := ⟨_, rfl⟩
             obtain ⟨q16, hlq⟩ : ∃ n, (Ho.G H5).length = n := ⟨_, rfl⟩
             obtain ⟨t16, hlt16⟩ : ∃ n, Ho.t H5 = n := ⟨_, rfl⟩
             obtain ⟨d16, hld⟩ : ∃ n, Ho.d H5 = n := ⟨_, rfl⟩
             obtain ⟨s16, hls⟩ : ∃ n, Ho.n H5 = n := ⟨_, rfl⟩
             rw [hln, hlr, hlm, hlq] at O16 ⊢
             rw [hlt16, hld, hls]
             have HG16 := Lib.hid (And.intro hln (And.intro hlr (And.intro hlm (And.intro hlq (And.intro hlt16 (And.intro hld hls))))))
             clear hln hlr hlm hlq hlt16 hld hls
             have HWT := Lib.hid hwt
             clear hwt
             have HB16 : Below wc.heap.size wc w16 := HB15.trans (hb16.mono hzz15)
             have E0 := D11k.below HB16
             have O16z := O16.lower (base' := 0) (Nat.zero_le _)
             have hbw16 : Below w.heap.size w w16 := hbw.trans (HB16.mono hbw.size)
             have E0k := E0
             obtain ⟨E0_c, E0_f, E0_z⟩ := E0.all))
        all_goals
          go_wp2_with fail
          go_meet
          exact ⟨rfl,H5, HWT.out, HostAt.fill HG16.out E0k O16z, Below.fill7 hbw16 (by omega) _ _ _ _ _ _ _⟩
      case rest =>
        clear D11 O11 HV11 HG11 hbw
        obtain ⟨rfl, H5, hw5, HBk, hbw⟩ := hcut
        obtain ⟨_, _, hs5, hc0, hs1, hr6⟩ := HWL.out H3 H4 H5 HT3.out HT4.out hw5
        obtain ⟨g0, hg0⟩ := get_lt (xs := H5.G) (k := 0) (by rw [hs5.g]; omega)
        have RSa := fun v w h => HRS0.out H5 hs5 v w h
        have SWa := fun v w h => HSW0.out H5 g0 hs5 hg0 v w h
        have RDa := fun v w h => HRD.out H5 hs5 v w h
        rw [hc0] at RSa
        rw [hs1 g0 hg0] at SWa
        have c1 : ((1 : Nat) : Int) = 1 := rfl
        rw [c1] at RSa SWa
        have HRSa := Lib.hid RSa; clear RSa
        have HSWa := Lib.hid SWa; clear SWa
        have HRDa := Lib.hid RDa; clear RDa
        have HR6 := Lib.hid hr6; clear hr6 hg0 hs1 hc0 c1 hs5
        obtain ⟨of12, or12, om12, og12, kf12, kr12, km12, kg12, us12, gs12, D12, O12⟩ := HBk
        obtain ⟨n12, hln⟩ : ∃ n, (Pl.F (Ho.P H5)).length = n := ⟨_, rfl⟩
        obtain ⟨r12, hlr⟩ : ∃ n, (Pl.R (Ho.P H5)).length = n := ⟨_, rfl⟩
        obtain ⟨m12, hlm⟩ : ∃ n, (Pl.M (Ho.P H5)).length = n := ⟨_, rfl⟩
        obtain ⟨q12, hlq⟩ : ∃ n, (Ho.G H5).length = n := ⟨_, rfl⟩
        obtain ⟨t12, hlt12⟩ : ∃ n, Ho.t H5 = n := ⟨_, rfl⟩
        obtain ⟨d12, hld⟩ : ∃ n, Ho.d H5 = n := ⟨_, rfl⟩
        obtain ⟨s12, hls⟩ : ∃ n, Ho.n H5 = n := ⟨_, rfl⟩
        rw [hln, hlr, hlm, hlq] at O12 D12
        rw [hlt12, hld, hls] at D12
        have HG12 := Lib.hid (And.intro hln (And.intro hlr (And.intro hlm (And.intro hlq (And.intro hlt12 (And.intro hld hls))))))
        clear hln hlr hlm hlq hlt12 hld hls
        have HV12 : Hid (∀ w' : World, Below (wc).heap.size wc w' → HoAt w' (.agg #[.slice of12 n12 kf12, .slice or12 r12 kr12, .slice om12 m12 km12, .slice og12 q12 kg12, .int .i64 t12, .int .u64 d12, .int .i64 s12]) H5) := Lib.hid (fun w' hb => by
          have := (O12.below hb).at_
          rwa [HG12.out.2.2.2.2.1, HG12.out.2.2.2.2.2.1, HG12.out.2.2.2.2.2.2] at this)
        obtain ⟨D12_c, D12_f, D12_z⟩ := D12.all
        go_wp2_with fail
        clear D12_c D12_f D12_z
        with_reducible refine (HRSa.out _ _ (HV12.out _ (Below.refl _ _))).mono ?_
        rintro e w20 ⟨rfl, hbc⟩
        replace D12 := D12.below hbc
        obtain ⟨D12_c, D12_f, D12_z⟩ := D12.all
        go_wp2_with fail
        clear D12_c D12_f D12_z
        with_reducible refine (HSWa.out _ _ (HV12.out _ hbc)).mono ?_
        rintro e w21 ⟨rfl, hbk⟩
        replace D12 := D12.below hbk
        replace hbc := hbc.trans (hbk.mono hbc.size)
        clear hbk
        obtain ⟨D12_c, D12_f, D12_z⟩ := D12.all
        go_wp2_with fail
        clear D12_c D12_f D12_z
        with_reducible refine (HRDa.out _ _ (HV12.out _ hbc)).mono ?_
        rintro e w22 ⟨H6, hrd, of13, or13, om13, og13, kf13, kr13, km13, kg13, us13, gs13, rfl, O13, hbk⟩
        obtain ⟨n13, hln⟩ : ∃ n, (Pl.F (Ho.P H6)).length = n := ⟨_, rfl⟩
        obtain ⟨r13, hlr⟩ : ∃ n, (Pl.R (Ho.P H6)).length = n := ⟨_, rfl⟩
        obtain ⟨m13, hlm⟩ : ∃ n, (Pl.M (Ho.P H6)).length = n := ⟨_, rfl⟩
        obtain ⟨q13, hlq⟩ : ∃ n, (Ho.G H6).length = n := ⟨_, rfl⟩
        obtain ⟨t13, hlt13⟩ : ∃ n, Ho.t H6 = n := ⟨_, rfl⟩
        obtain ⟨d13, hld⟩ : ∃ n, Ho.d H6 = n := ⟨_, rfl⟩
        obtain ⟨s13, hls⟩ : ∃ n, Ho.n H6 = n := ⟨_, rfl⟩
        rw [hln, hlr, hlm, hlq] at O13 ⊢
        rw [hlt13, hld, hls]
        have HG13 := Lib.hid (And.intro hln (And.intro hlr (And.intro hlm (And.intro hlq (And.intro hlt13 (And.intro hld hls))))))
        clear hln hlr hlm hlq hlt13 hld hls
        obtain ⟨hs6, ht6, hc6⟩ := HR6.out H6 hrd
        rw [ht6]
        replace D12 := D12.below hbk
        replace O13 := O13.lower (base' := 0) (Nat.zero_le _)
        replace hbw := (hbw.trans (hbc.mono hbw.size)).trans (hbk.mono (Nat.le_trans hbw.size hbc.size))
        have RSb := fun v w h => HRS1.out H6 hs6 v w h
        rw [hc6] at RSb
        have c1 : ((1 : Nat) : Int) = 1 := rfl
        rw [c1] at RSb
        have HRSb := Lib.hid RSb; clear RSb
        clear hbk hbc O12 HV12 hrd ht6 hc6 hs6 c1
        have D12k := D12
        obtain ⟨D12_c, D12_f, D12_z⟩ := D12.all
        go_upto_region 12 with (fail)
        clear D12_c D12_f D12_z
        have HB := HostAt.fill HG13.out D12k O13
        replace hbw := Below.fill7 hbw (b := B0) (by omega) (.slice of13 n13 kf13) (.slice or13 r13 kr13) (.slice om13 m13 km13) (.slice og13 q13 kg13) (.int .i64 t13) (.int .u64 d13) (.int .i64 s13)
        generalize hW : (((((((World.setCell w22 ⟨B0, 0, none⟩ (.slice of13 n13 kf13)).setCell ⟨B0, 1, none⟩ (.slice or13 r13 kr13)).setCell ⟨B0, 2, none⟩ (.slice om13 m13 km13)).setCell ⟨B0, 3, none⟩ (.slice og13 q13 kg13)).setCell ⟨B0, 4, none⟩ (.int .i64 t13)).setCell ⟨B0, 5, none⟩ (.int .u64 d13)).setCell ⟨B0, 6, none⟩ (.int .i64 s13)) = w23 at HB hbw ⊢
        clear hW O13 D12 D12k HG13
        obtain ⟨of14, or14, om14, og14, kf14, kr14, km14, kg14, us14, gs14, D14, O14⟩ := HB
        obtain ⟨n14, hln⟩ : ∃ n, (Pl.F (Ho.P H6)).length = n := ⟨_, rfl⟩
        obtain ⟨r14, hlr⟩ : ∃ n, (Pl.R (Ho.P H6)).length = n := ⟨_, rfl⟩
        obtain ⟨m14, hlm⟩ : ∃ n, (Pl.M (Ho.P H6)).length = n := ⟨_, rfl⟩
        obtain ⟨q14, hlq⟩ : ∃ n, (Ho.G H6).length = n := ⟨_, rfl⟩
        obtain ⟨t14, hlt14⟩ : ∃ n, Ho.t H6 = n := ⟨_, rfl⟩
        obtain ⟨d14, hld⟩ : ∃ n, Ho.d H6 = n := ⟨_, rfl⟩
        obtain ⟨s14, hls⟩ : ∃ n, Ho.n H6 = n := ⟨_, rfl⟩
        rw [hln, hlr, hlm, hlq] at O14 D14
        rw [hlt14, hld, hls] at D14
        have HG14 := Lib.hid (And.intro hln (And.intro hlr (And.intro hlm (And.intro hlq (And.intro hlt14 (And.intro hld hls))))))
        clear hln hlr hlm hlq hlt14 hld hls
        have HV14 : Hid (∀ w' : World, Below (w23).heap.size w23 w' → HoAt w' (.agg #[.slice of14 n14 kf14, .slice or14 r14 kr14, .slice om14 m14 km14, .slice og14 q14 kg14, .int .i64 t14, .int .u64 d14, .int .i64 s14]) H6) := Lib.hid (fun w' hb => by
          have := (O14.below hb).at_
          rwa [HG14.out.2.2.2.2.1, HG14.out.2.2.2.2.2.1, HG14.out.2.2.2.2.2.2] at this)
        have e1 : (pg1.toList == pg1.toList) = true := by simp
        obtain ⟨D14_c, D14_f, D14_z⟩ := D14.all
        go_wp2_with fail
        clear D14_c D14_f D14_z
        with_reducible refine (HP1.out _).mono ?_
        rintro e w24 ⟨rfl, hbc⟩
        replace D14 := D14.below hbc
        obtain ⟨D14_c, D14_f, D14_z⟩ := D14.all
        go_wp2_with fail
        clear D14_c D14_f D14_z
        with_reducible refine (HRSb.out _ _ (HV14.out _ hbc)).mono ?_
        rintro e w25 ⟨rfl, hbk⟩
        replace hbw := (hbw.trans (hbc.mono hbw.size)).trans (hbk.mono (Nat.le_trans hbw.size hbc.size))
        clear hbk hbc D14 O14 HV14
        go_wp2_with fail
        go_ret
        exact Ret.mk hbw
end Go.Proofs.Ytbnngjhnkegliaa
namespace Go.Proofs.Ytbnngjhnkegliaa
open Go.ChangeShapes Go.WideShapes Go.ChangeAt Go.RowKit Go.Joins Go.Deep

theorem Try.own : ownKnob Try.prog.godebug = none := by kernel_rfl
theorem Try.laidOut : laidOutB Try.prog = true := by kernel_rfl

theorem trodAll_below {H : Type} {enc : TypeId × Value → H} {P : Program} (hl : laidOutB P = true) {W W' : World} (hb : Below W.heap.size W W') : ∀ (ts : List TypeId) (vs : List Value) (ds : List (DataW H)) (ps : List MemPlace),
    (∀ t ∈ ts, P.readableRec t = true ∧ t < P.types.size) → DataW.TrodAll enc P W 0 (fun _ => true) true ts vs ds ps → (∀ x ∈ ps, x.block < W.heap.size) →
    DataW.TrodAll enc P W' 0 (fun b => decide (b < W.heap.size)) true ts vs ds ps
  | [], vs, ds, ps, _, h, _ => by
    obtain ⟨rfl, rfl, rfl⟩ := trodAll_nil h
    exact trodAll_mk0
  | t :: ts, vs, ds, ps, hr, h, hlt => by
    obtain ⟨v, vs', d, ds', p, q, rfl, rfl, rfl, h0, h1⟩ := trodAll_cons h
    have := hr t (List.mem_cons_self ..)
    exact trodAll_cons_mk (Below.trod hl this.1 this.2 h0 hb (fun x hx => hlt x (List.mem_append_left _ hx)))
      (trodAll_below hl hb ts vs' ds' q (fun u hu => hr u (List.mem_cons_of_mem _ hu)) h1 (fun x hx => hlt x (List.mem_append_right _ hx)))

theorem law_post {H : Type} {enc : TypeId × Value → H} {f : Func} {s : ChangeSpec} {W W' : World} {args : Array Value} {ds gs : List (DataW H)} {before : List MemPlace}
    (hv : s.vars = []) (hW : DataW.Whole enc Try.prog f.params.toList s.vars false W args.toList ds gs before) (hb : Below W.heap.size W W')
    (hr : ∀ t ∈ f.params.toList, Try.prog.readableRec t = true ∧ t < Try.prog.types.size) (tb : TypeId) (hres : f.resultTypes = #[tb]) (hub : Try.prog.underlying tb = some .bool)
    (hfn : gs = [] → s.fn H ds = { results := [.lit (.bool true)], args := ds }) : s.post enc Try.prog f false true false false W args (.bool true) W' := by
  have hW0 := hW
  obtain ⟨p, q, hA, hV, rfl, hfz, hnd⟩ := hW
  rw [hv] at hV
  obtain ⟨rfl, rfl⟩ := trodVars_none hV
  have hf := hfn rfl
  have hlt : ∀ x ∈ p, x.block < W.heap.size := fun x hx => hW0.lt x (List.mem_append_left _ hx)
  have e : s.fn H (ds ++ []) = { results := [.lit (.bool true)], args := ds } := by rw [List.append_nil]; exact hf
  refine ⟨ds, [], p ++ [], [], p, [], hW0, ?_, ?_, ?_, hb.frame _, fun h => by cases h⟩
  · rw [e, hres]
    exact trodAll_mk1 (shut_bool hub true)
  · rw [e]
    exact trodAll_below Try.laidOut hb _ _ _ _ hr hA hlt
  · rw [e, hv]
    rfl

section
variable {H : Type} {enc : TypeId × Value → H} {P : Program} {w : World} {base : Nat} {spare : Nat → Bool} {held : Bool}
/-- A struct by value, whatever the number of its one-cell fields. -/
theorem open_agg {r : Reach} {b0 : Nat} {t : TypeId} {fs : Array Field} {v : Value} {d : DataW H} {p : List MemPlace} (hs : P.underlying t = some (.struct fs)) (hone : oneCellFields P fs = true) (hC : P.cellsOf t = fs.size)
    (hv : Value.okWide P w r b0 t v) (h : DataW.Trod enc P w base spare held t v d p) :
    ∃ (cs : List Value) (n : Nat), v = .agg cs.toArray ∧ cs.length = fs.size ∧ ∀ (j : Nat) (f : Field), fs[j]? = some f → ∃ c y, cs[j]? = some c ∧ DataW.trod enc P w base spare held n f.type [c] = some y := by
  obtain ⟨cs, rfl, hsz⟩ := okWide_struct hs hv
  obtain ⟨l⟩ := cs
  obtain ⟨fuel, hf⟩ := h
  obtain ⟨xs, n, _, hx, _, hlen, hg⟩ := DataW.trod_struct hs hf
  have hl : l.length = fs.size := hsz.trans hC
  refine ⟨l, n, rfl, hl, fun j f hj => ?_⟩
  obtain ⟨ho, hk⟩ := hone_of hone j f hj
  have hjl : j < fs.size := (Array.getElem?_eq_some_iff.1 hj).1
  have h1 := hg j f hj
  rw [ho, hk] at h1
  have h2 : ((Value.agg l.toArray).cells.toList.drop j).take 1 = [l[j]'(by omega)] := by
    show (l.drop j).take 1 = _
    rw [List.drop_eq_getElem_cons (by omega)]
    rfl
  rw [h2] at h1
  cases hy : DataW.trod enc P w base spare held n f.type [l[j]'(by omega)] with
  | none => rw [hy] at h1; have := h1.symm; simp at this; omega
  | some y => exact ⟨_, y, List.getElem?_eq_getElem (by omega), hy⟩
end
end Go.Proofs.Ytbnngjhnkegliaa
