/-
  A guest added to a pool, in the reference: walked.
-/
import Derived.Test.YtjoopjgpjkmmhaaPlRefShare
import Derived.Test.YtjoopjgpjkmmhaaPlAdd
namespace Go.Proofs.Ytjoopjgpjkmmhaa
open Go.RowKit

theorem repI_succ {k K : Nat} (h : k < K) : (repI k K).set k (-1) = repI (k + 1) K := by
  apply List.ext_getElem?
  intro j
  rw [List.getElem?_set, repI_len (by omega)]
  unfold repI
  rw [List.getElem?_append, List.getElem?_append, List.length_replicate, List.length_replicate, List.getElem?_replicate, List.getElem?_replicate, List.getElem?_replicate, List.getElem?_replicate]
  by_cases e : k = j
  · subst e
    rw [if_pos rfl, if_pos h, if_pos (by omega), if_pos (by omega)]
  · rw [if_neg e]
    by_cases h1 : j < k
    · rw [if_pos h1, if_pos h1, if_pos (by omega), if_pos (by omega)]
    · rw [if_neg h1, if_neg (show ¬ j < k + 1 by omega)]
      by_cases h2 : j < K
      · rw [if_pos (by omega), if_pos (by omega)]
      · rw [if_neg (by omega), if_neg (by omega)]
theorem repI_at {k K : Nat} (h : k < K) : (repI k K)[k]? = some 0 := by
  unfold repI
  rw [List.getElem?_append, List.length_replicate, if_neg (Nat.lt_irrefl _), Nat.sub_self, List.getElem?_replicate, if_pos (by omega)]
set_option maxRecDepth 100000 in
set_option maxHeartbeats 4000000 in
theorem radd_any (v : Value) (P : Pl) (q : Int) (w : World) (h : PlRow w v P) (hf : P.fit) : Calls Try.prog 23 #[v, .int .i64 q] w (RetRowP (P.add q) (P.goodA q) w) := by
  obtain ⟨of, or', om, kf, kr, km, rfl, kf1, kf2, kr1, kr2, km1, km2⟩ := h.form
  obtain ⟨n, hn⟩ : ∃ n, P.F.length = n := ⟨_, rfl⟩
  obtain ⟨r, hr⟩ : ∃ n, P.R.length = n := ⟨_, rfl⟩
  obtain ⟨m, hm⟩ : ∃ n, P.M.length = n := ⟨_, rfl⟩
  rw [hn] at h kf1 ⊢
  rw [hr] at h kr1 ⊢
  rw [hm] at h km1 ⊢
  have HN := Lib.hid hn; clear hn
  have HR := Lib.hid hr; clear hr
  have HM := Lib.hid hm; clear hm
  have h0 := h
  have V := fun w h => rvalid_pl (.agg #[.slice of n kf, .slice or' r kr, .slice om m km]) P w h hf
  clear hf
  obtain ⟨vb, hvb⟩ : ∃ b, P.ok = b := ⟨_, rfl⟩
  rw [hvb] at V
  have HV := Lib.hid V; clear V
  have HVB := Lib.hid hvb; clear hvb
  have D1 := (HasBlock.made w #[.slice of n kf, .slice or' r kr, .slice om m km] 26).alloc (.cells #[.slice none 0 0, .slice none 0 0, .slice none 0 0] 26)
  have D2 := HasBlock.made (w.alloc (.cells #[.slice of n kf, .slice or' r kr, .slice om m km] 26)) #[.slice none 0 0, .slice none 0 0, .slice none 0 0] 26
  have hbw : Below w.heap.size w ((w.alloc (.cells #[.slice of n kf, .slice or' r kr, .slice om m km] 26)).alloc (.cells #[.slice none 0 0, .slice none 0 0, .slice none 0 0] 26)) := (by repeat (first | with_reducible exact Below.refl _ _ | with_reducible refine Below.drew ?_ | (with_reducible refine Below.alloc ?_ (by first | exact Nat.le_refl _ | omega | (dsimp only; omega) | (simp only [sizes]; omega)) _) | (with_reducible refine Below.setCell ?_ (by first | exact Nat.le_refl _ | omega | (dsimp only; omega) | (simp only [sizes]; omega)) _) | (refine Below.trans ?_ (Below.mono (by with_reducible assumption) (by first | exact Nat.le_refl _ | omega | (dsimp only; omega) | (simp only [sizes]; omega))))))
  have hz : w.heap.size + 1 + 1 ≤ ((w.alloc (.cells #[.slice of n kf, .slice or' r kr, .slice om m km] 26)).alloc (.cells #[.slice none 0 0, .slice none 0 0, .slice none 0 0] 26)).heap.size := by simp only [sizes]; omega
  simp only [sizes] at D2
  replace h := h.below hbw
  go_enter Try.func23, Try.ntmps23
  go_wp2_with fail
  with_reducible refine (HV.out _ h).mono ?_
  rintro e w1 ⟨rfl, hb1⟩
  replace D1 := D1.below hb1
  replace D2 := D2.below hb1
  replace h := h.below hb1
  replace hbw := hbw.trans (hb1.mono hbw.size)
  replace hz := Nat.le_trans hz hb1.size
  clear hb1
  cases vb
  · have hno : P.goodA q = false := by unfold Pl.goodA; (rw [HVB.out]; rfl)
    have HNO := Lib.hid hno; clear hno
    obtain ⟨D1_c, D1_f, D1_z⟩ := D1.all
    obtain ⟨D2_c, D2_f, D2_z⟩ := D2.all
    go_wp2_with fail
    refine bodyPost_ret (v := .tuple #[.agg #[.slice of n kf, .slice or' r kr, .slice om m km], .bool false]) (by simp [results, Try.results23, go_sem, D2_c]) rfl ?_
    rw [HNO.out]
    refine (fun hbe => ret_rowP HN.out HR.out HM.out (by unfold Pl.add; rw [HNO.out]; rfl) (h0.below hbe) hbe) ?_
    exact (((hbw.setCell (p := ⟨w.heap.size + 1, 0, none⟩) (by dsimp only; omega) _).setCell (p := ⟨w.heap.size + 1, 1, none⟩) (by dsimp only; omega) _).setCell (p := ⟨w.heap.size + 1, 2, none⟩) (by dsimp only; omega) _)
  have H := Pl.ok_iff.1 HVB.out
  have hm8 := H.m
  rw [HM.out] at hm8
  by_cases g1 : m = 8
  · have g1' : 8 ≤ m := by omega
    have hno : P.goodA q = false := by unfold Pl.goodA; rw [decide_eq_false (fun h => h.1 (by rw [HM.out]; exact g1)), Bool.and_false]
    have HNO := Lib.hid hno; clear hno g1
    obtain ⟨D1_c, D1_f, D1_z⟩ := D1.all
    obtain ⟨D2_c, D2_f, D2_z⟩ := D2.all
    go_wp2_with fail
    refine bodyPost_ret (v := .tuple #[.agg #[.slice of n kf, .slice or' r kr, .slice om m km], .bool false]) (by simp [results, Try.results23, go_sem, D2_c]) rfl ?_
    rw [HNO.out]
    refine (fun hbe => ret_rowP HN.out HR.out HM.out (by unfold Pl.add; rw [HNO.out]; rfl) (h0.below hbe) hbe) ?_
    exact (((hbw.setCell (p := ⟨w.heap.size + 1, 0, none⟩) (by dsimp only; omega) _).setCell (p := ⟨w.heap.size + 1, 1, none⟩) (by dsimp only; omega) _).setCell (p := ⟨w.heap.size + 1, 2, none⟩) (by dsimp only; omega) _)
  have g1' : m < 8 := by omega
  by_cases g2 : 1 ≤ q
  rotate_left
  · have hno : P.goodA q = false := by unfold Pl.goodA; (rw [decide_eq_false (fun h => g2 h.2.1), Bool.and_false])
    have HNO := Lib.hid hno; clear hno
    obtain ⟨D1_c, D1_f, D1_z⟩ := D1.all
    obtain ⟨D2_c, D2_f, D2_z⟩ := D2.all
    go_wp2_with fail
    refine bodyPost_ret (v := .tuple #[.agg #[.slice of n kf, .slice or' r kr, .slice om m km], .bool false]) (by simp [results, Try.results23, go_sem, D2_c]) rfl ?_
    rw [HNO.out]
    refine (fun hbe => ret_rowP HN.out HR.out HM.out (by unfold Pl.add; rw [HNO.out]; rfl) (h0.below hbe) hbe) ?_
    exact (((hbw.setCell (p := ⟨w.heap.size + 1, 0, none⟩) (by dsimp only; omega) _).setCell (p := ⟨w.heap.size + 1, 1, none⟩) (by dsimp only; omega) _).setCell (p := ⟨w.heap.size + 1, 2, none⟩) (by dsimp only; omega) _)
  by_cases g3 : q ≤ 32
  rotate_left
  · have hno : P.goodA q = false := by unfold Pl.goodA; (rw [decide_eq_false (fun h => g3 h.2.2), Bool.and_false])
    have HNO := Lib.hid hno; clear hno
    obtain ⟨D1_c, D1_f, D1_z⟩ := D1.all
    obtain ⟨D2_c, D2_f, D2_z⟩ := D2.all
    go_wp2_with fail
    refine bodyPost_ret (v := .tuple #[.agg #[.slice of n kf, .slice or' r kr, .slice om m km], .bool false]) (by simp [results, Try.results23, go_sem, D2_c]) rfl ?_
    rw [HNO.out]
    refine (fun hbe => ret_rowP HN.out HR.out HM.out (by unfold Pl.add; rw [HNO.out]; rfl) (h0.below hbe) hbe) ?_
    exact (((hbw.setCell (p := ⟨w.heap.size + 1, 0, none⟩) (by dsimp only; omega) _).setCell (p := ⟨w.heap.size + 1, 1, none⟩) (by dsimp only; omega) _).setCell (p := ⟨w.heap.size + 1, 2, none⟩) (by dsimp only; omega) _)
  obtain ⟨K, rfl⟩ : ∃ K : Nat, q = K := ⟨q.toNat, by omega⟩
  have hyes : P.goodA K = true := by unfold Pl.goodA; rw [HVB.out, decide_eq_true ⟨by rw [HM.out]; exact g1, g2, g3⟩]; rfl
  have hadd : P.add K = ⟨P.F, P.R, P.M ++ [List.replicate K (-1)]⟩ := by unfold Pl.add; rw [hyes, Int.toNat_natCast]; rfl
  have HYES := Lib.hid hyes; clear hyes
  have HADD := Lib.hid hadd; clear hadd
  have C := fun w h => rown_any (.agg #[.slice of n kf, .slice or' r kr, .slice om m km]) P w h H
  have HC := Lib.hid C; clear C
  have d1 : decide ((K : Int) < 1) = false := decide_eq_false (by omega)
  have d2 : decide ((32 : Int) < (K : Int)) = false := decide_eq_false (by omega)
  have d3 : decide ((8 : Int) ≤ (m : Int)) = false := decide_eq_false (by omega)
  have hmk := makes_rep K (by omega)
  obtain ⟨pg, hpg⟩ : ∃ f : Nat → List Int, (fun i => repI i K) = f := ⟨_, rfl⟩
  have hpgi : ∀ i, repI i K = pg i := fun i => by rw [← hpg]
  have HPGI := Lib.hid hpgi
  rw [hpgi] at hmk
  clear hpg hpgi
  clear g1
  obtain ⟨D1_c, D1_f, D1_z⟩ := D1.all
  obtain ⟨D2_c, D2_f, D2_z⟩ := D2.all
  go_wp2_with fail
  clear D1_c D1_f D1_z
  clear D2_c D2_f D2_z
  with_reducible refine (HC.out _ h).mono ?_
  rintro e w4 ⟨of1, or1, om1, kf1', kr1', km1', us, rfl, hO, hb4⟩
  rw [HN.out, HR.out, HM.out] at hO ⊢
  replace hO := hO.lower hz
  replace D1 := D1.below hb4
  replace D2 := D2.below hb4
  replace hbw := hbw.trans (hb4.mono hbw.size)
  replace hz := Nat.le_trans hz hb4.size
  clear hb4 h
  obtain ⟨D1_c, D1_f, D1_z⟩ := D1.all
  obtain ⟨D2_c, D2_f, D2_z⟩ := D2.all
  go_wp2_with fail
  clear D1_c D1_f D1_z
  clear D2_c D2_f D2_z
  have D3 := (HasBlock.made w4 #[.slice of1 n kf1', .slice or1 r kr1', .slice om1 m km1'] 26).alloc (.cells ((pg 0).map (Value.int .i64)).toArray 3)
  have D4 := HasBlock.made (w4.alloc (.cells #[.slice of1 n kf1', .slice or1 r kr1', .slice om1 m km1'] 26)) ((pg 0).map (Value.int .i64)).toArray 3
  replace D1 := (D1.alloc (.cells #[.slice of1 n kf1', .slice or1 r kr1', .slice om1 m km1'] 26)).alloc (.cells ((pg 0).map (Value.int .i64)).toArray 3)
  replace D2 := (D2.alloc (.cells #[.slice of1 n kf1', .slice or1 r kr1', .slice om1 m km1'] 26)).alloc (.cells ((pg 0).map (Value.int .i64)).toArray 3)
  have hT := hO.lt
  replace hO := (hO.alloc (.cells #[.slice of1 n kf1', .slice or1 r kr1', .slice om1 m km1'] 26)).alloc (.cells ((pg 0).map (Value.int .i64)).toArray 3)
  replace hbw := (hbw.alloc hbw.size (.cells #[.slice of1 n kf1', .slice or1 r kr1', .slice om1 m km1'] 26)).alloc (by simp only [sizes]; have := hbw.size; omega) (.cells ((pg 0).map (Value.int .i64)).toArray 3)
  simp only [sizes] at D4
  obtain ⟨B, hB⟩ : ∃ B, w4.heap.size = B := ⟨_, rfl⟩
  rw [hB] at D3 D4 hz hT ⊢
  generalize hW : (w4.alloc (.cells #[.slice of1 n kf1', .slice or1 r kr1', .slice om1 m km1'] 26)).alloc (.cells ((pg 0).map (Value.int .i64)).toArray 3) = w5 at D1 D2 D3 D4 hO hbw ⊢
  clear hW hB hmk
  go_loopw [8] (fun iv wr => ∃ k : Nat, k ≤ K ∧ iv = .int .i64 k ∧ HasBlock wr w.heap.size #[.slice of n kf, .slice or' r kr, .slice om m km] 26 ∧ HasBlock wr (w.heap.size + 1) #[.slice none 0 0, .slice none 0 0, .slice none 0 0] 26 ∧ HasBlock wr B #[.slice of1 n kf1', .slice or1 r kr1', .slice om1 m km1'] 26 ∧ HasBlock wr (B + 1) ((pg k).map (Value.int .i64)).toArray 3 ∧ OwnP (w.heap.size + 1 + 1) wr (.slice of1 n kf1') (.slice or1 r kr1') (.slice om1 m km1') us P ∧ Below w.heap.size w wr) (fun iv _ => K - (intOf iv).toNat)
  case atStart => exact ⟨0, Nat.zero_le _, rfl, D1, D2, D3, D4, hO, hbw⟩
  case round =>
    clear D1 D2 D3 D4 hO hbw
    obtain ⟨k, hk, rfl, D1, D2, D3, D4, hO, hbw⟩ := hrel
    by_cases hlt : k < K
    · have hc := D4.cell k
      rw [List.getElem?_toArray, List.getElem?_map, ← HPGI.out k, repI_at hlt] at hc
      have hc : wr.cell? ⟨B + 1, k, none⟩ = some (.int .i64 0) := hc
      have hfz := D4.free k
      go_wp2_with fail
      go_roundw
      case rel =>
        refine ⟨k + 1, by omega, by go_num, D1.set_ne (by omega) _, D2.set_ne (by omega) _, D3.set_ne (by omega) _, ?_, ?_, hbw.setCell (by dsimp only; omega) _⟩
        · have h := D4.set_at k (.int .i64 (-1))
          rw [List.setIfInBounds_toArray, ← List.map_set, ← HPGI.out k, repI_succ hlt, HPGI.out] at h
          exact h
        · refine ⟨hO.f.setoff (fun e => by have := hT.f _ e; omega) _, hO.r.setoff (fun e => by have := hT.r _ e; omega) _, owns_setne hO.m (own_off hO.m D4 (by decide)) _, ⟨hO.u.1, fun i u xs hu hx => ?_, hO.u.2.2⟩, hO.ap⟩
          exact (hO.u.2.1 i u xs hu hx).setoff (fun e => by have := hT.u i u hu _ e; omega) _
      case measure => simp [intOf]; omega
    · obtain rfl : k = K := by omega
      rw [← HPGI.out k, repI_all] at D4
      have hrl : (List.replicate k (-1 : Int)).length = k := List.length_replicate ..
      obtain ⟨l, hl⟩ : ∃ l, List.replicate k (-1 : Int) = l := ⟨_, rfl⟩
      rw [hl] at D4 HADD hrl
      clear hl
      have HRL := Lib.hid hrl; clear hrl
      have O5 : OwnNum (w.heap.size + 1 + 1) wr (.slice (some ⟨B + 1, 0, none⟩) k k) l := own_enc D4 HRL.out (by omega) (by omega)
      have hr5 : Apart (.slice or1 r kr1') (.slice (some ⟨B + 1, 0, none⟩) k k) := apart_lt (B := B) (fun q hq => hT.r q hq) (fun q hq => by have e : B + 1 = q := Option.some.inj hq; omega)
      have hu5 : ∀ (j : Nat) (u' : Value), us[j]? = some u' → Apart u' (.slice (some ⟨B + 1, 0, none⟩) k k) := fun j u' hj => apart_lt (B := B) (fun q hq => hT.u j u' hj q hq) (fun q hq => by have e : B + 1 = q := Option.some.inj hq; omega)
      have hom : wr.ownsRow (w.heap.size + 1 + 1) 23 1 (.slice om1 m km1') m us := by have h := hO.m; rw [HM.out] at h; exact h
      have HOM := Lib.hid hom; clear hom
      have hbz := D4.lt
      obtain ⟨i0, hi0, iz0, iz1, iz2⟩ := info_parts info_ints
      obtain ⟨D1_c, D1_f, D1_z⟩ := D1.all
      obtain ⟨D2_c, D2_f, D2_z⟩ := D2.all
      obtain ⟨D3_c, D3_f, D3_z⟩ := D3.all
      go_wp2_with (at_builtin; (refine wpList_append_own _ rfl (.tmp 40) (.tmp 42) 24 rfl (w.heap.size + 1 + 1) 23 i0 (.slice none 0 0) 1 24 Try.underlying24 hi0 iz0 iz1 iz2 rfl (by decide) (.slice om1 m km1') m us rfl (HOM.out.alloc _) ⟨wr.heap.size, 0, none⟩ 1 1 [.slice (some ⟨B + 1, 0, none⟩) k k] rfl rfl (cells_made _ [.slice (some ⟨B + 1, 0, none⟩) k k] _ _ rfl) (one_slice _ _ _) (by unfold maxLen; omega) (by omega) (by simp only [sizes]; omega) ?_)
                   intro v6 w6 hown6 hgrow6 _
                   obtain ⟨o6, c6, rfl, hc61, hc62⟩ := own_form' hown6
                   have HO6 := (hO.alloc (.cells #[.slice (some ⟨B + 1, 0, none⟩) k k] 23)).push (l := l) (O5.alloc _) hr5 hu5 (by rw [HM.out]; exact hown6) hgrow6
                   have F1 := (D1.alloc (.cells #[.slice (some ⟨B + 1, 0, none⟩) k k] 23)).append (HOM.out.alloc _) hgrow6 (by omega)
                   have F2 := (D2.alloc (.cells #[.slice (some ⟨B + 1, 0, none⟩) k k] 23)).append (HOM.out.alloc _) hgrow6 (by omega)
                   have F3 : HasBlock w6 B #[.slice of1 n kf1', .slice or1 r kr1', .slice om1 m km1'] 26 := (hgrow6.block B (D3.alloc _).lt (fun e => own_off HOM.out D3 (by decide) e.symm)).trans (D3.alloc _)
                   have hbw6 : Below w.heap.size w w6 := below_grown (hbw.alloc hbw.size _) (HOM.out.alloc _) hgrow6 (by omega) (by simp only [sizes]; have := hbw.size; omega)
                   obtain ⟨F1_c, F1_f, F1_z⟩ := F1.all
                   obtain ⟨F2_c, F2_f, F2_z⟩ := F2.all
                   obtain ⟨F3_c, F3_f, F3_z⟩ := F3.all)
      refine bodyPost_ret (v := .tuple #[.agg #[.slice of1 n kf1', .slice or1 r kr1', .slice o6 (m + 1) c6], .bool true]) (by simp [results, Try.results23, go_sem, F2_c]) rfl ?_
      have HO7 := HO6.setbox (j := 2) F3 (by decide) (by decide) (by decide) (.slice o6 (m + 1) c6)
      replace hbw6 := hbw6.setCell (p := ⟨B, 2, none⟩) (by dsimp only; omega) (.slice o6 (m + 1) c6)
      have hbw := hbw6
      rw [HYES.out]
      exact (ret_pool2' (Q := ⟨P.F, P.R, P.M ++ [l]⟩) HN.out HR.out (by rw [List.length_append, HM.out]; rfl) HADD.out (((HO7.setlow (b := w.heap.size + 1) (j := 0) (by omega) _).setlow (b := w.heap.size + 1) (j := 1) (by omega) _).setlow (b := w.heap.size + 1) (j := 2) (by omega) _) (((hbw.setCell (p := ⟨w.heap.size + 1, 0, none⟩) (by dsimp only; omega) _).setCell (p := ⟨w.heap.size + 1, 1, none⟩) (by dsimp only; omega) _).setCell (p := ⟨w.heap.size + 1, 2, none⟩) (by dsimp only; omega) _)).row
end Go.Proofs.Ytjoopjgpjkmmhaa
