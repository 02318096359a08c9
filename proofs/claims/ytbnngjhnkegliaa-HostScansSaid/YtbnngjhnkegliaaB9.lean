/-
  Texts joined for the hand-in, in build order: HoAdd HoMade. No law is proved here.
-/
import Derived.Test.YtbnngjhnkegliaaB8
import Derived.Test.YtbnngjhnkegliaaB4
import Derived.Deep.RegionHeld3
namespace Go.Proofs.Ytbnngjhnkegliaa
open Go.RowKit

/-- What a row that grows leaves of a host's box. -/
theorem grown_all {base B bq : Nat} {w0 w1 w2 : World} {vf vr vm vg : Value} {us : List Value} {gs : List Gv} {H : Ho} {cs : Array Value} (hg : w1.grownBy w2 vg.ownBlock) (hb : Below w0.heap.size w0 w1) (hO : OwnH base w0 vf vr vm us vg gs H) (hD : HasBlock w0 B cs 31) (hz : base ≤ w0.heap.size) (hq : bq = base) : HasBlock w2 B cs 31 ∧ Below bq w0 w2 := by
  subst hq
  have hO1 := hO.below hb
  have hD1 := hD.below hb
  exact ⟨(hg.block B hD1.lt (fun e => own_off hO1.g hD1 (by decide) e.symm)).trans hD1, below_grown (hb.mono hz) hO1.g hg (Nat.le_refl _) (Nat.le_trans hz hb.size)⟩
/-- A new guest, its rows just made. -/
theorem pushN {base bS bU bE q m : Nat} {w0 w1 w2 : World} {vf vr vm vg vg' : Value} {us : List Value} {gs : List Gv} {P : Pl} {G : List Gm} {t d n : Int} {c : Clm} (hg : w1.grownBy w2 vg.ownBlock) (hO : OwnH base w0 vf vr vm us vg gs ⟨P, G, t, d, n⟩)
    (hm : G.length = m) (hown : w2.ownsRow base 57 9 vg' (m + 1) (gmFlat G gs ++ [.int .i64 c.r, .int .i64 c.l, .int .i64 c.s, .int .i64 c.p, .int .i64 c.a, .slice (some ⟨bS, 0, none⟩) q q, .slice (some ⟨bU, 0, none⟩) q q, .int .i64 0, .slice (some ⟨bE, 0, none⟩) q q]))
    (hb : Below w0.heap.size w0 w1) (hS : HasBlock w1 bS (cellsF q) 9) (hU : HasBlock w1 bU (boolArr (List.replicate q false)) 4) (hE : HasBlock w1 bE (boolArr (List.replicate q false)) 4) (h1 : w0.heap.size ≤ bS) (h2 : w0.heap.size ≤ bU) (h3 : w0.heap.size ≤ bE) (hne : bU ≠ bE) (hz : base ≤ w0.heap.size) (hq : q ≤ 1000000) :
    OwnH base w2 vf vr vm us vg' (gs ++ [⟨.slice (some ⟨bS, 0, none⟩) q q, .slice (some ⟨bU, 0, none⟩) q q, .slice (some ⟨bE, 0, none⟩) q q⟩]) ⟨P, G ++ [newG c q], t, d, n⟩ := by
  subst hm
  have hO1 := hO.below hb
  have ob : ∀ {b k : Nat}, (Value.slice (some ⟨b, 0, none⟩) q q).ownBlock = some k → b = k := fun h => Option.some.inj h
  refine hO1.pushG (B := w0.heap.size) (g := newG c q) (own_enc hS (List.length_replicate ..) hq (by omega)) (own_enc hU (List.length_replicate ..) hq (by omega)) (own_enc hE (List.length_replicate ..) hq (by omega)) ?_ (fun k hk => by rw [← ob hk]; exact h1) (fun k hk => by rw [← ob hk]; exact h2) (fun k hk => by rw [← ob hk]; exact h3) (fun k hk hk2 => hne ((ob hk).trans (ob hk2).symm)) hown hg
  exact hO.lt
set_option maxRecDepth 100000 in
set_option maxHeartbeats 8000000 in
theorem hadd_ok (v : Value) (H : Ho) (cr cl cs cp ca q0 : Int) (w : World) (ha : HoAt w v H) (hok : H.Ok) (hcb : -9223372036854775808 ≤ cp ∧ cp ≤ 9223372036854775807) : Calls Try.prog 23 #[v, .agg #[.int .i64 cr, .int .i64 cl, .int .i64 cs, .int .i64 cp, .int .i64 ca], .int .i64 q0] w (RetHoB (fun v => .tuple #[v, .int .i64 (H.addC ⟨cr, cl, cs, cp, ca⟩ q0)]) (H.addTo ⟨cr, cl, cs, cp, ca⟩ q0) w) := by
  have CL := fun v w h => hclone_ok v H w h hok
  have HV0 := fun v w h => hvalid_ok v H w h hok
  have HCL := Lib.hid CL; clear CL
  have HHS := Lib.hid HV0; clear HV0
  have hbd := hok.bounds
  obtain ⟨code, hcode⟩ : ∃ x, H.addC ⟨cr, cl, cs, cp, ca⟩ q0 = x := ⟨_, rfl⟩
  obtain ⟨HH, hHH⟩ : ∃ x, H.addTo ⟨cr, cl, cs, cp, ca⟩ q0 = x := ⟨_, rfl⟩
  rw [hcode, hHH]
  have HCODE := Lib.hid hcode; clear hcode
  have HHH := Lib.hid hHH; clear hHH
  obtain ⟨of, or', om, og, kf, kr, km, kg, rfl, kf1, kf2, kr1, kr2, km1, km2, kg1, kg2, h⟩ := ha
  obtain ⟨n, hn⟩ : ∃ n, H.P.F.length = n := ⟨_, rfl⟩
  obtain ⟨r, hr⟩ : ∃ n, H.P.R.length = n := ⟨_, rfl⟩
  obtain ⟨m, hm⟩ : ∃ n, H.P.M.length = n := ⟨_, rfl⟩
  obtain ⟨q, hq⟩ : ∃ n, H.G.length = n := ⟨_, rfl⟩
  obtain ⟨tx, htx⟩ : ∃ n, H.t = n := ⟨_, rfl⟩
  obtain ⟨dx, hdx⟩ : ∃ n, H.d = n := ⟨_, rfl⟩
  obtain ⟨sx, hsx⟩ : ∃ n, H.n = n := ⟨_, rfl⟩
  rw [hn] at h kf1 ⊢
  rw [hr] at h kr1 ⊢
  rw [hm] at h km1 ⊢
  rw [hq] at h kg1 ⊢
  rw [htx, hdx, hsx]
  have HN := Lib.hid hn; clear hn
  have HR := Lib.hid hr; clear hr
  have HM := Lib.hid hm; clear hm
  have HQ := Lib.hid hq; clear hq
  have HT := Lib.hid htx; clear htx
  have HD := Lib.hid hdx; clear hdx
  have HS := Lib.hid hsx; clear hsx
  rw [HN.out, HR.out, HM.out, HQ.out] at hbd
  have h0 := h
  have HVA : Hid (∀ w' : World, Below w.heap.size w w' → HoAt w' (.agg #[.slice of n kf, .slice or' r kr, .slice om m km, .slice og q kg, .int .i64 tx, .int .u64 dx, .int .i64 sx]) H) := Lib.hid (fun w' hb => by
    have := (h0.below hb).at_
    rwa [HT.out, HD.out, HS.out] at this)
  have H0 := Lib.hid h0
  clear h h0
  have D1 := ((HasBlock.made w #[.slice of n kf, .slice or' r kr, .slice om m km, .slice og q kg, .int .i64 tx, .int .u64 dx, .int .i64 sx] 31).alloc (.cells #[.int .i64 cr, .int .i64 cl, .int .i64 cs, .int .i64 cp, .int .i64 ca] 35)).alloc (.cells #[.slice none 0 0, .slice none 0 0, .slice none 0 0, .slice none 0 0, .int .i64 0, .int .u64 0, .int .i64 0] 31)
  have DC := (HasBlock.made (w.alloc (.cells #[.slice of n kf, .slice or' r kr, .slice om m km, .slice og q kg, .int .i64 tx, .int .u64 dx, .int .i64 sx] 31)) #[.int .i64 cr, .int .i64 cl, .int .i64 cs, .int .i64 cp, .int .i64 ca] 35).alloc (.cells #[.slice none 0 0, .slice none 0 0, .slice none 0 0, .slice none 0 0, .int .i64 0, .int .u64 0, .int .i64 0] 31)
  have D2 := HasBlock.made ((w.alloc (.cells #[.slice of n kf, .slice or' r kr, .slice om m km, .slice og q kg, .int .i64 tx, .int .u64 dx, .int .i64 sx] 31)).alloc (.cells #[.int .i64 cr, .int .i64 cl, .int .i64 cs, .int .i64 cp, .int .i64 ca] 35)) #[.slice none 0 0, .slice none 0 0, .slice none 0 0, .slice none 0 0, .int .i64 0, .int .u64 0, .int .i64 0] 31
  rw [World.size_alloc] at DC D2
  rw [World.size_alloc] at D2
  have hbw : Below w.heap.size w (((w.alloc (.cells #[.slice of n kf, .slice or' r kr, .slice om m km, .slice og q kg, .int .i64 tx, .int .u64 dx, .int .i64 sx] 31)).alloc (.cells #[.int .i64 cr, .int .i64 cl, .int .i64 cs, .int .i64 cp, .int .i64 ca] 35)).alloc (.cells #[.slice none 0 0, .slice none 0 0, .slice none 0 0, .slice none 0 0, .int .i64 0, .int .u64 0, .int .i64 0] 31)) := (by repeat (first | with_reducible exact Below.refl _ _ | with_reducible refine Below.drew ?_ | (with_reducible refine Below.alloc ?_ (by first | exact Nat.le_refl _ | omega | (dsimp only; omega) | (simp only [sizes]; omega)) _) | (with_reducible refine Below.setCell ?_ (by first | exact Nat.le_refl _ | omega | (dsimp only; omega) | (simp only [sizes]; omega)) _) | (refine Below.trans ?_ (Below.mono (by with_reducible assumption) (by first | exact Nat.le_refl _ | omega | (dsimp only; omega) | (simp only [sizes]; omega))))))
  have HOK := Lib.hid hok; clear hok
  have hz0 : w.heap.size + 1 + 1 + 1 = (((w.alloc (.cells #[.slice of n kf, .slice or' r kr, .slice om m km, .slice og q kg, .int .i64 tx, .int .u64 dx, .int .i64 sx] 31)).alloc (.cells #[.int .i64 cr, .int .i64 cl, .int .i64 cs, .int .i64 cp, .int .i64 ca] 35)).alloc (.cells #[.slice none 0 0, .slice none 0 0, .slice none 0 0, .slice none 0 0, .int .i64 0, .int .u64 0, .int .i64 0] 31)).heap.size := by simp only [sizes]
  have VC := fun w => idletax_Valid_any cr cl cs cp ca w
  obtain ⟨bv, hbv⟩ : ∃ b, validB ⟨cr, cl, cs, cp, ca⟩ = b := ⟨_, rfl⟩
  rw [hbv] at VC
  have HVC := Lib.hid VC; clear VC
  have HBV := Lib.hid hbv; clear hbv
  go_enter Try.func23, Try.ntmps23
  obtain ⟨D1_c, D1_f, D1_z⟩ := D1.all
  go_wp2_with fail
  clear D1_c D1_f D1_z
  with_reducible refine (HCL.out _ _ (HVA.out _ hbw)).mono ?_
  rintro e w1 ⟨of1, or1, om1, og1, kf1', kr1', km1', kg1', us1, gs1, rfl, O1, hb1⟩
  rw [HN.out, HR.out, HM.out, HQ.out] at O1 ⊢
  rw [HT.out, HD.out, HS.out]
  replace O1 := O1.lower (base' := w.heap.size + 1 + 1 + 1) (Nat.le_of_eq hz0)
  have hz1 := hb1.size
  rw [← hz0] at hz1
  replace D1 := D1.below hb1
  replace DC := DC.below hb1
  replace D2 := D2.below hb1
  replace hbw := hbw.trans (hb1.mono hbw.size)
  clear hb1 hz0
  obtain ⟨D1_c, D1_f, D1_z⟩ := D1.all
  go_wp2_with fail
  clear D1_c D1_f D1_z
  have hbx : Below w1.heap.size w1 (w1.alloc (.cells #[.slice of1 n kf1', .slice or1 r kr1', .slice om1 m km1', .slice og1 q kg1', .int .i64 tx, .int .u64 dx, .int .i64 sx] 31)) := (Below.refl _ _).alloc (Nat.le_refl _) _
  have DR := HasBlock.made w1 #[.slice of1 n kf1', .slice or1 r kr1', .slice om1 m km1', .slice og1 q kg1', .int .i64 tx, .int .u64 dx, .int .i64 sx] 31
  replace D1 := D1.below hbx
  replace DC := DC.below hbx
  replace D2 := D2.below hbx
  replace O1 := O1.below hbx
  replace hbw := hbw.trans (hbx.mono hbw.size)
  have hz2 := hbx.size
  clear hbx
  generalize hW : w1.alloc (.cells #[.slice of1 n kf1', .slice or1 r kr1', .slice om1 m km1', .slice og1 q kg1', .int .i64 tx, .int .u64 dx, .int .i64 sx] 31) = w2 at D1 DC D2 DR O1 hbw hz2 ⊢
  obtain ⟨B, hB⟩ : ∃ B, w1.heap.size = B := ⟨_, rfl⟩
  rw [hB] at DR hz1 hz2 ⊢
  clear hW hB
  have hBA : w.heap.size + 1 + 1 + 1 ≤ B := hz1
  have hBZ2 := DR.lt
  with_reducible refine (HHS.out _ _ (HVA.out _ hbw)).mono ?_
  rintro e w3 ⟨rfl, hb3⟩
  replace D1 := D1.below hb3
  replace DC := DC.below hb3
  replace D2 := D2.below hb3
  replace DR := DR.below hb3
  replace O1 := O1.below hb3
  replace hbw := hbw.trans (hb3.mono hbw.size)
  replace hz2 := Nat.le_trans hz2 hb3.size
  have hBZ := Nat.lt_of_lt_of_le hBZ2 hb3.size
  clear hb3 hBZ2
  have hzz : w.heap.size + 1 + 1 + 1 ≤ w3.heap.size := Nat.le_trans hBA hz2
  obtain ⟨DC_c, DC_f, DC_z⟩ := DC.all
  go_wp2_with fail
  clear DC_c DC_f DC_z
  with_reducible refine (HVC.out _).mono ?_
  rintro e w4 ⟨rfl, hb4⟩
  replace D1 := D1.below hb4
  replace DC := DC.below hb4
  replace D2 := D2.below hb4
  replace DR := DR.below hb4
  replace O1 := O1.below hb4
  replace hbw := hbw.trans (hb4.mono hbw.size)
  replace hzz := Nat.le_trans hzz hb4.size
  replace hBZ := Nat.lt_of_lt_of_le hBZ hb4.size
  clear hb4 hz2
  cases bv
  · obtain ⟨DC_c, DC_f, DC_z⟩ := DC.all
    obtain ⟨DR_c, DR_f, DR_z⟩ := DR.all
    obtain ⟨D2_c, D2_f, D2_z⟩ := D2.all
    go_wp2_with fail
    have nB : w.heap.size + 1 + 1 ≠ B := by omega
    refine bodyPost_ret (v := .tuple #[.agg #[.slice of1 n kf1', .slice or1 r kr1', .slice om1 m km1', .slice og1 q kg1', .int .i64 tx, .int .u64 dx, .int .i64 sx], .int .i64 3800]) (by simp [results, Try.results23, go_sem, D2_c]) rfl ?_
    have hcd : H.addC ⟨cr, cl, cs, cp, ca⟩ q0 = 3800 := (by unfold Ho.addC; exact if_pos (.inl HBV.out))
    have hto : HH = H := by rw [← HHH.out]; unfold Ho.addTo; rw [hcd, if_neg (by decide)]
    rw [hto, ← HCODE.out, hcd]
    exact hoRet' (k := fun v => .tuple #[v, .int .i64 3800]) (H := H) HN.out HR.out HM.out HQ.out HT.out HD.out HS.out (O1.fill7 (by omega) _ _ _ _ _ _ _) (Below.fill7 hbw (by omega) _ _ _ _ _ _ _)
  by_cases g1 : cp = 0
  rotate_left
  · have t1 : (cp == 0) = false := by rw [beq_eq_false_iff_ne]; exact g1
    obtain ⟨DC_c, DC_f, DC_z⟩ := DC.all
    obtain ⟨DR_c, DR_f, DR_z⟩ := DR.all
    obtain ⟨D2_c, D2_f, D2_z⟩ := D2.all
    go_wp2_with fail
    have nB : w.heap.size + 1 + 1 ≠ B := by omega
    refine bodyPost_ret (v := .tuple #[.agg #[.slice of1 n kf1', .slice or1 r kr1', .slice om1 m km1', .slice og1 q kg1', .int .i64 tx, .int .u64 dx, .int .i64 sx], .int .i64 3800]) (by simp [results, Try.results23, go_sem, D2_c]) rfl ?_
    have hcd : H.addC ⟨cr, cl, cs, cp, ca⟩ q0 = 3800 := (by unfold Ho.addC; exact if_pos (.inr (.inl g1)))
    have hto : HH = H := by rw [← HHH.out]; unfold Ho.addTo; rw [hcd, if_neg (by decide)]
    rw [hto, ← HCODE.out, hcd]
    exact hoRet' (k := fun v => .tuple #[v, .int .i64 3800]) (H := H) HN.out HR.out HM.out HQ.out HT.out HD.out HS.out (O1.fill7 (by omega) _ _ _ _ _ _ _) (Below.fill7 hbw (by omega) _ _ _ _ _ _ _)
  have t0 : (cp == 0) = true := by rw [beq_iff_eq]; exact g1
  by_cases g2 : q0 < 1
  · have t1 : decide (q0 < 1) = true := decide_eq_true g2
    obtain ⟨DC_c, DC_f, DC_z⟩ := DC.all
    obtain ⟨DR_c, DR_f, DR_z⟩ := DR.all
    obtain ⟨D2_c, D2_f, D2_z⟩ := D2.all
    go_wp2_with fail
    have nB : w.heap.size + 1 + 1 ≠ B := by omega
    refine bodyPost_ret (v := .tuple #[.agg #[.slice of1 n kf1', .slice or1 r kr1', .slice om1 m km1', .slice og1 q kg1', .int .i64 tx, .int .u64 dx, .int .i64 sx], .int .i64 3800]) (by simp [results, Try.results23, go_sem, D2_c]) rfl ?_
    have hcd : H.addC ⟨cr, cl, cs, cp, ca⟩ q0 = 3800 := (by unfold Ho.addC; exact if_pos (.inr (.inr (.inl g2))))
    have hto : HH = H := by rw [← HHH.out]; unfold Ho.addTo; rw [hcd, if_neg (by decide)]
    rw [hto, ← HCODE.out, hcd]
    exact hoRet' (k := fun v => .tuple #[v, .int .i64 3800]) (H := H) HN.out HR.out HM.out HQ.out HT.out HD.out HS.out (O1.fill7 (by omega) _ _ _ _ _ _ _) (Below.fill7 hbw (by omega) _ _ _ _ _ _ _)
  have t2 : decide (q0 < 1) = false := decide_eq_false g2
  by_cases g3 : 32 < q0
  · have t1 : decide (q0 > 32) = true := decide_eq_true g3
    have t1' : decide (32 < q0) = true := decide_eq_true g3
    obtain ⟨DC_c, DC_f, DC_z⟩ := DC.all
    obtain ⟨DR_c, DR_f, DR_z⟩ := DR.all
    obtain ⟨D2_c, D2_f, D2_z⟩ := D2.all
    go_wp2_with fail
    have nB : w.heap.size + 1 + 1 ≠ B := by omega
    refine bodyPost_ret (v := .tuple #[.agg #[.slice of1 n kf1', .slice or1 r kr1', .slice om1 m km1', .slice og1 q kg1', .int .i64 tx, .int .u64 dx, .int .i64 sx], .int .i64 3800]) (by simp [results, Try.results23, go_sem, D2_c]) rfl ?_
    have hcd : H.addC ⟨cr, cl, cs, cp, ca⟩ q0 = 3800 := (by unfold Ho.addC; exact if_pos (.inr (.inr (.inr g3))))
    have hto : HH = H := by rw [← HHH.out]; unfold Ho.addTo; rw [hcd, if_neg (by decide)]
    rw [hto, ← HCODE.out, hcd]
    exact hoRet' (k := fun v => .tuple #[v, .int .i64 3800]) (H := H) HN.out HR.out HM.out HQ.out HT.out HD.out HS.out (O1.fill7 (by omega) _ _ _ _ _ _ _) (Below.fill7 hbw (by omega) _ _ _ _ _ _ _)
  have t3 : decide (q0 > 32) = false := decide_eq_false g3
  have t3' : decide (32 < q0) = false := decide_eq_false g3
  have hgood : ¬ (validB ⟨cr, cl, cs, cp, ca⟩ = false ∨ cp ≠ 0 ∨ q0 < 1 ∨ 32 < q0) := by
    rintro (h | h | h | h)
    · rw [HBV.out] at h; cases h
    · exact h g1
    · exact g2 h
    · exact g3 h
  have HGD := Lib.hid hgood; clear hgood
  have HG1 := Lib.hid g1; clear g1
  by_cases g4 : 8 ≤ q
  · have t4 : decide ((q : Int) ≥ 8) = true := decide_eq_true (by omega)
    have t4' : decide ((8 : Int) ≤ (q : Int)) = true := decide_eq_true (by omega)
    obtain ⟨D1_c, D1_f, D1_z⟩ := D1.all
    obtain ⟨DC_c, DC_f, DC_z⟩ := DC.all
    obtain ⟨DR_c, DR_f, DR_z⟩ := DR.all
    obtain ⟨D2_c, D2_f, D2_z⟩ := D2.all
    go_wp2_with fail
    have nB : w.heap.size + 1 + 1 ≠ B := by omega
    refine bodyPost_ret (v := .tuple #[.agg #[.slice of1 n kf1', .slice or1 r kr1', .slice om1 m km1', .slice og1 q kg1', .int .i64 tx, .int .u64 dx, .int .i64 sx], .int .i64 3802]) (by simp [results, Try.results23, go_sem, D2_c]) rfl ?_
    have hcd : H.addC ⟨cr, cl, cs, cp, ca⟩ q0 = 3802 := (by unfold Ho.addC; rw [if_neg HGD.out, if_pos (by rw [HQ.out]; exact g4)])
    have hto : HH = H := by rw [← HHH.out]; unfold Ho.addTo; rw [hcd, if_neg (by decide)]
    rw [hto, ← HCODE.out, hcd]
    exact hoRet' (k := fun v => .tuple #[v, .int .i64 3802]) (H := H) HN.out HR.out HM.out HQ.out HT.out HD.out HS.out (O1.fill7 (by omega) _ _ _ _ _ _ _) (Below.fill7 hbw (by omega) _ _ _ _ _ _ _)
  have t4 : decide ((q : Int) ≥ 8) = false := decide_eq_false (by omega)
  have t4' : decide ((8 : Int) ≤ (q : Int)) = false := decide_eq_false (by omega)
  have hq8 : q < 8 := by omega
  have hvb := (validB_iff _).1 HBV.out
  dsimp only at hvb
  have hsum := HOK.out.sum
  rw [HQ.out] at hsum
  have HSUM := Lib.hid hsum; clear hsum
  have hcr : 1 ≤ cr ∧ cr ≤ 96 := by omega
  clear hvb
  obtain ⟨D1_c, D1_f, D1_z⟩ := D1.all
  obtain ⟨DC_c, DC_f, DC_z⟩ := DC.all
  go_wp2_with fail
  clear D1_c D1_f D1_z
  clear DC_c DC_f DC_z
  go_loopw [9, 48] (fun sv iv wr => ∃ (i : Nat) (S : Int), i ≤ q ∧ iv = .int .i64 i ∧ sv = .int .i64 S ∧ Hid (S = cr + sumR (H.G.take i)) ∧ Below w4.heap.size w4 wr) (fun _ iv _ => q - (intOf iv).toNat)
  case atStart => exact ⟨0, cr, Nat.zero_le _, rfl, rfl, Lib.hid (by unfold sumR; simp), Below.refl _ _⟩
  case round =>
    obtain ⟨i, S, hi, rfl, rfl, HSS, hbr⟩ := hrel
    have hbwr := hbw.trans (hbr.mono hbw.size)
    have hsb := HSUM.out i hi
    have hSb : 1 ≤ S ∧ S ≤ 1000 := by have := HSS.out; omega
    by_cases hlt : i < q
    · obtain ⟨g, hg⟩ := get_lt (xs := H.G) (k := i) (by rw [HQ.out]; exact hlt)
      obtain ⟨l, hl, hgo⟩ := HOK.out.page hg
      have hrb := hgo.rb
      have hst := sumR_take hg
      obtain ⟨gb, goff, so, sc, uo, uc, eo, ec, rfl, hgb, s1, s2, u1, u2, e3, e4, cs', hS, hU, hE⟩ := H0.out.guest hg
      clear hS hU hE hg hl hgo s1 u1 e3
      obtain ⟨⟨rr, cl', ss, pp, aa⟩, SS, U, hd, E⟩ := g
      dsimp only at cs' hrb hst
      have hrr : 1 ≤ rr ∧ rr ≤ 96 := by omega
      have HST := Lib.hid hst; clear hst hrb
      have c0 : wr.cell? ⟨gb, goff + i * 9, none⟩ = _ := (hbwr.cell (p := ⟨gb, goff + i * 9, none⟩) hgb).trans (cs' 0 _ rfl)
      have c1 : wr.cell? ⟨gb, goff + i * 9 + 1, none⟩ = _ := (hbwr.cell (p := ⟨gb, goff + i * 9 + 1, none⟩) hgb).trans (cs' 1 _ rfl)
      have c2 : wr.cell? ⟨gb, goff + i * 9 + 2, none⟩ = _ := (hbwr.cell (p := ⟨gb, goff + i * 9 + 2, none⟩) hgb).trans (cs' 2 _ rfl)
      have c3 : wr.cell? ⟨gb, goff + i * 9 + 3, none⟩ = _ := (hbwr.cell (p := ⟨gb, goff + i * 9 + 3, none⟩) hgb).trans (cs' 3 _ rfl)
      have c4 : wr.cell? ⟨gb, goff + i * 9 + 4, none⟩ = _ := (hbwr.cell (p := ⟨gb, goff + i * 9 + 4, none⟩) hgb).trans (cs' 4 _ rfl)
      have c5 : wr.cell? ⟨gb, goff + i * 9 + 5, none⟩ = _ := (hbwr.cell (p := ⟨gb, goff + i * 9 + 5, none⟩) hgb).trans (cs' 5 _ rfl)
      have c6 : wr.cell? ⟨gb, goff + i * 9 + 6, none⟩ = _ := (hbwr.cell (p := ⟨gb, goff + i * 9 + 6, none⟩) hgb).trans (cs' 6 _ rfl)
      have c7 : wr.cell? ⟨gb, goff + i * 9 + 7, none⟩ = _ := (hbwr.cell (p := ⟨gb, goff + i * 9 + 7, none⟩) hgb).trans (cs' 7 _ rfl)
      have c8 : wr.cell? ⟨gb, goff + i * 9 + 8, none⟩ = _ := (hbwr.cell (p := ⟨gb, goff + i * 9 + 8, none⟩) hgb).trans (cs' 8 _ rfl)
      clear cs'
      dsimp only at c0 c1 c2 c3 c4 c5 c6 c7 c8
      have i0' : (0 : Int) ≤ (i : Int) := by omega
      have iq : (i : Int) < (q : Int) := by omega
      have hgb2 : gb < wr.heap.size := by have := hbwr.size; omega
      go_wp2_with fail
      clear c0 c1 c2 c3 c4 c5 c6 c7 c8
      go_roundw
      case rel => exact ⟨i + 1, S + rr, by omega, by go_num, by go_num, Lib.hid (by rw [HST.out, HSS.out]; omega), hbr.alloc hbr.size _⟩
      case measure => simp [intOf]; omega
    · obtain rfl : q = i := by omega
      have hall : H.G.take q = H.G := by rw [← HQ.out]; exact List.take_length
      rw [hall] at HSS
      clear hall hsb hlt hi
      replace D1 := D1.below hbr
      replace DC := DC.below hbr
      replace D2 := D2.below hbr
      replace DR := DR.below hbr
      replace O1 := O1.below hbr
      replace hbw := hbwr
      replace hzz := Nat.le_trans hzz hbr.size
      replace hBZ := Nat.lt_of_lt_of_le hBZ hbr.size
      clear hbwr hbr
      by_cases g5 : (n : Int) < S
      · have t5 : decide (S > (n : Int)) = true := decide_eq_true g5
        have t5' : decide ((n : Int) < S) = true := decide_eq_true g5
        have HCO : Hid (H.addC ⟨cr, cl, cs, cp, ca⟩ q0 = 3801) := Lib.hid (by
          unfold Ho.addC
          rw [if_neg HGD.out, if_neg (by rw [HQ.out]; omega), if_pos]
          rw [HN.out, ← HSS.out]
          exact g5)
        obtain ⟨D1_c, D1_f, D1_z⟩ := D1.all
        obtain ⟨DC_c, DC_f, DC_z⟩ := DC.all
        obtain ⟨DR_c, DR_f, DR_z⟩ := DR.all
        obtain ⟨D2_c, D2_f, D2_z⟩ := D2.all
        go_wp2_with fail
        have nB : w.heap.size + 1 + 1 ≠ B := by omega
        refine bodyPost_ret (v := .tuple #[.agg #[.slice of1 n kf1', .slice or1 r kr1', .slice om1 m km1', .slice og1 q kg1', .int .i64 tx, .int .u64 dx, .int .i64 sx], .int .i64 3801]) (by simp [results, Try.results23, go_sem, D2_c]) rfl ?_
        have hcd : H.addC ⟨cr, cl, cs, cp, ca⟩ q0 = 3801 := HCO.out
        have hto : HH = H := by rw [← HHH.out]; unfold Ho.addTo; rw [hcd, if_neg (by decide)]
        rw [hto, ← HCODE.out, hcd]
        exact hoRet' (k := fun v => .tuple #[v, .int .i64 3801]) (H := H) HN.out HR.out HM.out HQ.out HT.out HD.out HS.out (O1.fill7 (by omega) _ _ _ _ _ _ _) (Below.fill7 hbw (by omega) _ _ _ _ _ _ _)
      · have t5 : decide (S > (n : Int)) = false := decide_eq_false g5
        have t5' : decide ((n : Int) < S) = false := decide_eq_false g5
        obtain ⟨qn, rfl⟩ : ∃ qn : Nat, q0 = qn := ⟨q0.toNat, by omega⟩
        have hq1 : 1 ≤ qn ∧ qn ≤ 32 := by omega
        have HCO : Hid (H.addC ⟨cr, cl, cs, cp, ca⟩ qn = 0) := Lib.hid (by
          unfold Ho.addC
          rw [if_neg HGD.out, if_neg (by rw [HQ.out]; omega), if_neg]
          rw [HN.out, ← HSS.out]
          exact g5)
        have HTO : Hid (HH = H.addG ⟨cr, cl, cs, cp, ca⟩ qn) := Lib.hid (by
          rw [← HHH.out]
          unfold Ho.addTo
          rw [HCO.out, if_pos rfl, Int.toNat_natCast])
        have PA := fun v w h => padd_own v H.P qn w h HOK.out.p.fit HOK.out.p.small
        rw [goodA_of HOK.out.p (by rw [← HOK.out.m, HQ.out]; exact hq8) hq1.1 hq1.2] at PA
        obtain ⟨P2, hP2⟩ : ∃ P, H.P.add qn = P := ⟨_, rfl⟩
        rw [hP2] at PA
        have HPA := Lib.hid PA; clear PA
        have HP2 := Lib.hid hP2; clear hP2
        clear g5 HSS hSb
        have H0B := Lib.hid (H0.out.below hbw)
        obtain ⟨D1_c, D1_f, D1_z⟩ := D1.all
        go_wp2_with fail
        clear D1_c D1_f D1_z
        with_reducible refine (HPA.out _ _ H0B.out.p).mono ?_
        rintro e w5 ⟨of5, or5, om5, kf5, kr5, km5, us5, rfl, O5, hb5⟩
        obtain ⟨n5, hgn⟩ : ∃ n, (Pl.F P2).length = n := ⟨_, rfl⟩
        obtain ⟨r5, hgr⟩ : ∃ n, (Pl.R P2).length = n := ⟨_, rfl⟩
        obtain ⟨m5, hgm⟩ : ∃ n, (Pl.M P2).length = n := ⟨_, rfl⟩
        rw [hgn, hgr, hgm] at O5 ⊢
        have HG5 := Lib.hid (And.intro hgn (And.intro hgr hgm))
        clear hgn hgr hgm
        have hltG := O1.ltG
        replace D1 := D1.below hb5
        replace DC := DC.below hb5
        replace D2 := D2.below hb5
        replace DR := DR.below hb5
        replace O1 := O1.below hb5
        replace hbw := hbw.trans (hb5.mono hbw.size)
        replace hBZ := Nat.lt_of_lt_of_le hBZ hb5.size
        have O5G := O5.ge
        replace O5 := O5.lower hzz
        replace hzz := Nat.le_trans hzz hb5.size
        clear hb5 D1
        have nB : w.heap.size + 1 + 1 ≠ B := by omega
        have nC : w.heap.size + 1 ≠ B := by omega
        have hmb := make_bools qn (by omega)
        have hms := makes_F qn (by omega)
        have DRk := DR
        have Oa := O1.newPool O5 hltG O5G
        have Ob := ((Oa.setbox (j := 0) DR hostT (.slice of5 n5 kf5)).setbox (j := 1) (DR.put7_0 (.slice of5 n5 kf5)) hostT (.slice or5 r5 kr5)).setbox (j := 2) ((DR.put7_0 (.slice of5 n5 kf5)).put7_1 (.slice or5 r5 kr5)) hostT (.slice om5 m5 km5)
        replace Ob := Ob.alloc (.cells #[.slice of5 n5 kf5, .slice or5 r5 kr5, .slice om5 m5 km5] 27)
        have DR8 := (DRk.poolIn (.slice of5 n5 kf5) (.slice or5 r5 kr5) (.slice om5 m5 km5)).alloc (.cells #[.slice of5 n5 kf5, .slice or5 r5 kr5, .slice om5 m5 km5] 27)
        have D28 := (((D2.set_ne nB (j := 0) (.slice of5 n5 kf5)).set_ne nB (j := 1) (.slice or5 r5 kr5)).set_ne nB (j := 2) (.slice om5 m5 km5)).alloc (.cells #[.slice of5 n5 kf5, .slice or5 r5 kr5, .slice om5 m5 km5] 27)
        have DC8 := (((DC.set_ne nC (j := 0) (.slice of5 n5 kf5)).set_ne nC (j := 1) (.slice or5 r5 kr5)).set_ne nC (j := 2) (.slice om5 m5 km5)).alloc (.cells #[.slice of5 n5 kf5, .slice or5 r5 kr5, .slice om5 m5 km5] 27)
        have hbw8 := (((hbw.setCell (p := ⟨B, 0, none⟩) (by dsimp only; omega) (.slice of5 n5 kf5)).setCell (p := ⟨B, 1, none⟩) (by dsimp only; omega) (.slice or5 r5 kr5)).setCell (p := ⟨B, 2, none⟩) (by dsimp only; omega) (.slice om5 m5 km5)).alloc (by simp only [sizes]; omega) (.cells #[.slice of5 n5 kf5, .slice or5 r5 kr5, .slice om5 m5 km5] 27)
        clear Oa D2 DC hltG O5 O1
        obtain ⟨DR_c, DR_f, DR_z⟩ := DR.all
        go_upto_region 18 with (fail)
        clear DR_c DR_f DR_z
        have hcp := HG1.out
        subst hcp
        clear HG1 t0
        generalize hW : ((((World.setCell w5 ⟨B, 0, none⟩ (.slice of5 n5 kf5)).setCell ⟨B, 1, none⟩ (.slice or5 r5 kr5)).setCell ⟨B, 2, none⟩ (.slice om5 m5 km5)).alloc (.cells #[.slice of5 n5 kf5, .slice or5 r5 kr5, .slice om5 m5 km5] 27)) = w8 at Ob DR8 D28 DC8 hbw8 ⊢
        clear hW DRk DR
        have hz8 : w.heap.size + 1 + 1 + 1 ≤ w8.heap.size := by have := DR8.lt; omega
        obtain ⟨i0, hi0, iz0, iz1, iz2⟩ := info_parts info_gm
        have HOW : Hid (w8.ownsRow (w.heap.size + 1 + 1 + 1) 57 9 (.slice og1 q kg1') q (gmFlat H.G gs1)) := by
          have h := Ob.g
          rw [show (H.setP P2).G.length = q from HQ.out] at h
          exact h
        have hrule : ∀ w' : World, Below (w.heap.size + 1 + 1 + 1) w8 w' → ∀ o, w'.cell? ⟨w.heap.size + 1, o, none⟩ = w8.cell? ⟨w.heap.size + 1, o, none⟩ := fun w' h o => h.cell (p := ⟨w.heap.size + 1, o, none⟩) (by dsimp only; omega)
        have hruleB : ∀ w' : World, HasBlock w' B #[.slice of5 n5 kf5, .slice or5 r5 kr5, .slice om5 m5 km5, .slice og1 q kg1', .int .i64 tx, .int .u64 dx, .int .i64 sx] 31 → ∀ o, w'.cell? ⟨B, o, none⟩ = #[.slice of5 n5 kf5, .slice or5 r5 kr5, .slice om5 m5 km5, .slice og1 q kg1', .int .i64 tx, .int .u64 dx, .int .i64 sx][o]? := fun w' h o => h.cell o
        have hruleF : ∀ w' : World, HasBlock w' B #[.slice of5 n5 kf5, .slice or5 r5 kr5, .slice om5 m5 km5, .slice og1 q kg1', .int .i64 tx, .int .u64 dx, .int .i64 sx] 31 → ∀ o, w'.frozen? ⟨B, o, none⟩ = false := fun w' h o => h.free o
        obtain ⟨DR8_c, DR8_f, DR8_z⟩ := DR8.all
        obtain ⟨DC8_c, DC8_f, DC8_z⟩ := DC8.all
        clear hruleF
        refine wp_region_lastH (S := fun w' => Below (w.heap.size + 1 + 1 + 1) w8 w' ∧ HasBlock w' B #[.slice of5 n5 kf5, .slice or5 r5 kr5, .slice om5 m5 km5, .slice og1 q kg1', .int .i64 tx, .int .u64 dx, .int .i64 sx] 31) 13 _ rfl rfl (by kernel_rfl) (by kernel_rfl) ⟨Below.mono (by (repeat (first | with_reducible assumption | with_reducible exact Below.refl _ _ | (with_reducible refine Below.drew ?_) | (with_reducible refine Below.alloc' ?_ (Nat.le_refl _) _) | (with_reducible refine Below.setCell ?_ (by first | exact rfl | exact Nat.le_refl _ | omega | (dsimp only; omega) | (simp only [sizes]; done) | (simp only [sizes]; omega)) _) | (refine Below.trans ?_ (Below.mono (by with_reducible assumption) (by first | exact rfl | exact Nat.le_refl _ | omega | (dsimp only; omega) | (simp only [sizes]; done) | (simp only [sizes]; omega))))))) hz8, by (repeat' (first | with_reducible assumption | (with_reducible refine HasBlock.drew ?_) | (with_reducible refine HasBlock.made' (by first | exact rfl | exact Nat.le_refl _ | omega | (dsimp only; omega) | (simp only [sizes]; done) | (simp only [sizes]; omega))) | (with_reducible refine HasBlock.alloc ?_ _)))⟩ (fun hHeld => ?_)
        simp only [List.take_succ_cons, List.take_zero]
        refine wpAnyH_take (i := 0) (v := ?_) rfl (by kernel_rfl) (by kernel_rfl) (by kernel_rfl) (fun _ _ _ h => h) (Or.inl ⟨by rfl, ?_⟩) (by assumption) ?_
        rotate_left
        · intro w' hSw
          (try dsimp only at hSw)
          first | (go_simp; done) | (go_simp; with_reducible rfl)
        (try simp only [List.getElem_toArray, List.getElem_cons_zero, Act.put, List.setIfInBounds_toArray, List.set_cons_zero, List.set_cons_succ])
        refine wpAnyH_take (i := 1) (v := ?_) rfl (by kernel_rfl) (by kernel_rfl) (by kernel_rfl) (fun _ _ _ h => h) (Or.inl ⟨by rfl, ?_⟩) (by assumption) ?_
        rotate_left
        · intro w' hSw
          (try dsimp only at hSw)
          first | (go_simp; done) | (go_simp; with_reducible rfl)
        (try simp only [List.getElem_toArray, List.getElem_cons_succ, List.getElem_cons_zero, Act.put, List.setIfInBounds_toArray, List.set_cons_zero, List.set_cons_succ])
        refine wpAnyH_take (i := 2) (v := ?_) rfl (by kernel_rfl) (by kernel_rfl) (by kernel_rfl) (fun _ _ _ h => h) (Or.inl ⟨by rfl, ?_⟩) (by assumption) ?_
        rotate_left
        · intro w' hSw
          (try dsimp only at hSw)
          first | (go_simp; done) | (go_simp; with_reducible rfl)
        (try simp only [List.getElem_toArray, List.getElem_cons_succ, List.getElem_cons_zero, Act.put, List.setIfInBounds_toArray, List.set_cons_zero, List.set_cons_succ])
        refine wpAnyH_take (i := 3) (v := ?_) rfl (by kernel_rfl) (by kernel_rfl) (by kernel_rfl) (fun _ _ _ h => h) (Or.inl ⟨by rfl, ?_⟩) (by assumption) ?_
        rotate_left
        · intro w' hSw
          (try dsimp only at hSw)
          first | (go_simp; done) | (go_simp; with_reducible rfl)
        (try simp only [List.getElem_toArray, List.getElem_cons_succ, List.getElem_cons_zero, Act.put, List.setIfInBounds_toArray, List.set_cons_zero, List.set_cons_succ])
        refine wpAnyH_take (i := 5) (v := ?_) rfl (by kernel_rfl) (by kernel_rfl) (by kernel_rfl) (fun _ _ _ h => h) (Or.inl ⟨by rfl, ?_⟩) (by assumption) ?_
        rotate_left
        · intro w' hSw
          (try dsimp only at hSw)
          first | (go_simp; done) | (go_simp; with_reducible rfl)
        (try simp only [List.getElem_toArray, List.getElem_cons_succ, List.getElem_cons_zero, Act.put, List.setIfInBounds_toArray, List.set_cons_zero, List.set_cons_succ])
        refine wpAnyH_take (i := 7) (v := ?_) rfl (by kernel_rfl) (by kernel_rfl) (by kernel_rfl) (fun _ _ _ h => h) (Or.inl ⟨by rfl, ?_⟩) (by assumption) ?_
        rotate_left
        · intro w' hSw
          (try dsimp only at hSw)
          first | (go_simp; done) | (go_simp; with_reducible rfl)
        (try simp only [List.getElem_toArray, List.getElem_cons_succ, List.getElem_cons_zero, Act.put, List.setIfInBounds_toArray, List.set_cons_zero, List.set_cons_succ])
        refine wpAnyH_ready (rs := [4, 6, 8]) (by kernel_rfl) (by simp) ?_
        refine AllReadyH.cons rfl (fun K hK => ?_) (AllReadyH.cons rfl (fun K hK => ?_) (AllReadyH.cons rfl (fun K hK => ?_) AllReadyH.nil))
        · go_simp
          clear hHeld
          refine hK.out _ _ ⟨Below.mono (by (repeat (first | with_reducible assumption | with_reducible exact Below.refl _ _ | (with_reducible refine Below.drew ?_) | (with_reducible refine Below.alloc' ?_ (Nat.le_refl _) _) | (with_reducible refine Below.setCell ?_ (by first | exact rfl | exact Nat.le_refl _ | omega | (dsimp only; omega) | (simp only [sizes]; done) | (simp only [sizes]; omega)) _) | (refine Below.trans ?_ (Below.mono (by with_reducible assumption) (by first | exact rfl | exact Nat.le_refl _ | omega | (dsimp only; omega) | (simp only [sizes]; done) | (simp only [sizes]; omega))))))) hz8, by (repeat' (first | with_reducible assumption | (with_reducible refine HasBlock.drew ?_) | (with_reducible refine HasBlock.made' (by first | exact rfl | exact Nat.le_refl _ | omega | (dsimp only; omega) | (simp only [sizes]; done) | (simp only [sizes]; omega))) | (with_reducible refine HasBlock.alloc ?_ _)))⟩ (fun hHeld => ?_)
          clear hK K
          (try simp only [List.getElem_toArray, List.getElem_cons_succ, List.getElem_cons_zero, Act.put, List.setIfInBounds_toArray, List.set_cons_zero, List.set_cons_succ])
          refine wpAnyH_ready (rs := [6, 8]) (by kernel_rfl) (by simp) ?_
          refine AllReadyH.cons rfl (fun K hK => ?_) (AllReadyH.cons rfl (fun K hK => ?_) AllReadyH.nil)
          · go_simp
            clear hHeld
            refine hK.out _ _ ⟨Below.mono (by (repeat (first | with_reducible assumption | with_reducible exact Below.refl _ _ | (with_reducible refine Below.drew ?_) | (with_reducible refine Below.alloc' ?_ (Nat.le_refl _) _) | (with_reducible refine Below.setCell ?_ (by first | exact rfl | exact Nat.le_refl _ | omega | (dsimp only; omega) | (simp only [sizes]; done) | (simp only [sizes]; omega)) _) | (refine Below.trans ?_ (Below.mono (by with_reducible assumption) (by first | exact rfl | exact Nat.le_refl _ | omega | (dsimp only; omega) | (simp only [sizes]; done) | (simp only [sizes]; omega))))))) hz8, by (repeat' (first | with_reducible assumption | (with_reducible refine HasBlock.drew ?_) | (with_reducible refine HasBlock.made' (by first | exact rfl | exact Nat.le_refl _ | omega | (dsimp only; omega) | (simp only [sizes]; done) | (simp only [sizes]; omega))) | (with_reducible refine HasBlock.alloc ?_ _)))⟩ (fun hHeld => ?_)
            clear hK K
            (try simp only [List.getElem_toArray, List.getElem_cons_succ, List.getElem_cons_zero, Act.put, List.setIfInBounds_toArray, List.set_cons_zero, List.set_cons_succ])
            refine wpAnyH_ready (rs := [8]) (by kernel_rfl) (by simp) ?_
            refine AllReadyH.cons rfl (fun K hK => ?_) AllReadyH.nil
            go_simp
            clear hHeld
            refine hK.out _ _ ⟨Below.mono (by (repeat (first | with_reducible assumption | with_reducible exact Below.refl _ _ | (with_reducible refine Below.drew ?_) | (with_reducible refine Below.alloc' ?_ (Nat.le_refl _) _) | (with_reducible refine Below.setCell ?_ (by first | exact rfl | exact Nat.le_refl _ | omega | (dsimp only; omega) | (simp only [sizes]; done) | (simp only [sizes]; omega)) _) | (refine Below.trans ?_ (Below.mono (by with_reducible assumption) (by first | exact rfl | exact Nat.le_refl _ | omega | (dsimp only; omega) | (simp only [sizes]; done) | (simp only [sizes]; omega))))))) hz8, by (repeat' (first | with_reducible assumption | (with_reducible refine HasBlock.drew ?_) | (with_reducible refine HasBlock.made' (by first | exact rfl | exact Nat.le_refl _ | omega | (dsimp only; omega) | (simp only [sizes]; done) | (simp only [sizes]; omega))) | (with_reducible refine HasBlock.alloc ?_ _)))⟩ (fun hHeld => ?_)
            clear hK K
            (try simp only [List.getElem_toArray, List.getElem_cons_succ, List.getElem_cons_zero, Act.put, List.setIfInBounds_toArray, List.set_cons_zero, List.set_cons_succ])
            refine wpAnyH_take (i := 9) (v := ?_) rfl (by kernel_rfl) (by kernel_rfl) (by kernel_rfl) (fun _ _ _ h => h) (Or.inl ⟨by rfl, ?_⟩) (by assumption) ?_
            rotate_left
            · intro w' hSw
              (try dsimp only at hSw)
              first | (go_simp; done) | (go_simp; with_reducible rfl)
            (try simp only [List.getElem_toArray, List.getElem_cons_succ, List.getElem_cons_zero, Act.put, List.setIfInBounds_toArray, List.set_cons_zero, List.set_cons_succ])
            refine wpAnyH_ready (rs := [10]) (by kernel_rfl) (by simp) ?_
            refine AllReadyH.cons rfl (fun K hK => ?_) AllReadyH.nil
            go_simp
            clear hHeld
            refine hK.out _ _ ⟨Below.mono (by (repeat (first | with_reducible assumption | with_reducible exact Below.refl _ _ | (with_reducible refine Below.drew ?_) | (with_reducible refine Below.alloc' ?_ (Nat.le_refl _) _) | (with_reducible refine Below.setCell ?_ (by first | exact rfl | exact Nat.le_refl _ | omega | (dsimp only; omega) | (simp only [sizes]; done) | (simp only [sizes]; omega)) _) | (refine Below.trans ?_ (Below.mono (by with_reducible assumption) (by first | exact rfl | exact Nat.le_refl _ | omega | (dsimp only; omega) | (simp only [sizes]; done) | (simp only [sizes]; omega))))))) hz8, by (repeat' (first | with_reducible assumption | (with_reducible refine HasBlock.drew ?_) | (with_reducible refine HasBlock.made' (by first | exact rfl | exact Nat.le_refl _ | omega | (dsimp only; omega) | (simp only [sizes]; done) | (simp only [sizes]; omega))) | (with_reducible refine HasBlock.alloc ?_ _)))⟩ (fun hHeld => ?_)
            clear hK K
            (try simp only [List.getElem_toArray, List.getElem_cons_succ, List.getElem_cons_zero, Act.put, List.setIfInBounds_toArray, List.set_cons_zero, List.set_cons_succ])
            refine wpAnyH_ready (rs := [11]) (by kernel_rfl) (by simp) ?_
            refine AllReadyH.cons rfl (fun K hK => ?_) AllReadyH.nil
            refine step_append_own rfl (.tmp 78) (.tmp 87) 28 rfl (w.heap.size + 1 + 1 + 1) 57 i0 (.agg #[.int .i64 0, .int .i64 0, .int .i64 0, .int .i64 0, .int .i64 0, .slice none 0 0, .slice none 0 0, .int .i64 0, .slice none 0 0]) 9 120 Try.underlying28 hi0 iz0 iz1 iz2 rfl (by decide) (.slice og1 q kg1') q (gmFlat H.G gs1) rfl (owns_below HOW.out (by (repeat (first | with_reducible assumption | with_reducible exact Below.refl _ _ | (with_reducible refine Below.drew ?_) | (with_reducible refine Below.alloc' ?_ (Nat.le_refl _) _) | (with_reducible refine Below.setCell ?_ (by first | exact rfl | exact Nat.le_refl _ | omega | (dsimp only; omega) | (simp only [sizes]; done) | (simp only [sizes]; omega)) _) | (refine Below.trans ?_ (Below.mono (by with_reducible assumption) (by first | exact rfl | exact Nat.le_refl _ | omega | (dsimp only; omega) | (simp only [sizes]; done) | (simp only [sizes]; omega)))))))) ⟨_, 0, none⟩ 1 1 [.int .i64 cr, .int .i64 cl, .int .i64 cs, .int .i64 0, .int .i64 ca, .slice _ qn qn, .slice _ qn qn, .int .i64 0, .slice _ qn qn] rfl rfl (cells_made _ _ _ _ (by first | rfl | simp only [sizes])) (one_gm _ _ _ _ _ _ _ _ _ _ _ _ _ _ _) (by unfold maxLen; omega) (by omega) (by first | exact rfl | exact Nat.le_refl _ | omega | (dsimp only; omega) | (simp only [sizes]; done) | (simp only [sizes]; omega)) ?_
            intro v6 w6 hown6 hgrow6 _
            obtain ⟨o6, c6, rfl, hc61, hc62⟩ := own_form' hown6
            obtain ⟨F3, hbX⟩ := grown_all hgrow6 (by (repeat (first | with_reducible assumption | with_reducible exact Below.refl _ _ | (with_reducible refine Below.drew ?_) | (with_reducible refine Below.alloc' ?_ (Nat.le_refl _) _) | (with_reducible refine Below.setCell ?_ (by first | exact rfl | exact Nat.le_refl _ | omega | (dsimp only; omega) | (simp only [sizes]; done) | (simp only [sizes]; omega)) _) | (refine Below.trans ?_ (Below.mono (by with_reducible assumption) (by first | exact rfl | exact Nat.le_refl _ | omega | (dsimp only; omega) | (simp only [sizes]; done) | (simp only [sizes]; omega))))))) Ob DR8 hz8 rfl
            clear hHeld
            refine hK.out _ _ ⟨hbX, F3⟩ (fun hHeld => ?_)
            clear hK K
            (try simp only [List.getElem_toArray, List.getElem_cons_succ, List.getElem_cons_zero, Act.put, List.setIfInBounds_toArray, List.set_cons_zero, List.set_cons_succ])
            refine wpAnyH_take (i := 12) (v := ?_) rfl (by kernel_rfl) (by kernel_rfl) (by kernel_rfl) (fun _ _ _ h => h) (Or.inl ⟨by rfl, ?_⟩) (by assumption) ?_
            rotate_left
            · intro w' hSw
              (try dsimp only at hSw)
              first | (go_simp; done) | (go_simp; with_reducible rfl)
            (try simp only [List.getElem_toArray, List.getElem_cons_succ, List.getElem_cons_zero, Act.put, List.setIfInBounds_toArray, List.set_cons_zero, List.set_cons_succ])
            refine wpAnyH_done (by kernel_rfl) ?_ _
            change wpList _ _ _ _ _ _
            clear hHeld hrule hruleB DR8_c DR8_f DR8_z DC8_c DC8_f DC8_z
            have F2 := D28.under hbX (by omega)
            have HO6 := pushN (c := ⟨cr, cl, cs, 0, ca⟩) hgrow6 Ob HQ.out hown6 (by (repeat (first | with_reducible assumption | with_reducible exact Below.refl _ _ | (with_reducible refine Below.drew ?_) | (with_reducible refine Below.alloc' ?_ (Nat.le_refl _) _) | (with_reducible refine Below.setCell ?_ (by first | exact rfl | exact Nat.le_refl _ | omega | (dsimp only; omega) | (simp only [sizes]; done) | (simp only [sizes]; omega)) _) | (refine Below.trans ?_ (Below.mono (by with_reducible assumption) (by first | exact rfl | exact Nat.le_refl _ | omega | (dsimp only; omega) | (simp only [sizes]; done) | (simp only [sizes]; omega))))))) (by (repeat' (first | with_reducible assumption | (with_reducible refine HasBlock.drew ?_) | (with_reducible refine HasBlock.made' (by first | exact rfl | exact Nat.le_refl _ | omega | (dsimp only; omega) | (simp only [sizes]; done) | (simp only [sizes]; omega))) | (with_reducible refine HasBlock.alloc ?_ _)))) (by (repeat' (first | with_reducible assumption | (with_reducible refine HasBlock.drew ?_) | (with_reducible refine HasBlock.made' (by first | exact rfl | exact Nat.le_refl _ | omega | (dsimp only; omega) | (simp only [sizes]; done) | (simp only [sizes]; omega))) | (with_reducible refine HasBlock.alloc ?_ _)))) (by (repeat' (first | with_reducible assumption | (with_reducible refine HasBlock.drew ?_) | (with_reducible refine HasBlock.made' (by first | exact rfl | exact Nat.le_refl _ | omega | (dsimp only; omega) | (simp only [sizes]; done) | (simp only [sizes]; omega))) | (with_reducible refine HasBlock.alloc ?_ _)))) (by omega) (by omega) (by omega) (by omega) hz8 (by omega)
            have F3k := F3
            obtain ⟨F3_c, F3_f, F3_z⟩ := F3.all
            obtain ⟨F2_c, F2_f, F2_z⟩ := F2.all
            go_wp2_with fail
            refine bodyPost_ret (v := .tuple #[.agg #[.slice of5 n5 kf5, .slice or5 r5 kr5, .slice om5 m5 km5, .slice o6 (q + 1) c6, .int .i64 tx, .int .u64 dx, .int .i64 sx], .int .i64 0]) (by simp [results, Try.results23, go_sem, F2_c]) rfl ?_
            have hAG : H.addG ⟨cr, cl, cs, 0, ca⟩ qn = ⟨P2, H.G ++ [newG ⟨cr, cl, cs, 0, ca⟩ qn], H.t, H.d, H.n⟩ := by unfold Ho.addG; rw [HP2.out]
            rw [HTO.out, ← HCODE.out, HCO.out, hAG]
            exact hoRet' (k := fun v => .tuple #[v, .int .i64 0]) (H := ⟨P2, H.G ++ [newG ⟨cr, cl, cs, 0, ca⟩ qn], H.t, H.d, H.n⟩) HG5.out.1 HG5.out.2.1 HG5.out.2.2 (by show (H.G ++ [_]).length = _; rw [List.length_append, HQ.out]; rfl) HT.out HD.out HS.out ((HO6.setbox (j := 3) F3k hostT (.slice o6 (q + 1) c6)).fill7 (by omega) _ _ _ _ _ _ _) (Below.fill7 ((hbw8.trans (hbX.mono (by omega))).setCell (p := ⟨B, 3, none⟩) (by dsimp only; omega) _) (by omega) _ _ _ _ _ _ _)
          · go_simp
            clear hHeld
            refine hK.out _ _ ⟨Below.mono (by (repeat (first | with_reducible assumption | with_reducible exact Below.refl _ _ | (with_reducible refine Below.drew ?_) | (with_reducible refine Below.alloc' ?_ (Nat.le_refl _) _) | (with_reducible refine Below.setCell ?_ (by first | exact rfl | exact Nat.le_refl _ | omega | (dsimp only; omega) | (simp only [sizes]; done) | (simp only [sizes]; omega)) _) | (refine Below.trans ?_ (Below.mono (by with_reducible assumption) (by first | exact rfl | exact Nat.le_refl _ | omega | (dsimp only; omega) | (simp only [sizes]; done) | (simp only [sizes]; omega))))))) hz8, by (repeat' (first | with_reducible assumption | (with_reducible refine HasBlock.drew ?_) | (with_reducible refine HasBlock.made' (by first | exact rfl | exact Nat.le_refl _ | omega | (dsimp only; omega) | (simp only [sizes]; done) | (simp only [sizes]; omega))) | (with_reducible refine HasBlock.alloc ?_ _)))⟩ (fun hHeld => ?_)
            clear hK K
            (try simp only [List.getElem_toArray, List.getElem_cons_succ, List.getElem_cons_zero, Act.put, List.setIfInBounds_toArray, List.set_cons_zero, List.set_cons_succ])
            refine wpAnyH_ready (rs := [6]) (by kernel_rfl) (by simp) ?_
            refine AllReadyH.cons rfl (fun K hK => ?_) AllReadyH.nil
            go_simp
            clear hHeld
            refine hK.out _ _ ⟨Below.mono (by (repeat (first | with_reducible assumption | with_reducible exact Below.refl _ _ | (with_reducible refine Below.drew ?_) | (with_reducible refine Below.alloc' ?_ (Nat.le_refl _) _) | (with_reducible refine Below.setCell ?_ (by first | exact rfl | exact Nat.le_refl _ | omega | (dsimp only; omega) | (simp only [sizes]; done) | (simp only [sizes]; omega)) _) | (refine Below.trans ?_ (Below.mono (by with_reducible assumption) (by first | exact rfl | exact Nat.le_refl _ | omega | (dsimp only; omega) | (simp only [sizes]; done) | (simp only [sizes]; omega))))))) hz8, by (repeat' (first | with_reducible assumption | (with_reducible refine HasBlock.drew ?_) | (with_reducible refine HasBlock.made' (by first | exact rfl | exact Nat.le_refl _ | omega | (dsimp only; omega) | (simp only [sizes]; done) | (simp only [sizes]; omega))) | (with_reducible refine HasBlock.alloc ?_ _)))⟩ (fun hHeld => ?_)
            clear hK K
            (try simp only [List.getElem_toArray, List.getElem_cons_succ, List.getElem_cons_zero, Act.put, List.setIfInBounds_toArray, List.set_cons_zero, List.set_cons_succ])
            refine wpAnyH_take (i := 9) (v := ?_) rfl (by kernel_rfl) (by kernel_rfl) (by kernel_rfl) (fun _ _ _ h => h) (Or.inl ⟨by rfl, ?_⟩) (by assumption) ?_
            rotate_left
            · intro w' hSw
              (try dsimp only at hSw)
              first | (go_simp; done) | (go_simp; with_reducible rfl)
            (try simp only [List.getElem_toArray, List.getElem_cons_succ, List.getElem_cons_zero, Act.put, List.setIfInBounds_toArray, List.set_cons_zero, List.set_cons_succ])
            refine wpAnyH_ready (rs := [10]) (by kernel_rfl) (by simp) ?_
            refine AllReadyH.cons rfl (fun K hK => ?_) AllReadyH.nil
            go_simp
            clear hHeld
            refine hK.out _ _ ⟨Below.mono (by (repeat (first | with_reducible assumption | with_reducible exact Below.refl _ _ | (with_reducible refine Below.drew ?_) | (with_reducible refine Below.alloc' ?_ (Nat.le_refl _) _) | (with_reducible refine Below.setCell ?_ (by first | exact rfl | exact Nat.le_refl _ | omega | (dsimp only; omega) | (simp only [sizes]; done) | (simp only [sizes]; omega)) _) | (refine Below.trans ?_ (Below.mono (by with_reducible assumption) (by first | exact rfl | exact Nat.le_refl _ | omega | (dsimp only; omega) | (simp only [sizes]; done) | (simp only [sizes]; omega))))))) hz8, by (repeat' (first | with_reducible assumption | (with_reducible refine HasBlock.drew ?_) | (with_reducible refine HasBlock.made' (by first | exact rfl | exact Nat.le_refl _ | omega | (dsimp only; omega) | (simp only [sizes]; done) | (simp only [sizes]; omega))) | (with_reducible refine HasBlock.alloc ?_ _)))⟩ (fun hHeld => ?_)
            clear hK K
            (try simp only [List.getElem_toArray, List.getElem_cons_succ, List.getElem_cons_zero, Act.put, List.setIfInBounds_toArray, List.set_cons_zero, List.set_cons_succ])
            refine wpAnyH_ready (rs := [11]) (by kernel_rfl) (by simp) ?_
            refine AllReadyH.cons rfl (fun K hK => ?_) AllReadyH.nil
            refine step_append_own rfl (.tmp 78) (.tmp 87) 28 rfl (w.heap.size + 1 + 1 + 1) 57 i0 (.agg #[.int .i64 0, .int .i64 0, .int .i64 0, .int .i64 0, .int .i64 0, .slice none 0 0, .slice none 0 0, .int .i64 0, .slice none 0 0]) 9 120 Try.underlying28 hi0 iz0 iz1 iz2 rfl (by decide) (.slice og1 q kg1') q (gmFlat H.G gs1) rfl (owns_below HOW.out (by (repeat (first | with_reducible assumption | with_reducible exact Below.refl _ _ | (with_reducible refine Below.drew ?_) | (with_reducible refine Below.alloc' ?_ (Nat.le_refl _) _) | (with_reducible refine Below.setCell ?_ (by first | exact rfl | exact Nat.le_refl _ | omega | (dsimp only; omega) | (simp only [sizes]; done) | (simp only [sizes]; omega)) _) | (refine Below.trans ?_ (Below.mono (by with_reducible assumption) (by first | exact rfl | exact Nat.le_refl _ | omega | (dsimp only; omega) | (simp only [sizes]; done) | (simp only [sizes]; omega)))))))) ⟨_, 0, none⟩ 1 1 [.int .i64 cr, .int .i64 cl, .int .i64 cs, .int .i64 0, .int .i64 ca, .slice _ qn qn, .slice _ qn qn, .int .i64 0, .slice _ qn qn] rfl rfl (cells_made _ _ _ _ (by first | rfl | simp only [sizes])) (one_gm _ _ _ _ _ _ _ _ _ _ _ _ _ _ _) (by unfold maxLen; omega) (by omega) (by first | exact rfl | exact Nat.le_refl _ | omega | (dsimp only; omega) | (simp only [sizes]; done) | (simp only [sizes]; omega)) ?_
            intro v6 w6 hown6 hgrow6 _
            obtain ⟨o6, c6, rfl, hc61, hc62⟩ := own_form' hown6
            obtain ⟨F3, hbX⟩ := grown_all hgrow6 (by (repeat (first | with_reducible assumption | with_reducible exact Below.refl _ _ | (with_reducible refine Below.drew ?_) | (with_reducible refine Below.alloc' ?_ (Nat.le_refl _) _) | (with_reducible refine Below.setCell ?_ (by first | exact rfl | exact Nat.le_refl _ | omega | (dsimp only; omega) | (simp only [sizes]; done) | (simp only [sizes]; omega)) _) | (refine Below.trans ?_ (Below.mono (by with_reducible assumption) (by first | exact rfl | exact Nat.le_refl _ | omega | (dsimp only; omega) | (simp only [sizes]; done) | (simp only [sizes]; omega))))))) Ob DR8 hz8 rfl
            clear hHeld
            refine hK.out _ _ ⟨hbX, F3⟩ (fun hHeld => ?_)
            clear hK K
            (try simp only [List.getElem_toArray, List.getElem_cons_succ, List.getElem_cons_zero, Act.put, List.setIfInBounds_toArray, List.set_cons_zero, List.set_cons_succ])
            refine wpAnyH_take (i := 12) (v := ?_) rfl (by kernel_rfl) (by kernel_rfl) (by kernel_rfl) (fun _ _ _ h => h) (Or.inl ⟨by rfl, ?_⟩) (by assumption) ?_
            rotate_left
            · intro w' hSw
              (try dsimp only at hSw)
              first | (go_simp; done) | (go_simp; with_reducible rfl)
            (try simp only [List.getElem_toArray, List.getElem_cons_succ, List.getElem_cons_zero, Act.put, List.setIfInBounds_toArray, List.set_cons_zero, List.set_cons_succ])
            refine wpAnyH_done (by kernel_rfl) ?_ _
            change wpList _ _ _ _ _ _
            clear hHeld hrule hruleB DR8_c DR8_f DR8_z DC8_c DC8_f DC8_z
            have F2 := D28.under hbX (by omega)
            have HO6 := pushN (c := ⟨cr, cl, cs, 0, ca⟩) hgrow6 Ob HQ.out hown6 (by (repeat (first | with_reducible assumption | with_reducible exact Below.refl _ _ | (with_reducible refine Below.drew ?_) | (with_reducible refine Below.alloc' ?_ (Nat.le_refl _) _) | (with_reducible refine Below.setCell ?_ (by first | exact rfl | exact Nat.le_refl _ | omega | (dsimp only; omega) | (simp only [sizes]; done) | (simp only [sizes]; omega)) _) | (refine Below.trans ?_ (Below.mono (by with_reducible assumption) (by first | exact rfl | exact Nat.le_refl _ | omega | (dsimp only; omega) | (simp only [sizes]; done) | (simp only [sizes]; omega))))))) (by (repeat' (first | with_reducible assumption | (with_reducible refine HasBlock.drew ?_) | (with_reducible refine HasBlock.made' (by first | exact rfl | exact Nat.le_refl _ | omega | (dsimp only; omega) | (simp only [sizes]; done) | (simp only [sizes]; omega))) | (with_reducible refine HasBlock.alloc ?_ _)))) (by (repeat' (first | with_reducible assumption | (with_reducible refine HasBlock.drew ?_) | (with_reducible refine HasBlock.made' (by first | exact rfl | exact Nat.le_refl _ | omega | (dsimp only; omega) | (simp only [sizes]; done) | (simp only [sizes]; omega))) | (with_reducible refine HasBlock.alloc ?_ _)))) (by (repeat' (first | with_reducible assumption | (with_reducible refine HasBlock.drew ?_) | (with_reducible refine HasBlock.made' (by first | exact rfl | exact Nat.le_refl _ | omega | (dsimp only; omega) | (simp only [sizes]; done) | (simp only [sizes]; omega))) | (with_reducible refine HasBlock.alloc ?_ _)))) (by omega) (by omega) (by omega) (by omega) hz8 (by omega)
            have F3k := F3
            obtain ⟨F3_c, F3_f, F3_z⟩ := F3.all
            obtain ⟨F2_c, F2_f, F2_z⟩ := F2.all
            go_wp2_with fail
            refine bodyPost_ret (v := .tuple #[.agg #[.slice of5 n5 kf5, .slice or5 r5 kr5, .slice om5 m5 km5, .slice o6 (q + 1) c6, .int .i64 tx, .int .u64 dx, .int .i64 sx], .int .i64 0]) (by simp [results, Try.results23, go_sem, F2_c]) rfl ?_
            have hAG : H.addG ⟨cr, cl, cs, 0, ca⟩ qn = ⟨P2, H.G ++ [newG ⟨cr, cl, cs, 0, ca⟩ qn], H.t, H.d, H.n⟩ := by unfold Ho.addG; rw [HP2.out]
            rw [HTO.out, ← HCODE.out, HCO.out, hAG]
            exact hoRet' (k := fun v => .tuple #[v, .int .i64 0]) (H := ⟨P2, H.G ++ [newG ⟨cr, cl, cs, 0, ca⟩ qn], H.t, H.d, H.n⟩) HG5.out.1 HG5.out.2.1 HG5.out.2.2 (by show (H.G ++ [_]).length = _; rw [List.length_append, HQ.out]; rfl) HT.out HD.out HS.out ((HO6.setbox (j := 3) F3k hostT (.slice o6 (q + 1) c6)).fill7 (by omega) _ _ _ _ _ _ _) (Below.fill7 ((hbw8.trans (hbX.mono (by omega))).setCell (p := ⟨B, 3, none⟩) (by dsimp only; omega) _) (by omega) _ _ _ _ _ _ _)
        · go_simp
          clear hHeld
          refine hK.out _ _ ⟨Below.mono (by (repeat (first | with_reducible assumption | with_reducible exact Below.refl _ _ | (with_reducible refine Below.drew ?_) | (with_reducible refine Below.alloc' ?_ (Nat.le_refl _) _) | (with_reducible refine Below.setCell ?_ (by first | exact rfl | exact Nat.le_refl _ | omega | (dsimp only; omega) | (simp only [sizes]; done) | (simp only [sizes]; omega)) _) | (refine Below.trans ?_ (Below.mono (by with_reducible assumption) (by first | exact rfl | exact Nat.le_refl _ | omega | (dsimp only; omega) | (simp only [sizes]; done) | (simp only [sizes]; omega))))))) hz8, by (repeat' (first | with_reducible assumption | (with_reducible refine HasBlock.drew ?_) | (with_reducible refine HasBlock.made' (by first | exact rfl | exact Nat.le_refl _ | omega | (dsimp only; omega) | (simp only [sizes]; done) | (simp only [sizes]; omega))) | (with_reducible refine HasBlock.alloc ?_ _)))⟩ (fun hHeld => ?_)
          clear hK K
          (try simp only [List.getElem_toArray, List.getElem_cons_succ, List.getElem_cons_zero, Act.put, List.setIfInBounds_toArray, List.set_cons_zero, List.set_cons_succ])
          refine wpAnyH_ready (rs := [4, 8]) (by kernel_rfl) (by simp) ?_
          refine AllReadyH.cons rfl (fun K hK => ?_) (AllReadyH.cons rfl (fun K hK => ?_) AllReadyH.nil)
          · go_simp
            clear hHeld
            refine hK.out _ _ ⟨Below.mono (by (repeat (first | with_reducible assumption | with_reducible exact Below.refl _ _ | (with_reducible refine Below.drew ?_) | (with_reducible refine Below.alloc' ?_ (Nat.le_refl _) _) | (with_reducible refine Below.setCell ?_ (by first | exact rfl | exact Nat.le_refl _ | omega | (dsimp only; omega) | (simp only [sizes]; done) | (simp only [sizes]; omega)) _) | (refine Below.trans ?_ (Below.mono (by with_reducible assumption) (by first | exact rfl | exact Nat.le_refl _ | omega | (dsimp only; omega) | (simp only [sizes]; done) | (simp only [sizes]; omega))))))) hz8, by (repeat' (first | with_reducible assumption | (with_reducible refine HasBlock.drew ?_) | (with_reducible refine HasBlock.made' (by first | exact rfl | exact Nat.le_refl _ | omega | (dsimp only; omega) | (simp only [sizes]; done) | (simp only [sizes]; omega))) | (with_reducible refine HasBlock.alloc ?_ _)))⟩ (fun hHeld => ?_)
            clear hK K
            (try simp only [List.getElem_toArray, List.getElem_cons_succ, List.getElem_cons_zero, Act.put, List.setIfInBounds_toArray, List.set_cons_zero, List.set_cons_succ])
            refine wpAnyH_ready (rs := [8]) (by kernel_rfl) (by simp) ?_
            refine AllReadyH.cons rfl (fun K hK => ?_) AllReadyH.nil
            go_simp
            clear hHeld
            refine hK.out _ _ ⟨Below.mono (by (repeat (first | with_reducible assumption | with_reducible exact Below.refl _ _ | (with_reducible refine Below.drew ?_) | (with_reducible refine Below.alloc' ?_ (Nat.le_refl _) _) | (with_reducible refine Below.setCell ?_ (by first | exact rfl | exact Nat.le_refl _ | omega | (dsimp only; omega) | (simp only [sizes]; done) | (simp only [sizes]; omega)) _) | (refine Below.trans ?_ (Below.mono (by with_reducible assumption) (by first | exact rfl | exact Nat.le_refl _ | omega | (dsimp only; omega) | (simp only [sizes]; done) | (simp only [sizes]; omega))))))) hz8, by (repeat' (first | with_reducible assumption | (with_reducible refine HasBlock.drew ?_) | (with_reducible refine HasBlock.made' (by first | exact rfl | exact Nat.le_refl _ | omega | (dsimp only; omega) | (simp only [sizes]; done) | (simp only [sizes]; omega))) | (with_reducible refine HasBlock.alloc ?_ _)))⟩ (fun hHeld => ?_)
            clear hK K
            (try simp only [List.getElem_toArray, List.getElem_cons_succ, List.getElem_cons_zero, Act.put, List.setIfInBounds_toArray, List.set_cons_zero, List.set_cons_succ])
            refine wpAnyH_take (i := 9) (v := ?_) rfl (by kernel_rfl) (by kernel_rfl) (by kernel_rfl) (fun _ _ _ h => h) (Or.inl ⟨by rfl, ?_⟩) (by assumption) ?_
            rotate_left
            · intro w' hSw
              (try dsimp only at hSw)
              first | (go_simp; done) | (go_simp; with_reducible rfl)
            (try simp only [List.getElem_toArray, List.getElem_cons_succ, List.getElem_cons_zero, Act.put, List.setIfInBounds_toArray, List.set_cons_zero, List.set_cons_succ])
            refine wpAnyH_ready (rs := [10]) (by kernel_rfl) (by simp) ?_
            refine AllReadyH.cons rfl (fun K hK => ?_) AllReadyH.nil
            go_simp
            clear hHeld
            refine hK.out _ _ ⟨Below.mono (by (repeat (first | with_reducible assumption | with_reducible exact Below.refl _ _ | (with_reducible refine Below.drew ?_) | (with_reducible refine Below.alloc' ?_ (Nat.le_refl _) _) | (with_reducible refine Below.setCell ?_ (by first | exact rfl | exact Nat.le_refl _ | omega | (dsimp only; omega) | (simp only [sizes]; done) | (simp only [sizes]; omega)) _) | (refine Below.trans ?_ (Below.mono (by with_reducible assumption) (by first | exact rfl | exact Nat.le_refl _ | omega | (dsimp only; omega) | (simp only [sizes]; done) | (simp only [sizes]; omega))))))) hz8, by (repeat' (first | with_reducible assumption | (with_reducible refine HasBlock.drew ?_) | (with_reducible refine HasBlock.made' (by first | exact rfl | exact Nat.le_refl _ | omega | (dsimp only; omega) | (simp only [sizes]; done) | (simp only [sizes]; omega))) | (with_reducible refine HasBlock.alloc ?_ _)))⟩ (fun hHeld => ?_)
            clear hK K
            (try simp only [List.getElem_toArray, List.getElem_cons_succ, List.getElem_cons_zero, Act.put, List.setIfInBounds_toArray, List.set_cons_zero, List.set_cons_succ])
            refine wpAnyH_ready (rs := [11]) (by kernel_rfl) (by simp) ?_
            refine AllReadyH.cons rfl (fun K hK => ?_) AllReadyH.nil
            refine step_append_own rfl (.tmp 78) (.tmp 87) 28 rfl (w.heap.size + 1 + 1 + 1) 57 i0 (.agg #[.int .i64 0, .int .i64 0, .int .i64 0, .int .i64 0, .int .i64 0, .slice none 0 0, .slice none 0 0, .int .i64 0, .slice none 0 0]) 9 120 Try.underlying28 hi0 iz0 iz1 iz2 rfl (by decide) (.slice og1 q kg1') q (gmFlat H.G gs1) rfl (owns_below HOW.out (by (repeat (first | with_reducible assumption | with_reducible exact Below.refl _ _ | (with_reducible refine Below.drew ?_) | (with_reducible refine Below.alloc' ?_ (Nat.le_refl _) _) | (with_reducible refine Below.setCell ?_ (by first | exact rfl | exact Nat.le_refl _ | omega | (dsimp only; omega) | (simp only [sizes]; done) | (simp only [sizes]; omega)) _) | (refine Below.trans ?_ (Below.mono (by with_reducible assumption) (by first | exact rfl | exact Nat.le_refl _ | omega | (dsimp only; omega) | (simp only [sizes]; done) | (simp only [sizes]; omega)))))))) ⟨_, 0, none⟩ 1 1 [.int .i64 cr, .int .i64 cl, .int .i64 cs, .int .i64 0, .int .i64 ca, .slice _ qn qn, .slice _ qn qn, .int .i64 0, .slice _ qn qn] rfl rfl (cells_made _ _ _ _ (by first | rfl | simp only [sizes])) (one_gm _ _ _ _ _ _ _ _ _ _ _ _ _ _ _) (by unfold maxLen; omega) (by omega) (by first | exact rfl | exact Nat.le_refl _ | omega | (dsimp only; omega) | (simp only [sizes]; done) | (simp only [sizes]; omega)) ?_
            intro v6 w6 hown6 hgrow6 _
            obtain ⟨o6, c6, rfl, hc61, hc62⟩ := own_form' hown6
            obtain ⟨F3, hbX⟩ := grown_all hgrow6 (by (repeat (first | with_reducible assumption | with_reducible exact Below.refl _ _ | (with_reducible refine Below.drew ?_) | (with_reducible refine Below.alloc' ?_ (Nat.le_refl _) _) | (with_reducible refine Below.setCell ?_ (by first | exact rfl | exact Nat.le_refl _ | omega | (dsimp only; omega) | (simp only [sizes]; done) | (simp only [sizes]; omega)) _) | (refine Below.trans ?_ (Below.mono (by with_reducible assumption) (by first | exact rfl | exact Nat.le_refl _ | omega | (dsimp only; omega) | (simp only [sizes]; done) | (simp only [sizes]; omega))))))) Ob DR8 hz8 rfl
            clear hHeld
            refine hK.out _ _ ⟨hbX, F3⟩ (fun hHeld => ?_)
            clear hK K
            (try simp only [List.getElem_toArray, List.getElem_cons_succ, List.getElem_cons_zero, Act.put, List.setIfInBounds_toArray, List.set_cons_zero, List.set_cons_succ])
            refine wpAnyH_take (i := 12) (v := ?_) rfl (by kernel_rfl) (by kernel_rfl) (by kernel_rfl) (fun _ _ _ h => h) (Or.inl ⟨by rfl, ?_⟩) (by assumption) ?_
            rotate_left
            · intro w' hSw
              (try dsimp only at hSw)
              first | (go_simp; done) | (go_simp; with_reducible rfl)
            (try simp only [List.getElem_toArray, List.getElem_cons_succ, List.getElem_cons_zero, Act.put, List.setIfInBounds_toArray, List.set_cons_zero, List.set_cons_succ])
            refine wpAnyH_done (by kernel_rfl) ?_ _
            change wpList _ _ _ _ _ _
            clear hHeld hrule hruleB DR8_c DR8_f DR8_z DC8_c DC8_f DC8_z
            have F2 := D28.under hbX (by omega)
            have HO6 := pushN (c := ⟨cr, cl, cs, 0, ca⟩) hgrow6 Ob HQ.out hown6 (by (repeat (first | with_reducible assumption | with_reducible exact Below.refl _ _ | (with_reducible refine Below.drew ?_) | (with_reducible refine Below.alloc' ?_ (Nat.le_refl _) _) | (with_reducible refine Below.setCell ?_ (by first | exact rfl | exact Nat.le_refl _ | omega | (dsimp only; omega) | (simp only [sizes]; done) | (simp only [sizes]; omega)) _) | (refine Below.trans ?_ (Below.mono (by with_reducible assumption) (by first | exact rfl | exact Nat.le_refl _ | omega | (dsimp only; omega) | (simp only [sizes]; done) | (simp only [sizes]; omega))))))) (by (repeat' (first | with_reducible assumption | (with_reducible refine HasBlock.drew ?_) | (with_reducible refine HasBlock.made' (by first | exact rfl | exact Nat.le_refl _ | omega | (dsimp only; omega) | (simp only [sizes]; done) | (simp only [sizes]; omega))) | (with_reducible refine HasBlock.alloc ?_ _)))) (by (repeat' (first | with_reducible assumption | (with_reducible refine HasBlock.drew ?_) | (with_reducible refine HasBlock.made' (by first | exact rfl | exact Nat.le_refl _ | omega | (dsimp only; omega) | (simp only [sizes]; done) | (simp only [sizes]; omega))) | (with_reducible refine HasBlock.alloc ?_ _)))) (by (repeat' (first | with_reducible assumption | (with_reducible refine HasBlock.drew ?_) | (with_reducible refine HasBlock.made' (by first | exact rfl | exact Nat.le_refl _ | omega | (dsimp only; omega) | (simp only [sizes]; done) | (simp only [sizes]; omega))) | (with_reducible refine HasBlock.alloc ?_ _)))) (by omega) (by omega) (by omega) (by omega) hz8 (by omega)
            have F3k := F3
            obtain ⟨F3_c, F3_f, F3_z⟩ := F3.all
            obtain ⟨F2_c, F2_f, F2_z⟩ := F2.all
            go_wp2_with fail
            refine bodyPost_ret (v := .tuple #[.agg #[.slice of5 n5 kf5, .slice or5 r5 kr5, .slice om5 m5 km5, .slice o6 (q + 1) c6, .int .i64 tx, .int .u64 dx, .int .i64 sx], .int .i64 0]) (by simp [results, Try.results23, go_sem, F2_c]) rfl ?_
            have hAG : H.addG ⟨cr, cl, cs, 0, ca⟩ qn = ⟨P2, H.G ++ [newG ⟨cr, cl, cs, 0, ca⟩ qn], H.t, H.d, H.n⟩ := by unfold Ho.addG; rw [HP2.out]
            rw [HTO.out, ← HCODE.out, HCO.out, hAG]
            exact hoRet' (k := fun v => .tuple #[v, .int .i64 0]) (H := ⟨P2, H.G ++ [newG ⟨cr, cl, cs, 0, ca⟩ qn], H.t, H.d, H.n⟩) HG5.out.1 HG5.out.2.1 HG5.out.2.2 (by show (H.G ++ [_]).length = _; rw [List.length_append, HQ.out]; rfl) HT.out HD.out HS.out ((HO6.setbox (j := 3) F3k hostT (.slice o6 (q + 1) c6)).fill7 (by omega) _ _ _ _ _ _ _) (Below.fill7 ((hbw8.trans (hbX.mono (by omega))).setCell (p := ⟨B, 3, none⟩) (by dsimp only; omega) _) (by omega) _ _ _ _ _ _ _)
          · go_simp
            clear hHeld
            refine hK.out _ _ ⟨Below.mono (by (repeat (first | with_reducible assumption | with_reducible exact Below.refl _ _ | (with_reducible refine Below.drew ?_) | (with_reducible refine Below.alloc' ?_ (Nat.le_refl _) _) | (with_reducible refine Below.setCell ?_ (by first | exact rfl | exact Nat.le_refl _ | omega | (dsimp only; omega) | (simp only [sizes]; done) | (simp only [sizes]; omega)) _) | (refine Below.trans ?_ (Below.mono (by with_reducible assumption) (by first | exact rfl | exact Nat.le_refl _ | omega | (dsimp only; omega) | (simp only [sizes]; done) | (simp only [sizes]; omega))))))) hz8, by (repeat' (first | with_reducible assumption | (with_reducible refine HasBlock.drew ?_) | (with_reducible refine HasBlock.made' (by first | exact rfl | exact Nat.le_refl _ | omega | (dsimp only; omega) | (simp only [sizes]; done) | (simp only [sizes]; omega))) | (with_reducible refine HasBlock.alloc ?_ _)))⟩ (fun hHeld => ?_)
            clear hK K
            (try simp only [List.getElem_toArray, List.getElem_cons_succ, List.getElem_cons_zero, Act.put, List.setIfInBounds_toArray, List.set_cons_zero, List.set_cons_succ])
            refine wpAnyH_ready (rs := [4]) (by kernel_rfl) (by simp) ?_
            refine AllReadyH.cons rfl (fun K hK => ?_) AllReadyH.nil
            go_simp
            clear hHeld
            refine hK.out _ _ ⟨Below.mono (by (repeat (first | with_reducible assumption | with_reducible exact Below.refl _ _ | (with_reducible refine Below.drew ?_) | (with_reducible refine Below.alloc' ?_ (Nat.le_refl _) _) | (with_reducible refine Below.setCell ?_ (by first | exact rfl | exact Nat.le_refl _ | omega | (dsimp only; omega) | (simp only [sizes]; done) | (simp only [sizes]; omega)) _) | (refine Below.trans ?_ (Below.mono (by with_reducible assumption) (by first | exact rfl | exact Nat.le_refl _ | omega | (dsimp only; omega) | (simp only [sizes]; done) | (simp only [sizes]; omega))))))) hz8, by (repeat' (first | with_reducible assumption | (with_reducible refine HasBlock.drew ?_) | (with_reducible refine HasBlock.made' (by first | exact rfl | exact Nat.le_refl _ | omega | (dsimp only; omega) | (simp only [sizes]; done) | (simp only [sizes]; omega))) | (with_reducible refine HasBlock.alloc ?_ _)))⟩ (fun hHeld => ?_)
            clear hK K
            (try simp only [List.getElem_toArray, List.getElem_cons_succ, List.getElem_cons_zero, Act.put, List.setIfInBounds_toArray, List.set_cons_zero, List.set_cons_succ])
            refine wpAnyH_take (i := 9) (v := ?_) rfl (by kernel_rfl) (by kernel_rfl) (by kernel_rfl) (fun _ _ _ h => h) (Or.inl ⟨by rfl, ?_⟩) (by assumption) ?_
            rotate_left
            · intro w' hSw
              (try dsimp only at hSw)
              first | (go_simp; done) | (go_simp; with_reducible rfl)
            (try simp only [List.getElem_toArray, List.getElem_cons_succ, List.getElem_cons_zero, Act.put, List.setIfInBounds_toArray, List.set_cons_zero, List.set_cons_succ])
            refine wpAnyH_ready (rs := [10]) (by kernel_rfl) (by simp) ?_
            refine AllReadyH.cons rfl (fun K hK => ?_) AllReadyH.nil
            go_simp
            clear hHeld
            refine hK.out _ _ ⟨Below.mono (by (repeat (first | with_reducible assumption | with_reducible exact Below.refl _ _ | (with_reducible refine Below.drew ?_) | (with_reducible refine Below.alloc' ?_ (Nat.le_refl _) _) | (with_reducible refine Below.setCell ?_ (by first | exact rfl | exact Nat.le_refl _ | omega | (dsimp only; omega) | (simp only [sizes]; done) | (simp only [sizes]; omega)) _) | (refine Below.trans ?_ (Below.mono (by with_reducible assumption) (by first | exact rfl | exact Nat.le_refl _ | omega | (dsimp only; omega) | (simp only [sizes]; done) | (simp only [sizes]; omega))))))) hz8, by (repeat' (first | with_reducible assumption | (with_reducible refine HasBlock.drew ?_) | (with_reducible refine HasBlock.made' (by first | exact rfl | exact Nat.le_refl _ | omega | (dsimp only; omega) | (simp only [sizes]; done) | (simp only [sizes]; omega))) | (with_reducible refine HasBlock.alloc ?_ _)))⟩ (fun hHeld => ?_)
            clear hK K
            (try simp only [List.getElem_toArray, List.getElem_cons_succ, List.getElem_cons_zero, Act.put, List.setIfInBounds_toArray, List.set_cons_zero, List.set_cons_succ])
            refine wpAnyH_ready (rs := [11]) (by kernel_rfl) (by simp) ?_
            refine AllReadyH.cons rfl (fun K hK => ?_) AllReadyH.nil
            refine step_append_own rfl (.tmp 78) (.tmp 87) 28 rfl (w.heap.size + 1 + 1 + 1) 57 i0 (.agg #[.int .i64 0, .int .i64 0, .int .i64 0, .int .i64 0, .int .i64 0, .slice none 0 0, .slice none 0 0, .int .i64 0, .slice none 0 0]) 9 120 Try.underlying28 hi0 iz0 iz1 iz2 rfl (by decide) (.slice og1 q kg1') q (gmFlat H.G gs1) rfl (owns_below HOW.out (by (repeat (first | with_reducible assumption | with_reducible exact Below.refl _ _ | (with_reducible refine Below.drew ?_) | (with_reducible refine Below.alloc' ?_ (Nat.le_refl _) _) | (with_reducible refine Below.setCell ?_ (by first | exact rfl | exact Nat.le_refl _ | omega | (dsimp only; omega) | (simp only [sizes]; done) | (simp only [sizes]; omega)) _) | (refine Below.trans ?_ (Below.mono (by with_reducible assumption) (by first | exact rfl | exact Nat.le_refl _ | omega | (dsimp only; omega) | (simp only [sizes]; done) | (simp only [sizes]; omega)))))))) ⟨_, 0, none⟩ 1 1 [.int .i64 cr, .int .i64 cl, .int .i64 cs, .int .i64 0, .int .i64 ca, .slice _ qn qn, .slice _ qn qn, .int .i64 0, .slice _ qn qn] rfl rfl (cells_made _ _ _ _ (by first | rfl | simp only [sizes])) (one_gm _ _ _ _ _ _ _ _ _ _ _ _ _ _ _) (by unfold maxLen; omega) (by omega) (by first | exact rfl | exact Nat.le_refl _ | omega | (dsimp only; omega) | (simp only [sizes]; done) | (simp only [sizes]; omega)) ?_
            intro v6 w6 hown6 hgrow6 _
            obtain ⟨o6, c6, rfl, hc61, hc62⟩ := own_form' hown6
            obtain ⟨F3, hbX⟩ := grown_all hgrow6 (by (repeat (first | with_reducible assumption | with_reducible exact Below.refl _ _ | (with_reducible refine Below.drew ?_) | (with_reducible refine Below.alloc' ?_ (Nat.le_refl _) _) | (with_reducible refine Below.setCell ?_ (by first | exact rfl | exact Nat.le_refl _ | omega | (dsimp only; omega) | (simp only [sizes]; done) | (simp only [sizes]; omega)) _) | (refine Below.trans ?_ (Below.mono (by with_reducible assumption) (by first | exact rfl | exact Nat.le_refl _ | omega | (dsimp only; omega) | (simp only [sizes]; done) | (simp only [sizes]; omega))))))) Ob DR8 hz8 rfl
            clear hHeld
            refine hK.out _ _ ⟨hbX, F3⟩ (fun hHeld => ?_)
            clear hK K
            (try simp only [List.getElem_toArray, List.getElem_cons_succ, List.getElem_cons_zero, Act.put, List.setIfInBounds_toArray, List.set_cons_zero, List.set_cons_succ])
            refine wpAnyH_take (i := 12) (v := ?_) rfl (by kernel_rfl) (by kernel_rfl) (by kernel_rfl) (fun _ _ _ h => h) (Or.inl ⟨by rfl, ?_⟩) (by assumption) ?_
            rotate_left
            · intro w' hSw
              (try dsimp only at hSw)
              first | (go_simp; done) | (go_simp; with_reducible rfl)
            (try simp only [List.getElem_toArray, List.getElem_cons_succ, List.getElem_cons_zero, Act.put, List.setIfInBounds_toArray, List.set_cons_zero, List.set_cons_succ])
            refine wpAnyH_done (by kernel_rfl) ?_ _
            change wpList _ _ _ _ _ _
            clear hHeld hrule hruleB DR8_c DR8_f DR8_z DC8_c DC8_f DC8_z
            have F2 := D28.under hbX (by omega)
            have HO6 := pushN (c := ⟨cr, cl, cs, 0, ca⟩) hgrow6 Ob HQ.out hown6 (by (repeat (first | with_reducible assumption | with_reducible exact Below.refl _ _ | (with_reducible refine Below.drew ?_) | (with_reducible refine Below.alloc' ?_ (Nat.le_refl _) _) | (with_reducible refine Below.setCell ?_ (by first | exact rfl | exact Nat.le_refl _ | omega | (dsimp only; omega) | (simp only [sizes]; done) | (simp only [sizes]; omega)) _) | (refine Below.trans ?_ (Below.mono (by with_reducible assumption) (by first | exact rfl | exact Nat.le_refl _ | omega | (dsimp only; omega) | (simp only [sizes]; done) | (simp only [sizes]; omega))))))) (by (repeat' (first | with_reducible assumption | (with_reducible refine HasBlock.drew ?_) | (with_reducible refine HasBlock.made' (by first | exact rfl | exact Nat.le_refl _ | omega | (dsimp only; omega) | (simp only [sizes]; done) | (simp only [sizes]; omega))) | (with_reducible refine HasBlock.alloc ?_ _)))) (by (repeat' (first | with_reducible assumption | (with_reducible refine HasBlock.drew ?_) | (with_reducible refine HasBlock.made' (by first | exact rfl | exact Nat.le_refl _ | omega | (dsimp only; omega) | (simp only [sizes]; done) | (simp only [sizes]; omega))) | (with_reducible refine HasBlock.alloc ?_ _)))) (by (repeat' (first | with_reducible assumption | (with_reducible refine HasBlock.drew ?_) | (with_reducible refine HasBlock.made' (by first | exact rfl | exact Nat.le_refl _ | omega | (dsimp only; omega) | (simp only [sizes]; done) | (simp only [sizes]; omega))) | (with_reducible refine HasBlock.alloc ?_ _)))) (by omega) (by omega) (by omega) (by omega) hz8 (by omega)
            have F3k := F3
            obtain ⟨F3_c, F3_f, F3_z⟩ := F3.all
            obtain ⟨F2_c, F2_f, F2_z⟩ := F2.all
            go_wp2_with fail
            refine bodyPost_ret (v := .tuple #[.agg #[.slice of5 n5 kf5, .slice or5 r5 kr5, .slice om5 m5 km5, .slice o6 (q + 1) c6, .int .i64 tx, .int .u64 dx, .int .i64 sx], .int .i64 0]) (by simp [results, Try.results23, go_sem, F2_c]) rfl ?_
            have hAG : H.addG ⟨cr, cl, cs, 0, ca⟩ qn = ⟨P2, H.G ++ [newG ⟨cr, cl, cs, 0, ca⟩ qn], H.t, H.d, H.n⟩ := by unfold Ho.addG; rw [HP2.out]
            rw [HTO.out, ← HCODE.out, HCO.out, hAG]
            exact hoRet' (k := fun v => .tuple #[v, .int .i64 0]) (H := ⟨P2, H.G ++ [newG ⟨cr, cl, cs, 0, ca⟩ qn], H.t, H.d, H.n⟩) HG5.out.1 HG5.out.2.1 HG5.out.2.2 (by show (H.G ++ [_]).length = _; rw [List.length_append, HQ.out]; rfl) HT.out HD.out HS.out ((HO6.setbox (j := 3) F3k hostT (.slice o6 (q + 1) c6)).fill7 (by omega) _ _ _ _ _ _ _) (Below.fill7 ((hbw8.trans (hbX.mono (by omega))).setCell (p := ⟨B, 3, none⟩) (by dsimp only; omega) _) (by omega) _ _ _ _ _ _ _)
        · go_simp
          clear hHeld
          refine hK.out _ _ ⟨Below.mono (by (repeat (first | with_reducible assumption | with_reducible exact Below.refl _ _ | (with_reducible refine Below.drew ?_) | (with_reducible refine Below.alloc' ?_ (Nat.le_refl _) _) | (with_reducible refine Below.setCell ?_ (by first | exact rfl | exact Nat.le_refl _ | omega | (dsimp only; omega) | (simp only [sizes]; done) | (simp only [sizes]; omega)) _) | (refine Below.trans ?_ (Below.mono (by with_reducible assumption) (by first | exact rfl | exact Nat.le_refl _ | omega | (dsimp only; omega) | (simp only [sizes]; done) | (simp only [sizes]; omega))))))) hz8, by (repeat' (first | with_reducible assumption | (with_reducible refine HasBlock.drew ?_) | (with_reducible refine HasBlock.made' (by first | exact rfl | exact Nat.le_refl _ | omega | (dsimp only; omega) | (simp only [sizes]; done) | (simp only [sizes]; omega))) | (with_reducible refine HasBlock.alloc ?_ _)))⟩ (fun hHeld => ?_)
          clear hK K
          (try simp only [List.getElem_toArray, List.getElem_cons_succ, List.getElem_cons_zero, Act.put, List.setIfInBounds_toArray, List.set_cons_zero, List.set_cons_succ])
          refine wpAnyH_ready (rs := [4, 6]) (by kernel_rfl) (by simp) ?_
          refine AllReadyH.cons rfl (fun K hK => ?_) (AllReadyH.cons rfl (fun K hK => ?_) AllReadyH.nil)
          · go_simp
            clear hHeld
            refine hK.out _ _ ⟨Below.mono (by (repeat (first | with_reducible assumption | with_reducible exact Below.refl _ _ | (with_reducible refine Below.drew ?_) | (with_reducible refine Below.alloc' ?_ (Nat.le_refl _) _) | (with_reducible refine Below.setCell ?_ (by first | exact rfl | exact Nat.le_refl _ | omega | (dsimp only; omega) | (simp only [sizes]; done) | (simp only [sizes]; omega)) _) | (refine Below.trans ?_ (Below.mono (by with_reducible assumption) (by first | exact rfl | exact Nat.le_refl _ | omega | (dsimp only; omega) | (simp only [sizes]; done) | (simp only [sizes]; omega))))))) hz8, by (repeat' (first | with_reducible assumption | (with_reducible refine HasBlock.drew ?_) | (with_reducible refine HasBlock.made' (by first | exact rfl | exact Nat.le_refl _ | omega | (dsimp only; omega) | (simp only [sizes]; done) | (simp only [sizes]; omega))) | (with_reducible refine HasBlock.alloc ?_ _)))⟩ (fun hHeld => ?_)
            clear hK K
            (try simp only [List.getElem_toArray, List.getElem_cons_succ, List.getElem_cons_zero, Act.put, List.setIfInBounds_toArray, List.set_cons_zero, List.set_cons_succ])
            refine wpAnyH_ready (rs := [6]) (by kernel_rfl) (by simp) ?_
            refine AllReadyH.cons rfl (fun K hK => ?_) AllReadyH.nil
            go_simp
            clear hHeld
            refine hK.out _ _ ⟨Below.mono (by (repeat (first | with_reducible assumption | with_reducible exact Below.refl _ _ | (with_reducible refine Below.drew ?_) | (with_reducible refine Below.alloc' ?_ (Nat.le_refl _) _) | (with_reducible refine Below.setCell ?_ (by first | exact rfl | exact Nat.le_refl _ | omega | (dsimp only; omega) | (simp only [sizes]; done) | (simp only [sizes]; omega)) _) | (refine Below.trans ?_ (Below.mono (by with_reducible assumption) (by first | exact rfl | exact Nat.le_refl _ | omega | (dsimp only; omega) | (simp only [sizes]; done) | (simp only [sizes]; omega))))))) hz8, by (repeat' (first | with_reducible assumption | (with_reducible refine HasBlock.drew ?_) | (with_reducible refine HasBlock.made' (by first | exact rfl | exact Nat.le_refl _ | omega | (dsimp only; omega) | (simp only [sizes]; done) | (simp only [sizes]; omega))) | (with_reducible refine HasBlock.alloc ?_ _)))⟩ (fun hHeld => ?_)
            clear hK K
            (try simp only [List.getElem_toArray, List.getElem_cons_succ, List.getElem_cons_zero, Act.put, List.setIfInBounds_toArray, List.set_cons_zero, List.set_cons_succ])
            refine wpAnyH_take (i := 9) (v := ?_) rfl (by kernel_rfl) (by kernel_rfl) (by kernel_rfl) (fun _ _ _ h => h) (Or.inl ⟨by rfl, ?_⟩) (by assumption) ?_
            rotate_left
            · intro w' hSw
              (try dsimp only at hSw)
              first | (go_simp; done) | (go_simp; with_reducible rfl)
            (try simp only [List.getElem_toArray, List.getElem_cons_succ, List.getElem_cons_zero, Act.put, List.setIfInBounds_toArray, List.set_cons_zero, List.set_cons_succ])
            refine wpAnyH_ready (rs := [10]) (by kernel_rfl) (by simp) ?_
            refine AllReadyH.cons rfl (fun K hK => ?_) AllReadyH.nil
            go_simp
            clear hHeld
            refine hK.out _ _ ⟨Below.mono (by (repeat (first | with_reducible assumption | with_reducible exact Below.refl _ _ | (with_reducible refine Below.drew ?_) | (with_reducible refine Below.alloc' ?_ (Nat.le_refl _) _) | (with_reducible refine Below.setCell ?_ (by first | exact rfl | exact Nat.le_refl _ | omega | (dsimp only; omega) | (simp only [sizes]; done) | (simp only [sizes]; omega)) _) | (refine Below.trans ?_ (Below.mono (by with_reducible assumption) (by first | exact rfl | exact Nat.le_refl _ | omega | (dsimp only; omega) | (simp only [sizes]; done) | (simp only [sizes]; omega))))))) hz8, by (repeat' (first | with_reducible assumption | (with_reducible refine HasBlock.drew ?_) | (with_reducible refine HasBlock.made' (by first | exact rfl | exact Nat.le_refl _ | omega | (dsimp only; omega) | (simp only [sizes]; done) | (simp only [sizes]; omega))) | (with_reducible refine HasBlock.alloc ?_ _)))⟩ (fun hHeld => ?_)
            clear hK K
            (try simp only [List.getElem_toArray, List.getElem_cons_succ, List.getElem_cons_zero, Act.put, List.setIfInBounds_toArray, List.set_cons_zero, List.set_cons_succ])
            refine wpAnyH_ready (rs := [11]) (by kernel_rfl) (by simp) ?_
            refine AllReadyH.cons rfl (fun K hK => ?_) AllReadyH.nil
            refine step_append_own rfl (.tmp 78) (.tmp 87) 28 rfl (w.heap.size + 1 + 1 + 1) 57 i0 (.agg #[.int .i64 0, .int .i64 0, .int .i64 0, .int .i64 0, .int .i64 0, .slice none 0 0, .slice none 0 0, .int .i64 0, .slice none 0 0]) 9 120 Try.underlying28 hi0 iz0 iz1 iz2 rfl (by decide) (.slice og1 q kg1') q (gmFlat H.G gs1) rfl (owns_below HOW.out (by (repeat (first | with_reducible assumption | with_reducible exact Below.refl _ _ | (with_reducible refine Below.drew ?_) | (with_reducible refine Below.alloc' ?_ (Nat.le_refl _) _) | (with_reducible refine Below.setCell ?_ (by first | exact rfl | exact Nat.le_refl _ | omega | (dsimp only; omega) | (simp only [sizes]; done) | (simp only [sizes]; omega)) _) | (refine Below.trans ?_ (Below.mono (by with_reducible assumption) (by first | exact rfl | exact Nat.le_refl _ | omega | (dsimp only; omega) | (simp only [sizes]; done) | (simp only [sizes]; omega)))))))) ⟨_, 0, none⟩ 1 1 [.int .i64 cr, .int .i64 cl, .int .i64 cs, .int .i64 0, .int .i64 ca, .slice _ qn qn, .slice _ qn qn, .int .i64 0, .slice _ qn qn] rfl rfl (cells_made _ _ _ _ (by first | rfl | simp only [sizes])) (one_gm _ _ _ _ _ _ _ _ _ _ _ _ _ _ _) (by unfold maxLen; omega) (by omega) (by first | exact rfl | exact Nat.le_refl _ | omega | (dsimp only; omega) | (simp only [sizes]; done) | (simp only [sizes]; omega)) ?_
            intro v6 w6 hown6 hgrow6 _
            obtain ⟨o6, c6, rfl, hc61, hc62⟩ := own_form' hown6
            obtain ⟨F3, hbX⟩ := grown_all hgrow6 (by (repeat (first | with_reducible assumption | with_reducible exact Below.refl _ _ | (with_reducible refine Below.drew ?_) | (with_reducible refine Below.alloc' ?_ (Nat.le_refl _) _) | (with_reducible refine Below.setCell ?_ (by first | exact rfl | exact Nat.le_refl _ | omega | (dsimp only; omega) | (simp only [sizes]; done) | (simp only [sizes]; omega)) _) | (refine Below.trans ?_ (Below.mono (by with_reducible assumption) (by first | exact rfl | exact Nat.le_refl _ | omega | (dsimp only; omega) | (simp only [sizes]; done) | (simp only [sizes]; omega))))))) Ob DR8 hz8 rfl
            clear hHeld
            refine hK.out _ _ ⟨hbX, F3⟩ (fun hHeld => ?_)
            clear hK K
            (try simp only [List.getElem_toArray, List.getElem_cons_succ, List.getElem_cons_zero, Act.put, List.setIfInBounds_toArray, List.set_cons_zero, List.set_cons_succ])
            refine wpAnyH_take (i := 12) (v := ?_) rfl (by kernel_rfl) (by kernel_rfl) (by kernel_rfl) (fun _ _ _ h => h) (Or.inl ⟨by rfl, ?_⟩) (by assumption) ?_
            rotate_left
            · intro w' hSw
              (try dsimp only at hSw)
              first | (go_simp; done) | (go_simp; with_reducible rfl)
            (try simp only [List.getElem_toArray, List.getElem_cons_succ, List.getElem_cons_zero, Act.put, List.setIfInBounds_toArray, List.set_cons_zero, List.set_cons_succ])
            refine wpAnyH_done (by kernel_rfl) ?_ _
            change wpList _ _ _ _ _ _
            clear hHeld hrule hruleB DR8_c DR8_f DR8_z DC8_c DC8_f DC8_z
            have F2 := D28.under hbX (by omega)
            have HO6 := pushN (c := ⟨cr, cl, cs, 0, ca⟩) hgrow6 Ob HQ.out hown6 (by (repeat (first | with_reducible assumption | with_reducible exact Below.refl _ _ | (with_reducible refine Below.drew ?_) | (with_reducible refine Below.alloc' ?_ (Nat.le_refl _) _) | (with_reducible refine Below.setCell ?_ (by first | exact rfl | exact Nat.le_refl _ | omega | (dsimp only; omega) | (simp only [sizes]; done) | (simp only [sizes]; omega)) _) | (refine Below.trans ?_ (Below.mono (by with_reducible assumption) (by first | exact rfl | exact Nat.le_refl _ | omega | (dsimp only; omega) | (simp only [sizes]; done) | (simp only [sizes]; omega))))))) (by (repeat' (first | with_reducible assumption | (with_reducible refine HasBlock.drew ?_) | (with_reducible refine HasBlock.made' (by first | exact rfl | exact Nat.le_refl _ | omega | (dsimp only; omega) | (simp only [sizes]; done) | (simp only [sizes]; omega))) | (with_reducible refine HasBlock.alloc ?_ _)))) (by (repeat' (first | with_reducible assumption | (with_reducible refine HasBlock.drew ?_) | (with_reducible refine HasBlock.made' (by first | exact rfl | exact Nat.le_refl _ | omega | (dsimp only; omega) | (simp only [sizes]; done) | (simp only [sizes]; omega))) | (with_reducible refine HasBlock.alloc ?_ _)))) (by (repeat' (first | with_reducible assumption | (with_reducible refine HasBlock.drew ?_) | (with_reducible refine HasBlock.made' (by first | exact rfl | exact Nat.le_refl _ | omega | (dsimp only; omega) | (simp only [sizes]; done) | (simp only [sizes]; omega))) | (with_reducible refine HasBlock.alloc ?_ _)))) (by omega) (by omega) (by omega) (by omega) hz8 (by omega)
            have F3k := F3
            obtain ⟨F3_c, F3_f, F3_z⟩ := F3.all
            obtain ⟨F2_c, F2_f, F2_z⟩ := F2.all
            go_wp2_with fail
            refine bodyPost_ret (v := .tuple #[.agg #[.slice of5 n5 kf5, .slice or5 r5 kr5, .slice om5 m5 km5, .slice o6 (q + 1) c6, .int .i64 tx, .int .u64 dx, .int .i64 sx], .int .i64 0]) (by simp [results, Try.results23, go_sem, F2_c]) rfl ?_
            have hAG : H.addG ⟨cr, cl, cs, 0, ca⟩ qn = ⟨P2, H.G ++ [newG ⟨cr, cl, cs, 0, ca⟩ qn], H.t, H.d, H.n⟩ := by unfold Ho.addG; rw [HP2.out]
            rw [HTO.out, ← HCODE.out, HCO.out, hAG]
            exact hoRet' (k := fun v => .tuple #[v, .int .i64 0]) (H := ⟨P2, H.G ++ [newG ⟨cr, cl, cs, 0, ca⟩ qn], H.t, H.d, H.n⟩) HG5.out.1 HG5.out.2.1 HG5.out.2.2 (by show (H.G ++ [_]).length = _; rw [List.length_append, HQ.out]; rfl) HT.out HD.out HS.out ((HO6.setbox (j := 3) F3k hostT (.slice o6 (q + 1) c6)).fill7 (by omega) _ _ _ _ _ _ _) (Below.fill7 ((hbw8.trans (hbX.mono (by omega))).setCell (p := ⟨B, 3, none⟩) (by dsimp only; omega) _) (by omega) _ _ _ _ _ _ _)
          · go_simp
            clear hHeld
            refine hK.out _ _ ⟨Below.mono (by (repeat (first | with_reducible assumption | with_reducible exact Below.refl _ _ | (with_reducible refine Below.drew ?_) | (with_reducible refine Below.alloc' ?_ (Nat.le_refl _) _) | (with_reducible refine Below.setCell ?_ (by first | exact rfl | exact Nat.le_refl _ | omega | (dsimp only; omega) | (simp only [sizes]; done) | (simp only [sizes]; omega)) _) | (refine Below.trans ?_ (Below.mono (by with_reducible assumption) (by first | exact rfl | exact Nat.le_refl _ | omega | (dsimp only; omega) | (simp only [sizes]; done) | (simp only [sizes]; omega))))))) hz8, by (repeat' (first | with_reducible assumption | (with_reducible refine HasBlock.drew ?_) | (with_reducible refine HasBlock.made' (by first | exact rfl | exact Nat.le_refl _ | omega | (dsimp only; omega) | (simp only [sizes]; done) | (simp only [sizes]; omega))) | (with_reducible refine HasBlock.alloc ?_ _)))⟩ (fun hHeld => ?_)
            clear hK K
            (try simp only [List.getElem_toArray, List.getElem_cons_succ, List.getElem_cons_zero, Act.put, List.setIfInBounds_toArray, List.set_cons_zero, List.set_cons_succ])
            refine wpAnyH_ready (rs := [4]) (by kernel_rfl) (by simp) ?_
            refine AllReadyH.cons rfl (fun K hK => ?_) AllReadyH.nil
            go_simp
            clear hHeld
            refine hK.out _ _ ⟨Below.mono (by (repeat (first | with_reducible assumption | with_reducible exact Below.refl _ _ | (with_reducible refine Below.drew ?_) | (with_reducible refine Below.alloc' ?_ (Nat.le_refl _) _) | (with_reducible refine Below.setCell ?_ (by first | exact rfl | exact Nat.le_refl _ | omega | (dsimp only; omega) | (simp only [sizes]; done) | (simp only [sizes]; omega)) _) | (refine Below.trans ?_ (Below.mono (by with_reducible assumption) (by first | exact rfl | exact Nat.le_refl _ | omega | (dsimp only; omega) | (simp only [sizes]; done) | (simp only [sizes]; omega))))))) hz8, by (repeat' (first | with_reducible assumption | (with_reducible refine HasBlock.drew ?_) | (with_reducible refine HasBlock.made' (by first | exact rfl | exact Nat.le_refl _ | omega | (dsimp only; omega) | (simp only [sizes]; done) | (simp only [sizes]; omega))) | (with_reducible refine HasBlock.alloc ?_ _)))⟩ (fun hHeld => ?_)
            clear hK K
            (try simp only [List.getElem_toArray, List.getElem_cons_succ, List.getElem_cons_zero, Act.put, List.setIfInBounds_toArray, List.set_cons_zero, List.set_cons_succ])
            refine wpAnyH_take (i := 9) (v := ?_) rfl (by kernel_rfl) (by kernel_rfl) (by kernel_rfl) (fun _ _ _ h => h) (Or.inl ⟨by rfl, ?_⟩) (by assumption) ?_
            rotate_left
            · intro w' hSw
              (try dsimp only at hSw)
              first | (go_simp; done) | (go_simp; with_reducible rfl)
            (try simp only [List.getElem_toArray, List.getElem_cons_succ, List.getElem_cons_zero, Act.put, List.setIfInBounds_toArray, List.set_cons_zero, List.set_cons_succ])
            refine wpAnyH_ready (rs := [10]) (by kernel_rfl) (by simp) ?_
            refine AllReadyH.cons rfl (fun K hK => ?_) AllReadyH.nil
            go_simp
            clear hHeld
            refine hK.out _ _ ⟨Below.mono (by (repeat (first | with_reducible assumption | with_reducible exact Below.refl _ _ | (with_reducible refine Below.drew ?_) | (with_reducible refine Below.alloc' ?_ (Nat.le_refl _) _) | (with_reducible refine Below.setCell ?_ (by first | exact rfl | exact Nat.le_refl _ | omega | (dsimp only; omega) | (simp only [sizes]; done) | (simp only [sizes]; omega)) _) | (refine Below.trans ?_ (Below.mono (by with_reducible assumption) (by first | exact rfl | exact Nat.le_refl _ | omega | (dsimp only; omega) | (simp only [sizes]; done) | (simp only [sizes]; omega))))))) hz8, by (repeat' (first | with_reducible assumption | (with_reducible refine HasBlock.drew ?_) | (with_reducible refine HasBlock.made' (by first | exact rfl | exact Nat.le_refl _ | omega | (dsimp only; omega) | (simp only [sizes]; done) | (simp only [sizes]; omega))) | (with_reducible refine HasBlock.alloc ?_ _)))⟩ (fun hHeld => ?_)
            clear hK K
            (try simp only [List.getElem_toArray, List.getElem_cons_succ, List.getElem_cons_zero, Act.put, List.setIfInBounds_toArray, List.set_cons_zero, List.set_cons_succ])
            refine wpAnyH_ready (rs := [11]) (by kernel_rfl) (by simp) ?_
            refine AllReadyH.cons rfl (fun K hK => ?_) AllReadyH.nil
            refine step_append_own rfl (.tmp 78) (.tmp 87) 28 rfl (w.heap.size + 1 + 1 + 1) 57 i0 (.agg #[.int .i64 0, .int .i64 0, .int .i64 0, .int .i64 0, .int .i64 0, .slice none 0 0, .slice none 0 0, .int .i64 0, .slice none 0 0]) 9 120 Try.underlying28 hi0 iz0 iz1 iz2 rfl (by decide) (.slice og1 q kg1') q (gmFlat H.G gs1) rfl (owns_below HOW.out (by (repeat (first | with_reducible assumption | with_reducible exact Below.refl _ _ | (with_reducible refine Below.drew ?_) | (with_reducible refine Below.alloc' ?_ (Nat.le_refl _) _) | (with_reducible refine Below.setCell ?_ (by first | exact rfl | exact Nat.le_refl _ | omega | (dsimp only; omega) | (simp only [sizes]; done) | (simp only [sizes]; omega)) _) | (refine Below.trans ?_ (Below.mono (by with_reducible assumption) (by first | exact rfl | exact Nat.le_refl _ | omega | (dsimp only; omega) | (simp only [sizes]; done) | (simp only [sizes]; omega)))))))) ⟨_, 0, none⟩ 1 1 [.int .i64 cr, .int .i64 cl, .int .i64 cs, .int .i64 0, .int .i64 ca, .slice _ qn qn, .slice _ qn qn, .int .i64 0, .slice _ qn qn] rfl rfl (cells_made _ _ _ _ (by first | rfl | simp only [sizes])) (one_gm _ _ _ _ _ _ _ _ _ _ _ _ _ _ _) (by unfold maxLen; omega) (by omega) (by first | exact rfl | exact Nat.le_refl _ | omega | (dsimp only; omega) | (simp only [sizes]; done) | (simp only [sizes]; omega)) ?_
            intro v6 w6 hown6 hgrow6 _
            obtain ⟨o6, c6, rfl, hc61, hc62⟩ := own_form' hown6
            obtain ⟨F3, hbX⟩ := grown_all hgrow6 (by (repeat (first | with_reducible assumption | with_reducible exact Below.refl _ _ | (with_reducible refine Below.drew ?_) | (with_reducible refine Below.alloc' ?_ (Nat.le_refl _) _) | (with_reducible refine Below.setCell ?_ (by first | exact rfl | exact Nat.le_refl _ | omega | (dsimp only; omega) | (simp only [sizes]; done) | (simp only [sizes]; omega)) _) | (refine Below.trans ?_ (Below.mono (by with_reducible assumption) (by first | exact rfl | exact Nat.le_refl _ | omega | (dsimp only; omega) | (simp only [sizes]; done) | (simp only [sizes]; omega))))))) Ob DR8 hz8 rfl
            clear hHeld
            refine hK.out _ _ ⟨hbX, F3⟩ (fun hHeld => ?_)
            clear hK K
            (try simp only [List.getElem_toArray, List.getElem_cons_succ, List.getElem_cons_zero, Act.put, List.setIfInBounds_toArray, List.set_cons_zero, List.set_cons_succ])
            refine wpAnyH_take (i := 12) (v := ?_) rfl (by kernel_rfl) (by kernel_rfl) (by kernel_rfl) (fun _ _ _ h => h) (Or.inl ⟨by rfl, ?_⟩) (by assumption) ?_
            rotate_left
            · intro w' hSw
              (try dsimp only at hSw)
              first | (go_simp; done) | (go_simp; with_reducible rfl)
            (try simp only [List.getElem_toArray, List.getElem_cons_succ, List.getElem_cons_zero, Act.put, List.setIfInBounds_toArray, List.set_cons_zero, List.set_cons_succ])
            refine wpAnyH_done (by kernel_rfl) ?_ _
            change wpList _ _ _ _ _ _
            clear hHeld hrule hruleB DR8_c DR8_f DR8_z DC8_c DC8_f DC8_z
            have F2 := D28.under hbX (by omega)
            have HO6 := pushN (c := ⟨cr, cl, cs, 0, ca⟩) hgrow6 Ob HQ.out hown6 (by (repeat (first | with_reducible assumption | with_reducible exact Below.refl _ _ | (with_reducible refine Below.drew ?_) | (with_reducible refine Below.alloc' ?_ (Nat.le_refl _) _) | (with_reducible refine Below.setCell ?_ (by first | exact rfl | exact Nat.le_refl _ | omega | (dsimp only; omega) | (simp only [sizes]; done) | (simp only [sizes]; omega)) _) | (refine Below.trans ?_ (Below.mono (by with_reducible assumption) (by first | exact rfl | exact Nat.le_refl _ | omega | (dsimp only; omega) | (simp only [sizes]; done) | (simp only [sizes]; omega))))))) (by (repeat' (first | with_reducible assumption | (with_reducible refine HasBlock.drew ?_) | (with_reducible refine HasBlock.made' (by first | exact rfl | exact Nat.le_refl _ | omega | (dsimp only; omega) | (simp only [sizes]; done) | (simp only [sizes]; omega))) | (with_reducible refine HasBlock.alloc ?_ _)))) (by (repeat' (first | with_reducible assumption | (with_reducible refine HasBlock.drew ?_) | (with_reducible refine HasBlock.made' (by first | exact rfl | exact Nat.le_refl _ | omega | (dsimp only; omega) | (simp only [sizes]; done) | (simp only [sizes]; omega))) | (with_reducible refine HasBlock.alloc ?_ _)))) (by (repeat' (first | with_reducible assumption | (with_reducible refine HasBlock.drew ?_) | (with_reducible refine HasBlock.made' (by first | exact rfl | exact Nat.le_refl _ | omega | (dsimp only; omega) | (simp only [sizes]; done) | (simp only [sizes]; omega))) | (with_reducible refine HasBlock.alloc ?_ _)))) (by omega) (by omega) (by omega) (by omega) hz8 (by omega)
            have F3k := F3
            obtain ⟨F3_c, F3_f, F3_z⟩ := F3.all
            obtain ⟨F2_c, F2_f, F2_z⟩ := F2.all
            go_wp2_with fail
            refine bodyPost_ret (v := .tuple #[.agg #[.slice of5 n5 kf5, .slice or5 r5 kr5, .slice om5 m5 km5, .slice o6 (q + 1) c6, .int .i64 tx, .int .u64 dx, .int .i64 sx], .int .i64 0]) (by simp [results, Try.results23, go_sem, F2_c]) rfl ?_
            have hAG : H.addG ⟨cr, cl, cs, 0, ca⟩ qn = ⟨P2, H.G ++ [newG ⟨cr, cl, cs, 0, ca⟩ qn], H.t, H.d, H.n⟩ := by unfold Ho.addG; rw [HP2.out]
            rw [HTO.out, ← HCODE.out, HCO.out, hAG]
            exact hoRet' (k := fun v => .tuple #[v, .int .i64 0]) (H := ⟨P2, H.G ++ [newG ⟨cr, cl, cs, 0, ca⟩ qn], H.t, H.d, H.n⟩) HG5.out.1 HG5.out.2.1 HG5.out.2.2 (by show (H.G ++ [_]).length = _; rw [List.length_append, HQ.out]; rfl) HT.out HD.out HS.out ((HO6.setbox (j := 3) F3k hostT (.slice o6 (q + 1) c6)).fill7 (by omega) _ _ _ _ _ _ _) (Below.fill7 ((hbw8.trans (hbX.mono (by omega))).setCell (p := ⟨B, 3, none⟩) (by dsimp only; omega) _) (by omega) _ _ _ _ _ _ _)
end Go.Proofs.Ytbnngjhnkegliaa
namespace Go.Proofs.Ytbnngjhnkegliaa
open Go.RowKit

set_option maxRecDepth 100000 in
set_option maxHeartbeats 8000000 in
theorem made_any (n : Nat) (t : Int) (va : Value) (ls : List Int) (w : World) (h1 : 6 ≤ n) (h2 : n ≤ 96) (ht : 0 ≤ t ∧ t ≤ 99) (ha : NumRow w va ls) : Calls Try.prog 9 #[.int .i64 n, .int .i64 t, va] w (RetHoB (fun v => .tuple #[v, .bool true]) (madeH n t ls 3) w) := by
  have hfr := fun k hk => madeH_fresh (ls := ls) h1 h2 ht k hk
  have C1 := fun w => hnew_ok n t 5 w (by omega) h2 ht
  have hm0 : newHo n t 5 = madeH n t ls 0 := rfl
  rw [hm0] at C1
  clear hm0
  have AC : ∀ (i : Nat), i < 3 → ∀ v w, HoAt w v (madeH n t ls i) → Calls Try.prog 23 #[v, .agg #[.int .i64 (claimI (atI ls i)).r, .int .i64 (claimI (atI ls i)).l, .int .i64 (claimI (atI ls i)).s, .int .i64 (claimI (atI ls i)).p, .int .i64 (claimI (atI ls i)).a], .int .i64 6] w (RetHoB (fun v => .tuple #[v, .int .i64 0]) (madeH n t ls (i + 1)) w) := fun i hi v w h => by
    have F := hfr i (by omega)
    have hg := F.good h1 hi (atI ls i)
    have hc := (claimI_ok (atI ls i)).2.1
    have hstep : madeH n t ls (i + 1) = (madeH n t ls i).addG (claimI (atI ls i)) 6 := rfl
    rw [hstep]
    obtain ⟨c, hce⟩ : ∃ c, claimI (atI ls i) = c := ⟨_, rfl⟩
    rw [hce] at hg hc ⊢
    have A := hadd_ok v (madeH n t ls i) c.r c.l c.s c.p c.a 6 w h F.ok (by rw [hc]; omega)
    have hto : (madeH n t ls i).addTo c 6 = (madeH n t ls i).addG c 6 := by unfold Ho.addTo; rw [hg, if_pos rfl]; rfl
    change Calls Try.prog 23 _ w (RetHoB (fun v => .tuple #[v, .int .i64 ((madeH n t ls i).addC c 6)]) ((madeH n t ls i).addTo c 6) w) at A
    rw [hto, hg] at A
    exact A
  have ATc := fun (i : Nat) w (hi : i ≤ 1000) h => at_any va ls i w h hi
  have CLc := fun (i : Nat) w => claim_any (atI ls i) w
  have HA := Lib.hid ha; clear ha
  obtain ⟨mH, hmH⟩ : ∃ f : Nat → Ho, (fun i => madeH n t ls i) = f := ⟨_, rfl⟩
  have hmE : ∀ i, madeH n t ls i = mH i := fun i => by rw [← hmH]
  simp only [hmE] at C1 AC
  rw [hmE]
  obtain ⟨cc, hcc⟩ : ∃ f : Nat → Clm, (fun i => claimI (atI ls i)) = f := ⟨_, rfl⟩
  have hcE : ∀ i, claimI (atI ls i) = cc i := fun i => by rw [← hcc]
  simp only [hcE] at AC CLc
  clear hmH hmE hcc hcE hfr
  have HC1 := Lib.hid C1; clear C1
  have HAC := Lib.hid AC; clear AC
  have HAT := Lib.hid ATc; clear ATc
  have HCL := Lib.hid CLc; clear CLc
  have D9 := HasBlock.made w #[.slice none 0 0, .slice none 0 0, .slice none 0 0, .slice none 0 0, .int .i64 0, .int .u64 0, .int .i64 0] 31
  have hbw : Below w.heap.size w (w.alloc (.cells #[.slice none 0 0, .slice none 0 0, .slice none 0 0, .slice none 0 0, .int .i64 0, .int .u64 0, .int .i64 0] 31)) := (Below.refl _ _).alloc (Nat.le_refl _) _
  go_enter Try.func9, Try.ntmps9
  go_wp2_with fail
  with_reducible refine (HC1.out _).mono ?_
  rintro e w1 ⟨of0, or0, om0, og0, kf0, kr0, km0, kg0, us0, gs0, rfl, O0, hb1⟩
  have l9 := D9.lt
  have hz1 := hb1.size
  replace D9 := D9.below hb1
  replace hbw := hbw.trans (hb1.mono hbw.size)
  clear hb1
  obtain ⟨n0, hln⟩ : ∃ n, (Pl.F (Ho.P (mH 0))).length = n := ⟨_, rfl⟩
  obtain ⟨r0, hlr⟩ : ∃ n, (Pl.R (Ho.P (mH 0))).length = n := ⟨_, rfl⟩
  obtain ⟨m0, hlm⟩ : ∃ n, (Pl.M (Ho.P (mH 0))).length = n := ⟨_, rfl⟩
  obtain ⟨q0, hlq⟩ : ∃ n, (Ho.G (mH 0)).length = n := ⟨_, rfl⟩
  obtain ⟨t0, hlt0⟩ : ∃ n, Ho.t (mH 0) = n := ⟨_, rfl⟩
  obtain ⟨d0, hld⟩ : ∃ n, Ho.d (mH 0) = n := ⟨_, rfl⟩
  obtain ⟨s0, hls⟩ : ∃ n, Ho.n (mH 0) = n := ⟨_, rfl⟩
  rw [hln, hlr, hlm, hlq] at O0 ⊢
  rw [hlt0, hld, hls]
  have HG0 := Lib.hid (And.intro hln (And.intro hlr (And.intro hlm (And.intro hlq (And.intro hlt0 (And.intro hld hls))))))
  clear hln hlr hlm hlq hlt0 hld hls
  go_wp2_with fail
  have HB0 := HostAt.new (base' := w.heap.size + 1) HG0.out O0 (by simp only [sizes]; omega)
  have hbx : Below w1.heap.size w1 (w1.alloc (.cells #[.slice of0 n0 kf0, .slice or0 r0 kr0, .slice om0 m0 km0, .slice og0 q0 kg0, .int .i64 t0, .int .u64 d0, .int .i64 s0] 31)) := (Below.refl _ _).alloc (Nat.le_refl _) _
  replace D9 := D9.below hbx
  replace hbw := hbw.trans (hbx.mono hbw.size)
  have hwB : w.heap.size < w1.heap.size := Nat.lt_of_lt_of_le l9 hz1
  clear hbx O0 hz1 l9
  obtain ⟨B0, hB⟩ : ∃ B, w1.heap.size = B := ⟨_, rfl⟩
  rw [hB] at HB0 hwB ⊢
  generalize hW : w1.alloc (.cells #[.slice of0 n0 kf0, .slice or0 r0 kr0, .slice om0 m0 km0, .slice og0 q0 kg0, .int .i64 t0, .int .u64 d0, .int .i64 s0] 31) = w2 at HB0 D9 hbw ⊢
  clear hW hB
  go_loopw [9, 10] (fun bv iv wr => ∃ i : Nat, i ≤ 3 ∧ bv = .bool true ∧ iv = .int .i64 i ∧ HasBlock wr w.heap.size #[.slice none 0 0, .slice none 0 0, .slice none 0 0, .slice none 0 0, .int .i64 0, .int .u64 0, .int .i64 0] 31 ∧ HostAt (w.heap.size + 1) B0 wr (mH i) ∧ Below w.heap.size w wr) (fun _ iv _ => 3 - (intOf iv).toNat)
  case atStart => exact ⟨0, by omega, rfl, rfl, D9, HB0, hbw⟩
  case round =>
    clear D9 HB0 hbw
    obtain ⟨i, hi, rfl, rfl, D9, HB0, hbw⟩ := hrel
    obtain ⟨of1, or1, om1, og1, kf1, kr1, km1, kg1, us1, gs1, D0, O1⟩ := HB0
    obtain ⟨n1, hln⟩ : ∃ n, (Pl.F (Ho.P (mH i))).length = n := ⟨_, rfl⟩
    obtain ⟨r1, hlr⟩ : ∃ n, (Pl.R (Ho.P (mH i))).length = n := ⟨_, rfl⟩
    obtain ⟨m1, hlm⟩ : ∃ n, (Pl.M (Ho.P (mH i))).length = n := ⟨_, rfl⟩
    obtain ⟨q1, hlq⟩ : ∃ n, (Ho.G (mH i)).length = n := ⟨_, rfl⟩
    obtain ⟨t1, hlt1⟩ : ∃ n, Ho.t (mH i) = n := ⟨_, rfl⟩
    obtain ⟨d1, hld⟩ : ∃ n, Ho.d (mH i) = n := ⟨_, rfl⟩
    obtain ⟨s1, hls⟩ : ∃ n, Ho.n (mH i) = n := ⟨_, rfl⟩
    rw [hln, hlr, hlm, hlq] at O1 D0
    rw [hlt1, hld, hls] at D0
    have HG1 := Lib.hid (And.intro hln (And.intro hlr (And.intro hlm (And.intro hlq (And.intro hlt1 (And.intro hld hls))))))
    clear hln hlr hlm hlq hlt1 hld hls
    by_cases hlt : i < 3
    · have AT1 := fun w h => HAT.out i w (by omega) h
      have CL1 := HCL.out i
      have HV1 : Hid (∀ w' : World, Below wr.heap.size wr w' → HoAt w' (.agg #[.slice of1 n1 kf1, .slice or1 r1 kr1, .slice om1 m1 km1, .slice og1 q1 kg1, .int .i64 t1, .int .u64 d1, .int .i64 s1]) (mH i)) := Lib.hid (fun w' hb => by
        have := (O1.below hb).at_
        rwa [HG1.out.2.2.2.2.1, HG1.out.2.2.2.2.2.1, HG1.out.2.2.2.2.2.2] at this)
      have AC1 := HAC.out i hlt
      have HA1 := Lib.hid (HA.out.below hbw)
      have HATT := Lib.hid AT1; clear AT1
      have HCLL := Lib.hid CL1; clear CL1
      have HACC := Lib.hid AC1; clear AC1
      obtain ⟨cci, hcci⟩ : ∃ c, cc i = c := ⟨_, rfl⟩
      rw [hcci] at HCLL HACC
      clear hcci
      go_wp2_with fail
      go_cut [11, 12] from 20 to 32 (fun v v2 wx => v2 = .int .i64 0 ∧ NewHost (w.heap.size + 1) (fun B wx => B0 ≠ B ∧ HasBlock wx w.heap.size #[.slice none 0 0, .slice none 0 0, .slice none 0 0, .slice none 0 0, .int .i64 0, .int .u64 0, .int .i64 0] 31 ∧ HasBlock wx B0 #[.slice of1 n1 kf1, .slice or1 r1 kr1, .slice om1 m1 km1, .slice og1 q1 kg1, .int .i64 t1, .int .u64 d1, .int .i64 s1] 31 ∧ Below w.heap.size w wx) (mH (i + 1)) v wx)
      case first =>
        have hrule : ∀ w' : World, Below wr.heap.size wr w' → ∀ b o, b < wr.heap.size → w'.cell? ⟨b, o, none⟩ = wr.cell? ⟨b, o, none⟩ := fun w' h b o hlt => h.cell (p := ⟨b, o, none⟩) hlt
        obtain ⟨mn, hmn⟩ : ∃ m, mH (i + 1) = m := ⟨_, rfl⟩
        rw [hmn] at HACC
        have HMN := Lib.hid hmn; clear hmn
        have D0k := D0
        obtain ⟨D0_c, D0_f, D0_z⟩ := D0.all
        go_region_held3 (fun w' => Below wr.heap.size wr w') (repeat (first | with_reducible assumption | with_reducible exact Below.refl _ _ | (with_reducible refine Below.drew ?_) | (with_reducible refine Below.alloc' ?_ (Nat.le_refl _) _) | (with_reducible refine Below.setCell ?_ (by first | exact rfl | exact Nat.le_refl _ | omega | (dsimp only; omega) | (simp only [sizes]; done) | (simp only [sizes]; omega)) _) | (refine Below.trans ?_ (Below.mono (by with_reducible assumption) (by first | exact rfl | exact Nat.le_refl _ | omega | (dsimp only; omega) | (simp only [sizes]; done) | (simp only [sizes]; omega)))))) ((first
          |
           (go_at_call 11
            with_reducible refine (HATT.out _ (HA1.out.below (by (repeat (first | with_reducible assumption | with_reducible exact Below.refl _ _ | (with_reducible refine Below.drew ?_) | (with_reducible refine Below.alloc' ?_ (Nat.le_refl _) _) | (with_reducible refine Below.setCell ?_ (by first | exact rfl | exact Nat.le_refl _ | omega | (dsimp only; omega) | (simp only [sizes]; done) | (simp only [sizes]; omega)) _) | (refine Below.trans ?_ (Below.mono (by with_reducible assumption) (by first | exact rfl | exact Nat.le_refl _ | omega | (dsimp only; omega) | (simp only [sizes]; done) | (simp only [sizes]; omega))))))))).mono ?_
            rintro e w5 ⟨rfl, hb5⟩
            obtain ⟨hc5, hf5⟩ := bcell hb5
            have hzz5 := bsize hb5
            (try simp only [sizes1] at hzz5)
            (try simp only [sizes] at hc5 hf5)
            (try have hva5 : wr.heap.size < w5.heap.size := by omega))
          |
           (go_at_call 10
            with_reducible refine (HCLL.out _).mono ?_
            rintro e w6 ⟨rfl, hb6⟩
            obtain ⟨hc6, hf6⟩ := bcell hb6
            have hzz6 := bsize hb6
            (try simp only [sizes1] at hzz6)
            (try simp only [sizes] at hc6 hf6)
            (try have hva6 : wr.heap.size < w6.heap.size := by omega)
            (try have hvb6 : w5.heap.size < w6.heap.size := by omega))
          |
           (go_at_call 23
            with_reducible refine (HACC.out _ _ (HV1.out _ (by (repeat (first | with_reducible assumption | with_reducible exact Below.refl _ _ | (with_reducible refine Below.drew ?_) | (with_reducible refine Below.alloc' ?_ (Nat.le_refl _) _) | (with_reducible refine Below.setCell ?_ (by first | exact rfl | exact Nat.le_refl _ | omega | (dsimp only; omega) | (simp only [sizes]; done) | (simp only [sizes]; omega)) _) | (refine Below.trans ?_ (Below.mono (by with_reducible assumption) (by first | exact rfl | exact Nat.le_refl _ | omega | (dsimp only; omega) | (simp only [sizes]; done) | (simp only [sizes]; omega))))))))).mono ?_
            rintro e w7 ⟨of7, or7, om7, og7, kf7, kr7, km7, kg7, us7, gs7, rfl, O7, hb7⟩
            obtain ⟨n7, hln⟩ : ∃ n, (Pl.F (Ho.P mn)).length = n := ⟨_, rfl⟩
            obtain ⟨r7, hlr⟩ : ∃ n, (Pl.R (Ho.P mn)).length = n := ⟨_, rfl⟩
            obtain ⟨m7, hlm⟩ : ∃ n, (Pl.M (Ho.P mn)).length = n := ⟨_, rfl⟩
            obtain ⟨q7, hlq⟩ : ∃ n, (Ho.G mn).length = n := ⟨_, rfl⟩
            obtain ⟨t7, hlt7⟩ : ∃ n, Ho.t mn = n := ⟨_, rfl⟩
            obtain ⟨d7, hld⟩ : ∃ n, Ho.d mn = n := ⟨_, rfl⟩
            obtain ⟨s7, hls⟩ : ∃ n, Ho.n mn = n := ⟨_, rfl⟩
            rw [hln, hlr, hlm, hlq] at O7 ⊢
            rw [hlt7, hld, hls]
            have HG7 := Lib.hid (And.intro hln (And.intro hlr (And.intro hlm (And.intro hlq (And.intro hlt7 (And.intro hld hls))))))
            clear hln hlr hlm hlq hlt7 hld hls
            obtain ⟨hc7, hf7⟩ := bcell hb7
            have hzz7 := bsize hb7
            (try simp only [sizes1] at hzz7)
            (try simp only [sizes] at hc7 hf7)
            (try have hva7 : wr.heap.size < w7.heap.size := by omega)
            (try have hvb7 : w5.heap.size < w7.heap.size := by omega)
            (try have hvc7 : w6.heap.size < w7.heap.size := by omega))))
        all_goals
          clear D0_c D0_f hc5 hf5 hc6 hf6 hc7 hf7 hrule
          go_wp2_with fail
          go_meet
          have O7z := O7.lower (base' := w.heap.size + 1) (by first | omega | (simp only [sizes]; omega))
          have l0 := D0k.lt
          clear O7
          refine ⟨rfl, _, rfl, ?h0, ?hn, ?h1, ?h2, ?h3⟩
          case h0 =>
            rw [HMN.out]
            refine HostAt.mk (of := of7) (or' := or7) (om := om7) (og := og7) (kf := kf7) (kr := kr7) (km := km7) (kg := kg7) (us := us7) (gs := gs7) HG7.out.1 HG7.out.2.1 HG7.out.2.2.1 HG7.out.2.2.2.1 HG7.out.2.2.2.2.1 HG7.out.2.2.2.2.2.1 HG7.out.2.2.2.2.2.2 ?hD ?hO
            case hD => (repeat' (first | with_reducible assumption | (with_reducible refine HasBlock.fill7z (x0 := .slice none 0 0) (x1 := .slice none 0 0) (x2 := .slice none 0 0) (x3 := .slice none 0 0) (x4 := .int .i64 0) (x5 := .int .u64 0) (x6 := .int .i64 0) ?_) | (with_reducible refine HasBlock.fill7_ne ?_ (by first | with_reducible rfl | omega | (dsimp only; omega) | (simp only [sizes]; done) | (simp only [sizes]; omega)) _ _ _ _ _ _ _) | (with_reducible refine HasBlock.drew ?_) | (with_reducible refine HasBlock.made' (by first | with_reducible rfl | omega | (dsimp only; omega) | (simp only [sizes]; done) | (simp only [sizes]; omega))) | (with_reducible refine HasBlock.alloc ?_ _) | (with_reducible refine HasBlock.below ?_ (by with_reducible assumption))))
            case hO => (repeat' (first | with_reducible assumption | (with_reducible refine OwnH.fillz (x0 := .slice none 0 0) (x1 := .slice none 0 0) (x2 := .slice none 0 0) (x3 := .slice none 0 0) (x4 := .int .i64 0) (x5 := .int .u64 0) (x6 := .int .i64 0) ?_ ?_ _ _ _ _ _ _ _) | (with_reducible refine OwnH.drew ?_) | (with_reducible refine OwnH.alloc ?_ _) | (with_reducible refine OwnH.below ?_ (by with_reducible assumption)) | (with_reducible refine HasBlock.drew ?_) | (with_reducible refine HasBlock.made' (by first | with_reducible rfl | omega | (dsimp only; omega) | (simp only [sizes]; done) | (simp only [sizes]; omega))) | (with_reducible refine HasBlock.alloc ?_ _) | (with_reducible refine HasBlock.below ?_ (by with_reducible assumption))))
          case hn => omega
          case h1 => (repeat' (first | with_reducible assumption | (with_reducible refine HasBlock.fill7z (x0 := .slice none 0 0) (x1 := .slice none 0 0) (x2 := .slice none 0 0) (x3 := .slice none 0 0) (x4 := .int .i64 0) (x5 := .int .u64 0) (x6 := .int .i64 0) ?_) | (with_reducible refine HasBlock.fill7_ne ?_ (by first | with_reducible rfl | omega | (dsimp only; omega) | (simp only [sizes]; done) | (simp only [sizes]; omega)) _ _ _ _ _ _ _) | (with_reducible refine HasBlock.drew ?_) | (with_reducible refine HasBlock.made' (by first | with_reducible rfl | omega | (dsimp only; omega) | (simp only [sizes]; done) | (simp only [sizes]; omega))) | (with_reducible refine HasBlock.alloc ?_ _) | (with_reducible refine HasBlock.below ?_ (by with_reducible assumption))))
          case h2 => (repeat' (first | with_reducible assumption | (with_reducible refine HasBlock.fill7z (x0 := .slice none 0 0) (x1 := .slice none 0 0) (x2 := .slice none 0 0) (x3 := .slice none 0 0) (x4 := .int .i64 0) (x5 := .int .u64 0) (x6 := .int .i64 0) ?_) | (with_reducible refine HasBlock.fill7_ne ?_ (by first | with_reducible rfl | omega | (dsimp only; omega) | (simp only [sizes]; done) | (simp only [sizes]; omega)) _ _ _ _ _ _ _) | (with_reducible refine HasBlock.drew ?_) | (with_reducible refine HasBlock.made' (by first | with_reducible rfl | omega | (dsimp only; omega) | (simp only [sizes]; done) | (simp only [sizes]; omega))) | (with_reducible refine HasBlock.alloc ?_ _) | (with_reducible refine HasBlock.below ?_ (by with_reducible assumption))))
          case h3 => exact hbw.trans (Below.mono (by (repeat (first | with_reducible assumption | with_reducible exact Below.refl _ _ | (with_reducible refine Below.drew ?_) | (with_reducible refine Below.alloc' ?_ (Nat.le_refl _) _) | (with_reducible refine Below.setCell ?_ (by first | with_reducible rfl | omega | (dsimp only; omega) | (simp only [sizes]; done) | (simp only [sizes]; omega)) _) | (with_reducible refine Below.trans ?_ (Below.mono (by with_reducible assumption) (by first | with_reducible rfl | omega | (dsimp only; omega) | (simp only [sizes]; done) | (simp only [sizes]; omega))))))) hbw.size)
      case rest =>
        clear D9 D0 O1 hbw HV1
        obtain ⟨rfl, B, rfl, HB1, hne, D9, D0, hbw⟩ := hcut
        obtain ⟨of2, or2, om2, og2, kf2, kr2, km2, kg2, us2, gs2, D2, O2⟩ := HB1
        obtain ⟨n2, hln⟩ : ∃ n, (Pl.F (Ho.P (mH (i + 1)))).length = n := ⟨_, rfl⟩
        obtain ⟨r2, hlr⟩ : ∃ n, (Pl.R (Ho.P (mH (i + 1)))).length = n := ⟨_, rfl⟩
        obtain ⟨m2, hlm⟩ : ∃ n, (Pl.M (Ho.P (mH (i + 1)))).length = n := ⟨_, rfl⟩
        obtain ⟨q2, hlq⟩ : ∃ n, (Ho.G (mH (i + 1))).length = n := ⟨_, rfl⟩
        obtain ⟨t2, hlt2⟩ : ∃ n, Ho.t (mH (i + 1)) = n := ⟨_, rfl⟩
        obtain ⟨d2, hld⟩ : ∃ n, Ho.d (mH (i + 1)) = n := ⟨_, rfl⟩
        obtain ⟨s2, hls⟩ : ∃ n, Ho.n (mH (i + 1)) = n := ⟨_, rfl⟩
        rw [hln, hlr, hlm, hlq] at O2 D2
        rw [hlt2, hld, hls] at D2
        have HG2 := Lib.hid (And.intro hln (And.intro hlr (And.intro hlm (And.intro hlq (And.intro hlt2 (And.intro hld hls))))))
        clear hln hlr hlm hlq hlt2 hld hls
        have D0k := D0
        obtain ⟨D0_c, D0_f, D0_z⟩ := D0.all
        obtain ⟨D2_c, D2_f, D2_z⟩ := D2.all
        go_wp2_with fail
        clear D0_c D0_f D0_z D2_c D2_f D2_z
        go_roundw
        case rel => exact ⟨i + 1, by omega, rfl, by go_num, D9.fill7_ne (by omega) _ _ _ _ _ _ _, HostAt.fill HG2.out D0k O2, (((((((hbw.setCell (by dsimp only; omega) _).setCell (by dsimp only; omega) _).setCell (by dsimp only; omega) _).setCell (by dsimp only; omega) _).setCell (by dsimp only; omega) _).setCell (by dsimp only; omega) _).setCell (by dsimp only; omega) _)⟩
        case measure => simp [intOf]; omega
    · obtain rfl : i = 3 := by omega
      have nB : w.heap.size ≠ B0 := by omega
      obtain ⟨D0_c, D0_f, D0_z⟩ := D0.all
      obtain ⟨D9_c, D9_f, D9_z⟩ := D9.all
      go_wp2_with fail
      refine bodyPost_ret (v := .tuple #[.agg #[.slice of1 n1 kf1, .slice or1 r1 kr1, .slice om1 m1 km1, .slice og1 q1 kg1, .int .i64 t1, .int .u64 d1, .int .i64 s1], .bool true]) (by simp [results, Try.results9, go_sem, D9_c]) rfl ?_
      exact hoRet' (k := fun v => .tuple #[v, .bool true]) (H := mH 3) HG1.out.1 HG1.out.2.1 HG1.out.2.2.1 HG1.out.2.2.2.1 HG1.out.2.2.2.2.1 HG1.out.2.2.2.2.2.1 HG1.out.2.2.2.2.2.2 (O1.fill7 (by omega) _ _ _ _ _ _ _) (Below.fill7 hbw (by omega) _ _ _ _ _ _ _)
end Go.Proofs.Ytbnngjhnkegliaa
