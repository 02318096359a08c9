/-
  A page of a pool shared, in the program: walked.
-/
import Derived.Test.YtjoopjgpjkmmhaaPlWrite
namespace Go.Proofs.Ytjoopjgpjkmmhaa
open Go.RowKit

def Pl.goodS (P : Pl) (g p : Int) : Bool := P.has g p && decide (0 ≤ P.fr g.toNat p.toNat)
/-- The least frame of the same content. -/
def Pl.least (P : Pl) (g p : Nat) : Option Nat := firstOf P.F (P.txt (P.fr g p).toNat)
def Pl.sh' (P : Pl) (g p : Nat) : Pl :=
  match P.least g p with
  | some q => if (q : Int) = P.fr g p then P else P.join g p q
  | none => P
def Pl.sok' (P : Pl) (g p : Nat) : Bool :=
  match P.least g p with
  | some q => !decide ((q : Int) = P.fr g p)
  | none => false
def Pl.sh (P : Pl) (g p : Int) : Pl := if P.goodS g p then P.sh' g.toNat p.toNat else P
def Pl.sok (P : Pl) (g p : Int) : Bool := P.goodS g p && P.sok' g.toNat p.toNat
theorem giveUp_ref (P : Pl) (g p q : Nat) (h : (q : Int) ≠ P.fr g p) : (P.giveUp g p).ref q = P.ref q := by
  unfold Pl.giveUp
  split
  · rfl
  · rename_i hn
    have hne : (P.fr g p).toNat ≠ q := by omega
    have e : ((P.setM g p (-1)).setR (P.fr g p).toNat (P.ref (P.fr g p).toNat - 1)).ref q = P.ref q := by
      unfold Pl.ref Pl.setR Pl.setM
      dsimp only
      rw [List.getElem?_set_ne hne]
    split <;> exact e
set_option maxRecDepth 100000 in
set_option maxHeartbeats 4000000 in
theorem pshare_own (v : Value) (P : Pl) (g p : Int) (w : World) (h : PlRow w v P) (hf : P.fit) (hs : P.small) : Calls Try.prog 14 #[v, .int .i64 g, .int .i64 p] w (RetPoolB (P.sh g p) (P.sok g p) w) := by
  obtain ⟨of, or', om, kf, kr, km, rfl, kf1, kf2, kr1, kr2, km1, km2⟩ := h.form
  obtain ⟨n, hn⟩ : ∃ n, P.F.length = n := ⟨_, rfl⟩
  obtain ⟨r, hr⟩ : ∃ n, P.R.length = n := ⟨_, rfl⟩
  obtain ⟨m, hm⟩ : ∃ n, P.M.length = n := ⟨_, rfl⟩
  rw [hn] at h kf1 ⊢
  rw [hr] at h kr1 ⊢
  rw [hm] at h km1 ⊢
  have HN := Lib.hid hn; clear hn
  have HR := Lib.hid hr; clear hr
  have HM := Lib.hid hm; clear hm
  have V := fun w h => phas_any (.agg #[.slice of n kf, .slice or' r kr, .slice om m km]) P g p w h hf
  have C := fun w h => pclone_any (.agg #[.slice of n kf, .slice or' r kr, .slice om m km]) P w h hs
  clear hf hs
  have HC := Lib.hid C; clear C
  obtain ⟨hv, hhv⟩ : ∃ b, P.has g p = b := ⟨_, rfl⟩
  rw [hhv] at V
  have HV := Lib.hid V; clear V
  have HHV := Lib.hid hhv; clear hhv
  have D1 := (HasBlock.made w #[.slice of n kf, .slice or' r kr, .slice om m km] 26).alloc (.cells #[.slice none 0 0, .slice none 0 0, .slice none 0 0] 26)
  have D2 := HasBlock.made (w.alloc (.cells #[.slice of n kf, .slice or' r kr, .slice om m km] 26)) #[.slice none 0 0, .slice none 0 0, .slice none 0 0] 26
  have hbw : Below w.heap.size w ((w.alloc (.cells #[.slice of n kf, .slice or' r kr, .slice om m km] 26)).alloc (.cells #[.slice none 0 0, .slice none 0 0, .slice none 0 0] 26)) := (by repeat (first | with_reducible exact Below.refl _ _ | with_reducible refine Below.drew ?_ | (with_reducible refine Below.alloc ?_ (by first | exact Nat.le_refl _ | omega | (dsimp only; omega) | (simp only [sizes]; omega)) _) | (with_reducible refine Below.setCell ?_ (by first | exact Nat.le_refl _ | omega | (dsimp only; omega) | (simp only [sizes]; omega)) _) | (refine Below.trans ?_ (Below.mono (by with_reducible assumption) (by first | exact Nat.le_refl _ | omega | (dsimp only; omega) | (simp only [sizes]; omega))))))
  have hz : w.heap.size + 1 + 1 ≤ ((w.alloc (.cells #[.slice of n kf, .slice or' r kr, .slice om m km] 26)).alloc (.cells #[.slice none 0 0, .slice none 0 0, .slice none 0 0] 26)).heap.size := by simp only [sizes]; omega
  simp only [sizes] at D2
  replace h := h.below hbw
  go_enter Try.func14, Try.ntmps14
  go_wp2_with fail
  with_reducible refine (HC.out _ h).mono ?_
  rintro e w1 ⟨of1, or1, om1, kf1', kr1', km1', us, rfl, hO, hb1⟩
  rw [HN.out, HR.out, HM.out] at hO ⊢
  replace hO := hO.lower hz
  replace D1 := D1.below hb1
  replace D2 := D2.below hb1
  replace h := h.below hb1
  replace hbw := hbw.trans (hb1.mono hbw.size)
  replace hz := Nat.le_trans hz hb1.size
  clear hb1
  have hT := hO.lt
  obtain ⟨D1_c, D1_f, D1_z⟩ := D1.all
  obtain ⟨D2_c, D2_f, D2_z⟩ := D2.all
  go_wp2_with fail
  clear D1_c D1_f D1_z
  clear D2_c D2_f D2_z
  have hbx : Below w1.heap.size w1 (w1.alloc (.cells #[.slice of1 n kf1', .slice or1 r kr1', .slice om1 m km1'] 26)) := (Below.refl _ _).alloc (Nat.le_refl _) _
  replace D1 := D1.below hbx
  replace D2 := D2.below hbx
  have D3 := HasBlock.made w1 #[.slice of1 n kf1', .slice or1 r kr1', .slice om1 m km1'] 26
  replace h := h.below hbx
  replace hO := hO.below hbx
  replace hbw := hbw.trans (hbx.mono hbw.size)
  have hz2 : w1.heap.size + 1 ≤ (w1.alloc (.cells #[.slice of1 n kf1', .slice or1 r kr1', .slice om1 m km1'] 26)).heap.size := Nat.le_of_eq (World.size_alloc ..).symm
  clear hbx
  obtain ⟨B, hB⟩ : ∃ B, w1.heap.size = B := ⟨_, rfl⟩
  rw [hB] at D3 hz hT hz2 ⊢
  generalize hW : w1.alloc (.cells #[.slice of1 n kf1', .slice or1 r kr1', .slice om1 m km1'] 26) = w2 at D1 D2 D3 h hO hbw hz2 ⊢
  clear hW hB
  with_reducible refine (HV.out _ h).mono ?_
  rintro e w3 ⟨rfl, hb3⟩
  replace hz2 := Nat.le_trans hz2 hb3.size
  replace D1 := D1.below hb3
  replace D2 := D2.below hb3
  replace D3 := D3.below hb3
  replace h := h.below hb3
  replace hO := hO.below hb3
  replace hbw := hbw.trans (hb3.mono hbw.size)
  clear hb3
  cases hv
  · have hno : P.goodS g p = false := by unfold Pl.goodS; rw [HHV.out]; rfl
    have HNO := Lib.hid hno; clear hno
    obtain ⟨D1_c, D1_f, D1_z⟩ := D1.all
    obtain ⟨D2_c, D2_f, D2_z⟩ := D2.all
    obtain ⟨D3_c, D3_f, D3_z⟩ := D3.all
    go_wp2_with fail
    refine bodyPost_ret (v := .tuple #[.agg #[.slice of1 n kf1', .slice or1 r kr1', .slice om1 m km1'], .bool false]) (by simp [results, Try.results14, go_sem, D2_c]) rfl ?_
    rw [show P.sok g p = false by unfold Pl.sok; rw [HNO.out]; rfl]
    exact ret_poolb HN.out HR.out HM.out (by unfold Pl.sh; rw [HNO.out]; rfl) (((hO.setlow (b := w.heap.size + 1) (j := 0) (by omega) _).setlow (b := w.heap.size + 1) (j := 1) (by omega) _).setlow (b := w.heap.size + 1) (j := 2) (by omega) _) (((hbw.setCell (p := ⟨w.heap.size + 1, 0, none⟩) (by dsimp only; omega) _).setCell (p := ⟨w.heap.size + 1, 1, none⟩) (by dsimp only; omega) _).setCell (p := ⟨w.heap.size + 1, 2, none⟩) (by dsimp only; omega) _)
  have hh := HHV.out
  unfold Pl.has at hh
  rw [Bool.and_eq_true] at hh
  obtain ⟨hok, his⟩ := hh
  have H := Pl.ok_iff.1 hok
  have hi := his
  unfold Pl.is at hi
  rw [decide_eq_true_eq] at hi
  obtain ⟨i, rfl⟩ : ∃ i : Nat, g = i := ⟨g.toNat, by omega⟩
  obtain ⟨k, rfl⟩ : ∃ i : Nat, p = i := ⟨p.toNat, by omega⟩
  rw [Int.toNat_natCast] at hi
  obtain ⟨l, f, hl, hp⟩ := Pl.is_at his
  have hfb := H.page hl hp
  have hfr := Pl.fr_eq hl hp
  have hRF := H.r
  have hrb : -1000000 ≤ P.ref (P.fr i k).toNat ∧ P.ref (P.fr i k).toNat ≤ 1000000 := by
    by_cases h0 : f < 0
    · have h2 : P.ref (P.fr i k).toNat = P.cnt (P.fr i k).toNat := H.ref_eq (by rw [hfr]; have := H.n1; omega)
      have := H.cnt_le (P.fr i k).toNat
      omega
    · have h2 : P.ref (P.fr i k).toNat = P.cnt (P.fr i k).toNat := H.ref_eq (by rw [hfr]; omega)
      have := H.cnt_le (P.fr i k).toNat
      omega
  have hfF : P.fr i k < P.F.length := by rw [hfr]; exact hfb.2
  have G := fun w' hO => give_any (w.heap.size + 1 + 1) B (.slice of1 n kf1') (.slice or1 r kr1') (.slice om1 m km1') us P i k w' hO hT his hfF hRF hrb
  have HG := Lib.hid G; clear G
  have HFR := Lib.hid hfr; clear hfr
  have HOK := Lib.hid hok; clear hok
  have HIS := Lib.hid his; clear his
  have HRB := Lib.hid hrb; clear hrb
  rw [HN.out] at hfb
  clear hRF hfF h
  obtain ⟨bm, km2, bu, ku, e0, hus, c1, c2, c3, k1, k2, k3, k4, k5⟩ := hO.page hl hp
  injection e0 with e0 e9 e10
  subst e0 e10
  clear e9
  have lu := hT.u i _ hus bu rfl
  have HU := Lib.hid hus; clear hus
  have gi : (i : Int) < (m : Int) := by rw [← HM.out]; exact hi.2.1
  have ki : (k : Int) < (l.length : Int) := by rw [← Pl.pages_eq hl]; exact hi.2.2.2
  have HL := Lib.hid hl; clear hl
  have HP := Lib.hid hp; clear hp
  have n1 : B ≠ bu := by omega
  by_cases h0 : f < 0
  · have hno : P.goodS i k = false := by unfold Pl.goodS; rw [HHV.out, Int.toNat_natCast, Int.toNat_natCast, HFR.out]; exact decide_eq_false (by omega)
    have HNO := Lib.hid hno; clear hno
    have HSO : Hid (P.sok i k = false) := by unfold Pl.sok; rw [HNO.out]; rfl
    have HSH : Hid (P.sh i k = P) := by unfold Pl.sh; rw [HNO.out]; rfl
    obtain ⟨D1_c, D1_f, D1_z⟩ := D1.all
    obtain ⟨D2_c, D2_f, D2_z⟩ := D2.all
    obtain ⟨D3_c, D3_f, D3_z⟩ := D3.all
    go_wp2_with fail
    refine bodyPost_ret (v := .tuple #[.agg #[.slice of1 n kf1', .slice or1 r kr1', .slice (some ⟨bm, 0, none⟩) m km1'], .bool false]) (by simp [results, Try.results14, go_sem, D2_c]) rfl ?_
    rw [HSO.out]
    exact ret_poolb HN.out HR.out HM.out HSH.out (((hO.setlow (b := w.heap.size + 1) (j := 0) (by omega) _).setlow (b := w.heap.size + 1) (j := 1) (by omega) _).setlow (b := w.heap.size + 1) (j := 2) (by omega) _) (((hbw.setCell (p := ⟨w.heap.size + 1, 0, none⟩) (by dsimp only; omega) _).setCell (p := ⟨w.heap.size + 1, 1, none⟩) (by dsimp only; omega) _).setCell (p := ⟨w.heap.size + 1, 2, none⟩) (by dsimp only; omega) _)
  obtain ⟨j, rfl⟩ : ∃ i : Nat, f = i := ⟨f.toNat, by omega⟩
  have hgood : P.goodS i k = true := by unfold Pl.goodS; rw [HHV.out, Int.toNat_natCast, Int.toNat_natCast, HFR.out]; exact decide_eq_true (by omega)
  have hsh : P.sh i k = P.sh' i k := by unfold Pl.sh; rw [hgood, Int.toNat_natCast, Int.toNat_natCast]; rfl
  have hsok : P.sok i k = P.sok' i k := by unfold Pl.sok; rw [hgood, Int.toNat_natCast, Int.toNat_natCast]; rfl
  have HSH := Lib.hid hsh; clear hsh
  have HSO := Lib.hid hsok; clear hsok hgood
  obtain ⟨s, hs⟩ := get_lt (xs := P.F) (k := j) (by rw [HN.out]; omega)
  have htx : P.txt j = s := by unfold Pl.txt; rw [hs]; rfl
  obtain ⟨gf, rfl, f1, f2⟩ := hO.f.addr HN.out (by omega)
  have IX := fun w h => index_any (.slice (some ⟨gf, 0, none⟩) n kf1') P.F s w h
  obtain ⟨q, hfo⟩ : ∃ q, firstOf P.F s = some q := by
    cases hfo : firstOf P.F s with
    | none => exact absurd hs (firstOf_none.1 hfo j)
    | some q => exact ⟨q, rfl⟩
  have hq := firstOf_some.1 hfo
  have hqj : q ≤ j := by
    rcases Nat.lt_or_ge j q with h | h
    · exact absurd hs (hq.2 j h)
    · exact h
  have hidx : idxI P.F s = q := by unfold idxI; rw [hfo]
  rw [hidx] at IX
  have HIX := Lib.hid IX; clear IX hidx
  have hlst : P.least i k = some q := by unfold Pl.least; rw [HFR.out, Int.toNat_natCast, htx]; exact hfo
  obtain ⟨t1, t2⟩ := hO.f.at hs
  have jn : (j : Int) < (n : Int) := hfb.2
  have j0 : (0 : Int) ≤ (j : Int) := by omega
  have HLS := Lib.hid hlst; clear hlst hq hfo htx hs
  obtain ⟨D1_c, D1_f, D1_z⟩ := D1.all
  obtain ⟨D2_c, D2_f, D2_z⟩ := D2.all
  obtain ⟨D3_c, D3_f, D3_z⟩ := D3.all
  go_wp2_with fail
  clear D1_c D1_f D1_z
  clear D2_c D2_f D2_z
  clear D3_c D3_f D3_z
  have hre : Below w3.heap.size w3 w3 := Below.refl _ _
  have HRE := Lib.hid hre; clear hre
  obtain ⟨D1_c, D1_f, D1_z⟩ := D1.all
  obtain ⟨D2_c, D2_f, D2_z⟩ := D2.all
  obtain ⟨D3_c, D3_f, D3_z⟩ := D3.all
  refine wp_region_quiet_below (by kernel_rfl) (by kernel_rfl) ?_
  repeat (go_big_quiet_step (first | fail | (go_at_call 34; exact quiet_ret (HIX.out _ (hO.below (below_regrown _ _ _)).f.row))))
  refine wpQuiet_nil ?_
  intro w4 hw4
  have hb4 := below_of_regrown hw4
  clear hw4
  obtain ⟨hc4, hf4⟩ := bcell hb4
  have hz4 := bsize hb4
  try simp only [sizes1] at hz4
  try simp only [sizes] at hc4 hf4
  clear D1_c D1_f D1_z
  clear D2_c D2_f D2_z
  clear D3_c D3_f D3_z
  clear hc4 hf4 hz4
  replace D1 := D1.below hb4
  replace D2 := D2.below hb4
  replace D3 := D3.below hb4
  replace hO := hO.below hb4
  replace hbw := hbw.trans (hb4.mono hbw.size)
  replace hz2 := Nat.le_trans hz2 hb4.size
  clear hb4
  clear c1 c2 c3 k2 k4 t1 t2
  by_cases hqe : q = j
  · subst hqe
    have hw1 : P.sh' i k = P := by unfold Pl.sh'; rw [HLS.out]; dsimp only; rw [if_pos HFR.out.symm]
    have hw2 : P.sok' i k = false := by unfold Pl.sok'; rw [HLS.out]; dsimp only; rw [HFR.out, decide_eq_true rfl]; rfl
    have HW1 := Lib.hid hw1; clear hw1
    have HW2 := Lib.hid hw2; clear hw2
    obtain ⟨D1_c, D1_f, D1_z⟩ := D1.all
    obtain ⟨D2_c, D2_f, D2_z⟩ := D2.all
    obtain ⟨D3_c, D3_f, D3_z⟩ := D3.all
    go_wp2_with fail
    refine bodyPost_ret (v := .tuple #[.agg #[.slice (some ⟨gf, 0, none⟩) n kf1', .slice or1 r kr1', .slice (some ⟨bm, 0, none⟩) m km1'], .bool false]) (by simp [results, Try.results14, go_sem, D2_c]) rfl ?_
    rw [HSO.out, HW2.out]
    exact ret_poolb HN.out HR.out HM.out (HSH.out.trans HW1.out) (((hO.setlow (b := w.heap.size + 1) (j := 0) (by omega) _).setlow (b := w.heap.size + 1) (j := 1) (by omega) _).setlow (b := w.heap.size + 1) (j := 2) (by omega) _) (((hbw.setCell (p := ⟨w.heap.size + 1, 0, none⟩) (by dsimp only; omega) _).setCell (p := ⟨w.heap.size + 1, 1, none⟩) (by dsimp only; omega) _).setCell (p := ⟨w.heap.size + 1, 2, none⟩) (by dsimp only; omega) _)
  have hqn : q < n := by omega
  have hne : (q : Int) ≠ P.fr i k := by rw [HFR.out]; omega
  have hw1 : P.sh' i k = P.join i k q := by unfold Pl.sh'; rw [HLS.out]; dsimp only; rw [if_neg hne]
  have hw2 : P.sok' i k = true := by unfold Pl.sok'; rw [HLS.out]; dsimp only; rw [decide_eq_false hne]; rfl
  have hrq := giveUp_ref P i k q hne
  have hrq2 : P.ref q = P.cnt q := H.ref_eq (by rw [HN.out]; exact hqn)
  have hrq3 := H.cnt_le q
  have HW1 := Lib.hid hw1; clear hw1
  have HW2 := Lib.hid hw2; clear hw2
  have e1 : (q == j) = false := by rw [beq_eq_false_iff_ne]; exact hqe
  have e2 : ((q : Int) == (j : Int)) = false := by rw [beq_eq_false_iff_ne]; omega
  clear hne hqe
  obtain ⟨D1_c, D1_f, D1_z⟩ := D1.all
  obtain ⟨D2_c, D2_f, D2_z⟩ := D2.all
  obtain ⟨D3_c, D3_f, D3_z⟩ := D3.all
  go_wp2_with fail
  clear D1_c D1_f D1_z
  clear D2_c D2_f D2_z
  clear D3_c D3_f D3_z
  with_reducible refine (HG.out _ hO).mono ?_
  rintro e w6 ⟨rfl, hO6, hb6⟩
  replace D1 := D1.btw hb6 (.inl (by omega))
  replace D2 := D2.btw hb6 (.inl (by omega))
  replace D3 := D3.btw hb6 (.inr (Nat.le_refl _))
  replace hbw := hbw.trans ((hb6.below (by omega)).mono (by omega))
  replace hz2 := Nat.le_trans hz2 hb6.size
  clear hb6 hO e1 e2
  have L := P.giveUp_len i k
  have hL1 := L.1.trans HN.out
  have hL2 := L.2.1.trans HR.out
  have hL3 := L.2.2.trans HM.out
  have his2 : (P.giveUp i k).is i k = true := (P.giveUp_is i k i k).trans HIS.out
  obtain ⟨l2, f2, hl2, hp2⟩ := Pl.is_at his2
  have hlen : l2.length = l.length := by rw [← Pl.pages_eq hl2, Pl.giveUp_pages, Pl.pages_eq HL.out]
  obtain ⟨bm2, km3, bu2, ku2, e0, hus2, c1, c2, c3, k1', k2', k3', k4', k5'⟩ := hO6.page hl2 hp2
  rw [hlen] at hus2 c1
  injection e0 with e0 e9 e10
  injection e0 with e0
  injection e0 with e0 e8
  subst e0
  clear e9 e10
  rw [HU.out] at hus2
  injection hus2 with hus2
  injection hus2 with e0 e9 e10
  injection e0 with e0
  injection e0 with e0 e8
  subst e0
  clear e9 hlen hl2 hp2 his2
  obtain ⟨x2, hx2⟩ := get_lt (xs := (P.giveUp i k).R) (k := q) (by rw [L.2.1, H.r, HN.out]; exact hqn)
  obtain ⟨gr, rfl, r1', r2'⟩ := hO6.r.addr hL2 (by have := lt_of_get hx2; rw [hL2] at this; omega)
  obtain ⟨u3, u4⟩ := hO6.r.at hx2
  have hxr : (P.giveUp i k).ref q = x2 := by unfold Pl.ref; rw [hx2]; rfl
  have hx2b : 0 ≤ x2 ∧ x2 ≤ 256 := by rw [← hxr, hrq, hrq2]; omega
  have lr := hT.r gr rfl
  have qr : (q : Int) < (r : Int) := by have := lt_of_get hx2; rw [hL2] at this; omega
  have n3 : B ≠ gr := by omega
  have n4 := hO6.r_ne HU.out
  have n7 : bm ≠ gr := fun e => own_ne_type hO6.m hO6.r (by decide) (k := bm) rfl (by rw [e]; rfl)
  have hO7 := (hO6.putM HU.out k q).putR q (x2 + 1)
  have hE : P.join i k q = ((P.giveUp i k).setM i k q).setR q (x2 + 1) := by unfold Pl.join; rw [hxr]
  rw [← hE] at hO7
  have hl1 : (P.join i k q).F.length = n := by rw [hE]; simp only [Pl.setR, Pl.setM]; exact hL1
  have hl2 : (P.join i k q).R.length = r := by rw [hE]; simp only [Pl.setR, Pl.setM, List.length_set]; exact hL2
  have hl3 : (P.join i k q).M.length = m := by rw [hE]; simp only [Pl.setR, Pl.setM, List.length_set]; exact hL3
  have Hl1 := Lib.hid hl1
  have Hl2 := Lib.hid hl2
  have Hl3 := Lib.hid hl3
  have hbw7 := (hbw.setCell (p := ⟨bu, k, none⟩) (by dsimp only; omega) (.int .i64 q)).setCell (p := ⟨gr, q, none⟩) (by dsimp only; omega) (.int .i64 (x2 + 1))
  clear hl1 hl2 hl3 hE hL1 hL2 hL3 L hx2 hO6 hbw hrq hrq2 hxr
  have hbw := hbw7
  clear hbw7
  obtain ⟨D1_c, D1_f, D1_z⟩ := D1.all
  obtain ⟨D2_c, D2_f, D2_z⟩ := D2.all
  obtain ⟨D3_c, D3_f, D3_z⟩ := D3.all
  go_wp2_with fail
  refine bodyPost_ret (v := .tuple #[.agg #[.slice (some ⟨gf, 0, none⟩) n kf1', .slice (some ⟨gr, 0, none⟩) r kr1', .slice (some ⟨bm, 0, none⟩) m km1'], .bool true]) (by simp [results, Try.results14, go_sem, D2_c]) rfl ?_
  rw [HSO.out, HW2.out]
  exact ret_poolb (Q := P.join i k q) Hl1.out Hl2.out Hl3.out (HSH.out.trans HW1.out) (((hO7.setlow (b := w.heap.size + 1) (j := 0) (by omega) _).setlow (b := w.heap.size + 1) (j := 1) (by omega) _).setlow (b := w.heap.size + 1) (j := 2) (by omega) _) (((hbw.setCell (p := ⟨w.heap.size + 1, 0, none⟩) (by dsimp only; omega) _).setCell (p := ⟨w.heap.size + 1, 1, none⟩) (by dsimp only; omega) _).setCell (p := ⟨w.heap.size + 1, 2, none⟩) (by dsimp only; omega) _)
theorem pshare_any (v : Value) (P : Pl) (g p : Int) (w : World) (h : PlRow w v P) (hf : P.fit) (hs : P.small) : Calls Try.prog 14 #[v, .int .i64 g, .int .i64 p] w (RetPool2 (P.sh g p) (P.sok g p) w) := (pshare_own v P g p w h hf hs).mono fun _ _ h => h.two
end Go.Proofs.Ytjoopjgpjkmmhaa
