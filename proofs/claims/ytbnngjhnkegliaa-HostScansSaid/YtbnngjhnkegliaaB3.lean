/-
  Texts joined for the hand-in, in build order: PlWrite PlShare PlNew PlAdd Tax. No law is proved here.
-/
import Derived.Test.YtbnngjhnkegliaaB1
import Derived.Test.YtbnngjhnkegliaaB2
import Derived.Laws.CopyOwn
import Derived.IntWalk
import Derived.Deep.Cut
import Derived.Deep.CutRange
namespace Go.Proofs.Ytbnngjhnkegliaa
open Go.RowKit

def Pl.goodW (P : Pl) (g p : Int) (d : ByteArray) : Bool := P.has g p && decide (d.size = 128)
/-- Whether the page's frame is its own. -/
def Pl.own (P : Pl) (g p : Nat) : Bool := decide (0 ≤ P.fr g p) && decide (P.ref (P.fr g p).toNat = 1)
def Pl.wr' (P : Pl) (g p : Nat) (d : ByteArray) : Pl :=
  if zeroB d then P.giveUp g p
  else if P.own g p then P.setF (P.fr g p).toNat d
  else match firstOf P.F ⟨#[]⟩ with
    | some i => P.take g p i d
    | none => P
def Pl.wok' (P : Pl) (g p : Nat) (d : ByteArray) : Bool := zeroB d || P.own g p || (firstOf P.F ⟨#[]⟩).isSome
def Pl.wr (P : Pl) (g p : Int) (d : ByteArray) : Pl := if P.goodW g p d then P.wr' g.toNat p.toNat d else P
def Pl.wok (P : Pl) (g p : Int) (d : ByteArray) : Bool := P.goodW g p d && P.wok' g.toNat p.toNat d
theorem Pl.giveUp_len (P : Pl) (g p : Nat) : (P.giveUp g p).F.length = P.F.length ∧ (P.giveUp g p).R.length = P.R.length ∧ (P.giveUp g p).M.length = P.M.length := by
  unfold Pl.giveUp
  split
  · exact ⟨rfl, rfl, rfl⟩
  · split <;> simp [Pl.setF, Pl.setR, Pl.setM]
theorem Pl.setM_pages (P : Pl) (g p : Nat) (x : Int) (g' : Nat) : (P.setM g p x).pages g' = if g = g' ∧ g < P.M.length then (P.pages g).set p x else P.pages g' := by
  unfold Pl.pages Pl.setM
  dsimp only
  rw [List.getElem?_set]
  by_cases e : g = g'
  · subst e
    by_cases hl : g < P.M.length
    · rw [if_pos rfl, if_pos hl, if_pos ⟨rfl, hl⟩]; rfl
    · rw [if_pos rfl, if_neg hl, if_neg (fun h => hl h.2), List.getElem?_eq_none (by omega)]
  · rw [if_neg e, if_neg (fun h => e h.1)]
theorem Pl.giveUp_pages (P : Pl) (g p : Nat) (g' : Nat) : ((P.giveUp g p).pages g').length = (P.pages g').length := by
  have h : ∀ x, ((P.setM g p x).pages g').length = (P.pages g').length := fun x => by
    rw [Pl.setM_pages]
    split
    · rename_i h
      rw [List.length_set, h.1]
    · rfl
  unfold Pl.giveUp
  split
  · rfl
  · split <;> exact h _
theorem Pl.giveUp_is (P : Pl) (g p : Nat) (a b : Int) : (P.giveUp g p).is a b = P.is a b := by
  unfold Pl.is
  rw [Pl.giveUp_pages, (P.giveUp_len g p).2.2]
theorem ret_pool2' {P Q : Pl} {ok : Bool} {base n r m : Nat} {w w' : World} {of or' om : Option Addr} {kf kr km : Nat} {us : List Value} (h1 : Q.F.length = n) (h2 : Q.R.length = r) (h3 : Q.M.length = m) (e : P = Q) (h : OwnP base w' (.slice of n kf) (.slice or' r kr) (.slice om m km) us Q) (hb : Below w.heap.size w w') : RetPool2 P ok w (.returned (.tuple #[.agg #[.slice of n kf, .slice or' r kr, .slice om m km], .bool ok])) w' := by
  subst e
  subst h1 h2 h3
  exact ret_pool2 h hb
theorem ret_poolb {P Q : Pl} {ok : Bool} {base n r m : Nat} {w w' : World} {of or' om : Option Addr} {kf kr km : Nat} {us : List Value} (h1 : Q.F.length = n) (h2 : Q.R.length = r) (h3 : Q.M.length = m) (e : P = Q) (h : OwnP base w' (.slice of n kf) (.slice or' r kr) (.slice om m km) us Q) (hb : Below w.heap.size w w') (hz : w.heap.size ≤ base := by omega) : RetPoolB P ok w (.returned (.tuple #[.agg #[.slice of n kf, .slice or' r kr, .slice om m km], .bool ok])) w' := by
  subst e
  subst h1 h2 h3
  exact ⟨_, _, _, _, _, _, _, rfl, h.lower hz, hb⟩
set_option maxRecDepth 100000 in
set_option maxHeartbeats 4000000 in
theorem pwrite_own (v : Value) (P : Pl) (g p : Int) (d : ByteArray) (w : World) (h : PlRow w v P) (hf : P.fit) (hs : P.small) : Calls Try.prog 29 #[v, .int .i64 g, .int .i64 p, .string d] w (RetPoolB (P.wr g p d) (P.wok g p d) w) := by
  obtain ⟨of, or', om, kf, kr, km, rfl, kf1, kf2, kr1, kr2, km1, km2⟩ := h.form
  obtain ⟨n, hn⟩ : ∃ n, P.F.length = n := ⟨_, rfl⟩
  obtain ⟨r, hr⟩ : ∃ n, P.R.length = n := ⟨_, rfl⟩
  obtain ⟨m, hm⟩ : ∃ n, P.M.length = n := ⟨_, rfl⟩
  rw [hn] at h kf1 ⊢
  rw [hr] at h kr1 ⊢
  rw [hm] at h km1 ⊢
  have HN := Lib.hid hn; clear hn
  have HR := Lib.hid hr; clear hr
  have HM := Lib.hid hm; clear hm
  have V := fun w h => phas_any (.agg #[.slice of n kf, .slice or' r kr, .slice om m km]) P g p w h hf
  have C := fun w h => pclone_any (.agg #[.slice of n kf, .slice or' r kr, .slice om m km]) P w h hs
  clear hf hs
  have HC := Lib.hid C; clear C
  obtain ⟨hv, hhv⟩ : ∃ b, P.has g p = b := ⟨_, rfl⟩
  rw [hhv] at V
  have HV := Lib.hid V; clear V
  have HHV := Lib.hid hhv; clear hhv
  have D1 := (HasBlock.made w #[.slice of n kf, .slice or' r kr, .slice om m km] 27).alloc (.cells #[.slice none 0 0, .slice none 0 0, .slice none 0 0] 27)
  have D2 := HasBlock.made (w.alloc (.cells #[.slice of n kf, .slice or' r kr, .slice om m km] 27)) #[.slice none 0 0, .slice none 0 0, .slice none 0 0] 27
  have hbw : Below w.heap.size w ((w.alloc (.cells #[.slice of n kf, .slice or' r kr, .slice om m km] 27)).alloc (.cells #[.slice none 0 0, .slice none 0 0, .slice none 0 0] 27)) := (by repeat (first | with_reducible exact Below.refl _ _ | with_reducible refine Below.drew ?_ | (with_reducible refine Below.alloc ?_ (by first | exact Nat.le_refl _ | omega | (dsimp only; omega) | (simp only [sizes]; omega)) _) | (with_reducible refine Below.setCell ?_ (by first | exact Nat.le_refl _ | omega | (dsimp only; omega) | (simp only [sizes]; omega)) _) | (refine Below.trans ?_ (Below.mono (by with_reducible assumption) (by first | exact Nat.le_refl _ | omega | (dsimp only; omega) | (simp only [sizes]; omega))))))
  have hz : w.heap.size + 1 + 1 ≤ ((w.alloc (.cells #[.slice of n kf, .slice or' r kr, .slice om m km] 27)).alloc (.cells #[.slice none 0 0, .slice none 0 0, .slice none 0 0] 27)).heap.size := by simp only [sizes]; omega
  simp only [sizes] at D2
  replace h := h.below hbw
  go_enter Try.func29, Try.ntmps29
  go_wp2_with fail
  with_reducible refine (HC.out _ h).mono ?_
  rintro e w1 ⟨of1, or1, om1, kf1', kr1', km1', us, rfl, hO, hb1⟩
  rw [HN.out, HR.out, HM.out] at hO ⊢
  replace hO := hO.lower hz
  replace D1 := D1.below hb1
  replace D2 := D2.below hb1
  replace h := h.below hb1
  replace hbw := hbw.trans (hb1.mono hbw.size)
  replace hz := Nat.le_trans hz hb1.size
  clear hb1
  have hT := hO.lt
  obtain ⟨D1_c, D1_f, D1_z⟩ := D1.all
  obtain ⟨D2_c, D2_f, D2_z⟩ := D2.all
  go_wp2_with fail
  clear D1_c D1_f D1_z
  clear D2_c D2_f D2_z
  have hbx : Below w1.heap.size w1 (w1.alloc (.cells #[.slice of1 n kf1', .slice or1 r kr1', .slice om1 m km1'] 27)) := (Below.refl _ _).alloc (Nat.le_refl _) _
  replace D1 := D1.below hbx
  replace D2 := D2.below hbx
  have D3 := HasBlock.made w1 #[.slice of1 n kf1', .slice or1 r kr1', .slice om1 m km1'] 27
  replace h := h.below hbx
  replace hO := hO.below hbx
  replace hbw := hbw.trans (hbx.mono hbw.size)
  have hz2 : w1.heap.size + 1 ≤ (w1.alloc (.cells #[.slice of1 n kf1', .slice or1 r kr1', .slice om1 m km1'] 27)).heap.size := Nat.le_of_eq (World.size_alloc ..).symm
  clear hbx
  obtain ⟨B, hB⟩ : ∃ B, w1.heap.size = B := ⟨_, rfl⟩
  rw [hB] at D3 hz hT hz2 ⊢
  generalize hW : w1.alloc (.cells #[.slice of1 n kf1', .slice or1 r kr1', .slice om1 m km1'] 27) = w2 at D1 D2 D3 h hO hbw hz2 ⊢
  clear hW hB
  with_reducible refine (HV.out _ h).mono ?_
  rintro e w3 ⟨rfl, hb3⟩
  replace hz2 := Nat.le_trans hz2 hb3.size
  replace D1 := D1.below hb3
  replace D2 := D2.below hb3
  replace D3 := D3.below hb3
  replace h := h.below hb3
  replace hO := hO.below hb3
  replace hbw := hbw.trans (hb3.mono hbw.size)
  clear hb3
  cases hv
  · have hno : P.goodW g p d = false := by unfold Pl.goodW; rw [HHV.out]; rfl
    have HNO := Lib.hid hno; clear hno
    obtain ⟨D1_c, D1_f, D1_z⟩ := D1.all
    obtain ⟨D2_c, D2_f, D2_z⟩ := D2.all
    obtain ⟨D3_c, D3_f, D3_z⟩ := D3.all
    go_wp2_with fail
    refine bodyPost_ret (v := .tuple #[.agg #[.slice of1 n kf1', .slice or1 r kr1', .slice om1 m km1'], .bool false]) (by simp [results, Try.results29, go_sem, D2_c]) rfl ?_
    rw [show P.wok g p d = false by unfold Pl.wok; rw [HNO.out]; rfl]
    exact ret_poolb HN.out HR.out HM.out (by unfold Pl.wr; rw [HNO.out]; rfl) (((hO.setlow (b := w.heap.size + 1) (j := 0) (by omega) _).setlow (b := w.heap.size + 1) (j := 1) (by omega) _).setlow (b := w.heap.size + 1) (j := 2) (by omega) _) (((hbw.setCell (p := ⟨w.heap.size + 1, 0, none⟩) (by dsimp only; omega) _).setCell (p := ⟨w.heap.size + 1, 1, none⟩) (by dsimp only; omega) _).setCell (p := ⟨w.heap.size + 1, 2, none⟩) (by dsimp only; omega) _)
  by_cases hd : d.size = 128
  rotate_left
  · have hno : P.goodW g p d = false := by unfold Pl.goodW; rw [HHV.out, decide_eq_false hd]; rfl
    have HNO := Lib.hid hno; clear hno
    have de1 : ((d.size : Int) != 128) = true := by rw [bne_iff_ne]; omega
    have de2 : (d.size != 128) = true := by rw [bne_iff_ne]; omega
    obtain ⟨D1_c, D1_f, D1_z⟩ := D1.all
    obtain ⟨D2_c, D2_f, D2_z⟩ := D2.all
    obtain ⟨D3_c, D3_f, D3_z⟩ := D3.all
    go_wp2_with fail
    refine bodyPost_ret (v := .tuple #[.agg #[.slice of1 n kf1', .slice or1 r kr1', .slice om1 m km1'], .bool false]) (by simp [results, Try.results29, go_sem, D2_c]) rfl ?_
    rw [show P.wok g p d = false by unfold Pl.wok; rw [HNO.out]; rfl]
    exact ret_poolb HN.out HR.out HM.out (by unfold Pl.wr; rw [HNO.out]; rfl) (((hO.setlow (b := w.heap.size + 1) (j := 0) (by omega) _).setlow (b := w.heap.size + 1) (j := 1) (by omega) _).setlow (b := w.heap.size + 1) (j := 2) (by omega) _) (((hbw.setCell (p := ⟨w.heap.size + 1, 0, none⟩) (by dsimp only; omega) _).setCell (p := ⟨w.heap.size + 1, 1, none⟩) (by dsimp only; omega) _).setCell (p := ⟨w.heap.size + 1, 2, none⟩) (by dsimp only; omega) _)
  have hgood : P.goodW g p d = true := by unfold Pl.goodW; rw [HHV.out, decide_eq_true hd]; rfl
  have hwr : P.wr g p d = P.wr' g.toNat p.toNat d := by unfold Pl.wr; rw [hgood]; rfl
  have hwok : P.wok g p d = P.wok' g.toNat p.toNat d := by unfold Pl.wok; rw [hgood]; rfl
  clear hgood
  have de1 : ((d.size : Int) != 128) = false := by rw [bne_eq_false_iff_eq]; omega
  have de2 : (d.size != 128) = false := by rw [bne_eq_false_iff_eq]; omega
  clear hd
  have hh := HHV.out
  unfold Pl.has at hh
  rw [Bool.and_eq_true] at hh
  obtain ⟨hok, his⟩ := hh
  have H := Pl.ok_iff.1 hok
  have hi := his
  unfold Pl.is at hi
  rw [decide_eq_true_eq] at hi
  obtain ⟨i, rfl⟩ : ∃ i : Nat, g = i := ⟨g.toNat, by omega⟩
  obtain ⟨k, rfl⟩ : ∃ i : Nat, p = i := ⟨p.toNat, by omega⟩
  rw [Int.toNat_natCast, Int.toNat_natCast] at hwr hwok
  have HWR := Lib.hid hwr; clear hwr
  have HWOK := Lib.hid hwok; clear hwok
  rw [Int.toNat_natCast] at hi
  obtain ⟨l, f, hl, hp⟩ := Pl.is_at his
  have hfb := H.page hl hp
  have hfr := Pl.fr_eq hl hp
  have hRF := H.r
  have hrb : -1000000 ≤ P.ref (P.fr i k).toNat ∧ P.ref (P.fr i k).toNat ≤ 1000000 := by
    by_cases h0 : f < 0
    · have h2 : P.ref (P.fr i k).toNat = P.cnt (P.fr i k).toNat := H.ref_eq (by rw [hfr]; have := H.n1; omega)
      have := H.cnt_le (P.fr i k).toNat
      omega
    · have h2 : P.ref (P.fr i k).toNat = P.cnt (P.fr i k).toNat := H.ref_eq (by rw [hfr]; omega)
      have := H.cnt_le (P.fr i k).toNat
      omega
  have hfF : P.fr i k < P.F.length := by rw [hfr]; exact hfb.2
  have G := fun w' hO => give_any (w.heap.size + 1 + 1) B (.slice of1 n kf1') (.slice or1 r kr1') (.slice om1 m km1') us P i k w' hO hT his hfF hRF hrb
  have HG := Lib.hid G; clear G
  have HFR := Lib.hid hfr; clear hfr
  have HOK := Lib.hid hok; clear hok
  have HIS := Lib.hid his; clear his
  have HRB := Lib.hid hrb; clear hrb
  rw [HN.out] at hfb
  clear hRF hfF h
  obtain ⟨zb, hzb⟩ : ∃ b, zeroB d = b := ⟨_, rfl⟩
  have Z := fun w => zeros_any d w
  rw [hzb] at Z
  have HZ := Lib.hid Z; clear Z
  have HZB := Lib.hid hzb; clear hzb
  obtain ⟨D1_c, D1_f, D1_z⟩ := D1.all
  obtain ⟨D2_c, D2_f, D2_z⟩ := D2.all
  obtain ⟨D3_c, D3_f, D3_z⟩ := D3.all
  go_wp2_with fail
  clear D1_c D1_f D1_z
  clear D2_c D2_f D2_z
  clear D3_c D3_f D3_z
  with_reducible refine (HZ.out _).mono ?_
  rintro e w4 ⟨rfl, hb4⟩
  replace hz2 := Nat.le_trans hz2 hb4.size
  replace D1 := D1.below hb4
  replace D2 := D2.below hb4
  replace D3 := D3.below hb4
  replace hO := hO.below hb4
  replace hbw := hbw.trans (hb4.mono hbw.size)
  clear hb4
  cases zb
  rotate_left
  · have hw1 : P.wr' i k d = P.giveUp i k := by unfold Pl.wr'; rw [HZB.out]; rfl
    have hw2 : P.wok' i k d = true := by unfold Pl.wok'; rw [HZB.out]; rfl
    have HW1 := Lib.hid hw1; clear hw1
    have HW2 := Lib.hid hw2; clear hw2
    obtain ⟨D1_c, D1_f, D1_z⟩ := D1.all
    obtain ⟨D2_c, D2_f, D2_z⟩ := D2.all
    obtain ⟨D3_c, D3_f, D3_z⟩ := D3.all
    go_wp2_with fail
    clear D1_c D1_f D1_z
    clear D2_c D2_f D2_z
    clear D3_c D3_f D3_z
    with_reducible refine (HG.out _ hO).mono ?_
    rintro e w5 ⟨rfl, hO5, hb5⟩
    replace D1 := D1.btw hb5 (.inl (by omega))
    replace D2 := D2.btw hb5 (.inl (by omega))
    replace D3 := D3.btw hb5 (.inr (Nat.le_refl _))
    replace hbw := hbw.trans ((hb5.below (by omega)).mono (by omega))
    have hz5 := hb5.size
    clear hb5 hO
    obtain ⟨D1_c, D1_f, D1_z⟩ := D1.all
    obtain ⟨D2_c, D2_f, D2_z⟩ := D2.all
    obtain ⟨D3_c, D3_f, D3_z⟩ := D3.all
    go_wp2_with fail
    refine bodyPost_ret (v := .tuple #[.agg #[.slice of1 n kf1', .slice or1 r kr1', .slice om1 m km1'], .bool true]) (by simp [results, Try.results29, go_sem, D2_c]) rfl ?_
    have L := P.giveUp_len i k
    rw [HWOK.out, HW2.out]
    exact ret_poolb (by rw [L.1]; exact HN.out) (by rw [L.2.1]; exact HR.out) (by rw [L.2.2]; exact HM.out) (HWR.out.trans HW1.out) (((hO5.setlow (b := w.heap.size + 1) (j := 0) (by omega) _).setlow (b := w.heap.size + 1) (j := 1) (by omega) _).setlow (b := w.heap.size + 1) (j := 2) (by omega) _) (((hbw.setCell (p := ⟨w.heap.size + 1, 0, none⟩) (by dsimp only; omega) _).setCell (p := ⟨w.heap.size + 1, 1, none⟩) (by dsimp only; omega) _).setCell (p := ⟨w.heap.size + 1, 2, none⟩) (by dsimp only; omega) _)
  obtain ⟨bm, km2, bu, ku, e0, hus, c1, c2, c3, k1, k2, k3, k4, k5⟩ := hO.page hl hp
  injection e0 with e0 e9 e10
  subst e0 e10
  clear e9
  have lu := hT.u i _ hus bu rfl
  have HU := Lib.hid hus; clear hus
  have gi : (i : Int) < (m : Int) := by rw [← HM.out]; exact hi.2.1
  have ki : (k : Int) < (l.length : Int) := by rw [← Pl.pages_eq hl]; exact hi.2.2.2
  have HL := Lib.hid hl; clear hl
  have HP := Lib.hid hp; clear hp
  have n1 : B ≠ bu := by omega
  by_cases ho : 0 ≤ f ∧ P.ref f.toNat = 1
  · obtain ⟨h0, h1⟩ := ho
    obtain ⟨j, rfl⟩ : ∃ i : Nat, f = i := ⟨f.toNat, by omega⟩
    rw [Int.toNat_natCast] at h1
    have hown : P.own i k = true := by unfold Pl.own; rw [HFR.out, decide_eq_true h0, Int.toNat_natCast, decide_eq_true h1]; rfl
    have hw1 : P.wr' i k d = P.setF j d := by unfold Pl.wr'; rw [HZB.out, hown, HFR.out]; rfl
    have hw2 : P.wok' i k d = true := by unfold Pl.wok'; rw [HZB.out, hown]; rfl
    have HW1 := Lib.hid hw1; clear hw1
    have HW2 := Lib.hid hw2; clear hw2 hown
    obtain ⟨x, hx⟩ := get_lt (xs := P.R) (k := j) (by rw [H.r, HN.out]; omega)
    obtain ⟨s, hs⟩ := get_lt (xs := P.F) (k := j) (by rw [HN.out]; omega)
    have hx1 : x = 1 := by unfold Pl.ref at h1; rw [hx] at h1; exact h1
    subst hx1
    obtain ⟨gf, rfl, f1, f2⟩ := hO.f.addr HN.out (by omega)
    obtain ⟨gr, rfl, r1, r2⟩ := hO.r.addr HR.out (by have := lt_of_get hx; rw [HR.out] at this; omega)
    obtain ⟨t1, t2⟩ := hO.f.at hs
    obtain ⟨t3, t4⟩ := hO.r.at hx
    have lf := hT.f gf rfl
    have jr : (j : Int) < (r : Int) := by have := lt_of_get hx; rw [HR.out] at this; omega
    have jn : (j : Int) < (n : Int) := hfb.2
    have n2 : B ≠ gf := by omega
    clear hs hx h1
    have hO2 := hO.putF j d
    obtain ⟨D1_c, D1_f, D1_z⟩ := D1.all
    obtain ⟨D2_c, D2_f, D2_z⟩ := D2.all
    obtain ⟨D3_c, D3_f, D3_z⟩ := D3.all
    go_wp2_with fail
    refine bodyPost_ret (v := .tuple #[.agg #[.slice (some ⟨gf, 0, none⟩) n kf1', .slice (some ⟨gr, 0, none⟩) r kr1', .slice (some ⟨bm, 0, none⟩) m km1'], .bool true]) (by simp [results, Try.results29, go_sem, D2_c]) rfl ?_
    rw [HWOK.out, HW2.out]
    refine ret_poolb (Q := P.setF j d) (by rw [← HN.out]; exact List.length_set ..) HR.out HM.out (HWR.out.trans HW1.out) (((hO2.setlow (b := w.heap.size + 1) (j := 0) (by omega) _).setlow (b := w.heap.size + 1) (j := 1) (by omega) _).setlow (b := w.heap.size + 1) (j := 2) (by omega) _) ?_
    replace hbw := hbw.setCell (p := ⟨gf, j, none⟩) (by dsimp only; omega) (.string d)
    exact (((hbw.setCell (p := ⟨w.heap.size + 1, 0, none⟩) (by dsimp only; omega) _).setCell (p := ⟨w.heap.size + 1, 1, none⟩) (by dsimp only; omega) _).setCell (p := ⟨w.heap.size + 1, 2, none⟩) (by dsimp only; omega) _)
  have hown : P.own i k = false := by
    unfold Pl.own
    rw [HFR.out, Bool.eq_false_iff]
    intro h
    rw [Bool.and_eq_true, decide_eq_true_eq, decide_eq_true_eq] at h
    exact ho h
  have IX := fun w h => index_any (.slice of1 n kf1') P.F ⟨#[]⟩ w h
  cases hfo : firstOf P.F ⟨#[]⟩ with
  | none =>
    have hw1 : P.wr' i k d = P := by unfold Pl.wr'; rw [HZB.out, hown, hfo]; rfl
    have hw2 : P.wok' i k d = false := by unfold Pl.wok'; rw [HZB.out, hown, hfo]; rfl
    have HW1 := Lib.hid hw1; clear hw1
    have HW2 := Lib.hid hw2; clear hw2 hown
    have hidx : idxI P.F ⟨#[]⟩ = -1 := by unfold idxI; rw [hfo]
    rw [hidx] at IX
    have HIX := Lib.hid IX; clear IX
    clear hidx hfo
    by_cases h0 : f < 0
    · have g0 : decide (0 ≤ f) = false := decide_eq_false (by omega)
      have g1 : decide (f < 0) = true := decide_eq_true h0
      obtain ⟨D1_c, D1_f, D1_z⟩ := D1.all
      obtain ⟨D2_c, D2_f, D2_z⟩ := D2.all
      obtain ⟨D3_c, D3_f, D3_z⟩ := D3.all
      go_wp2_with fail
      clear D1_c D1_f D1_z
      clear D2_c D2_f D2_z
      clear D3_c D3_f D3_z
      with_reducible refine (HIX.out _ hO.f.row).mono ?_
      rintro e w5 ⟨rfl, hb5⟩
      replace hz2 := Nat.le_trans hz2 hb5.size
      replace D1 := D1.below hb5
      replace D2 := D2.below hb5
      replace D3 := D3.below hb5
      replace hO := hO.below hb5
      replace hbw := hbw.trans (hb5.mono hbw.size)
      clear hb5 c1 c2 c3 k2 k4
      clear g0 g1 h0 ho
      obtain ⟨D1_c, D1_f, D1_z⟩ := D1.all
      obtain ⟨D2_c, D2_f, D2_z⟩ := D2.all
      obtain ⟨D3_c, D3_f, D3_z⟩ := D3.all
      go_wp2_with fail
      refine bodyPost_ret (v := .tuple #[.agg #[.slice of1 n kf1', .slice or1 r kr1', .slice (some ⟨bm, 0, none⟩) m km1'], .bool false]) (by simp [results, Try.results29, go_sem, D2_c]) rfl ?_
      rw [HWOK.out, HW2.out]
      exact ret_poolb (Q := P) HN.out HR.out HM.out (HWR.out.trans HW1.out) (((hO.setlow (b := w.heap.size + 1) (j := 0) (by omega) _).setlow (b := w.heap.size + 1) (j := 1) (by omega) _).setlow (b := w.heap.size + 1) (j := 2) (by omega) _) (((hbw.setCell (p := ⟨w.heap.size + 1, 0, none⟩) (by dsimp only; omega) _).setCell (p := ⟨w.heap.size + 1, 1, none⟩) (by dsimp only; omega) _).setCell (p := ⟨w.heap.size + 1, 2, none⟩) (by dsimp only; omega) _)
    obtain ⟨j, rfl⟩ : ∃ i : Nat, f = i := ⟨f.toNat, by omega⟩
    have g0 : decide ((0 : Int) ≤ (j : Int)) = true := decide_eq_true (by omega)
    rw [Int.toNat_natCast] at ho
    obtain ⟨x, hx⟩ := get_lt (xs := P.R) (k := j) (by rw [H.r, HN.out]; omega)
    have hx1 : x ≠ 1 := fun e => ho ⟨by omega, by unfold Pl.ref; rw [hx]; exact e⟩
    have e1 : (x == 1) = false := by rw [beq_eq_false_iff_ne]; exact hx1
    obtain ⟨gr, rfl, r1, r2⟩ := hO.r.addr HR.out (by have := lt_of_get hx; rw [HR.out] at this; omega)
    obtain ⟨t3, t4⟩ := hO.r.at hx
    have jr : (j : Int) < (r : Int) := by have := lt_of_get hx; rw [HR.out] at this; omega
    clear hx hx1 ho
    obtain ⟨D1_c, D1_f, D1_z⟩ := D1.all
    obtain ⟨D2_c, D2_f, D2_z⟩ := D2.all
    obtain ⟨D3_c, D3_f, D3_z⟩ := D3.all
    go_wp2_with fail
    clear D1_c D1_f D1_z
    clear D2_c D2_f D2_z
    clear D3_c D3_f D3_z
    with_reducible refine (HIX.out _ hO.f.row).mono ?_
    rintro e w5 ⟨rfl, hb5⟩
    replace hz2 := Nat.le_trans hz2 hb5.size
    replace D1 := D1.below hb5
    replace D2 := D2.below hb5
    replace D3 := D3.below hb5
    replace hO := hO.below hb5
    replace hbw := hbw.trans (hb5.mono hbw.size)
    clear hb5 c1 c2 c3 k2 k4
    clear e1 t3 t4 r1 r2 jr g0 h0
    obtain ⟨D1_c, D1_f, D1_z⟩ := D1.all
    obtain ⟨D2_c, D2_f, D2_z⟩ := D2.all
    obtain ⟨D3_c, D3_f, D3_z⟩ := D3.all
    go_wp2_with fail
    refine bodyPost_ret (v := .tuple #[.agg #[.slice of1 n kf1', .slice (some ⟨gr, 0, none⟩) r kr1', .slice (some ⟨bm, 0, none⟩) m km1'], .bool false]) (by simp [results, Try.results29, go_sem, D2_c]) rfl ?_
    rw [HWOK.out, HW2.out]
    exact ret_poolb (Q := P) HN.out HR.out HM.out (HWR.out.trans HW1.out) (((hO.setlow (b := w.heap.size + 1) (j := 0) (by omega) _).setlow (b := w.heap.size + 1) (j := 1) (by omega) _).setlow (b := w.heap.size + 1) (j := 2) (by omega) _) (((hbw.setCell (p := ⟨w.heap.size + 1, 0, none⟩) (by dsimp only; omega) _).setCell (p := ⟨w.heap.size + 1, 1, none⟩) (by dsimp only; omega) _).setCell (p := ⟨w.heap.size + 1, 2, none⟩) (by dsimp only; omega) _)
  | some q =>
    have hw1 : P.wr' i k d = P.take i k q d := by unfold Pl.wr'; rw [HZB.out, hown, hfo]; rfl
    have hw2 : P.wok' i k d = true := by unfold Pl.wok'; rw [HZB.out, hown, hfo]; rfl
    have HW1 := Lib.hid hw1; clear hw1
    have HW2 := Lib.hid hw2; clear hw2 hown
    have hidx : idxI P.F ⟨#[]⟩ = q := by unfold idxI; rw [hfo]
    rw [hidx] at IX
    have HIX := Lib.hid IX; clear IX
    have hqn : q < n := by rw [← HN.out]; exact lt_of_get (firstOf_some.1 hfo).1
    clear hidx hfo
    by_cases h0 : f < 0
    · have g0 : decide (0 ≤ f) = false := decide_eq_false (by omega)
      have g1 : decide (f < 0) = true := decide_eq_true h0
      obtain ⟨D1_c, D1_f, D1_z⟩ := D1.all
      obtain ⟨D2_c, D2_f, D2_z⟩ := D2.all
      obtain ⟨D3_c, D3_f, D3_z⟩ := D3.all
      go_wp2_with fail
      clear D1_c D1_f D1_z
      clear D2_c D2_f D2_z
      clear D3_c D3_f D3_z
      with_reducible refine (HIX.out _ hO.f.row).mono ?_
      rintro e w5 ⟨rfl, hb5⟩
      replace hz2 := Nat.le_trans hz2 hb5.size
      replace D1 := D1.below hb5
      replace D2 := D2.below hb5
      replace D3 := D3.below hb5
      replace hO := hO.below hb5
      replace hbw := hbw.trans (hb5.mono hbw.size)
      clear hb5 c1 c2 c3 k2 k4
      clear g0 g1 h0 ho
      obtain ⟨D1_c, D1_f, D1_z⟩ := D1.all
      obtain ⟨D2_c, D2_f, D2_z⟩ := D2.all
      obtain ⟨D3_c, D3_f, D3_z⟩ := D3.all
      go_wp2_with fail
      clear D1_c D1_f D1_z
      clear D2_c D2_f D2_z
      clear D3_c D3_f D3_z
      with_reducible refine (HG.out _ hO).mono ?_
      rintro e w6 ⟨rfl, hO6, hb6⟩
      replace D1 := D1.btw hb6 (.inl (by omega))
      replace D2 := D2.btw hb6 (.inl (by omega))
      replace D3 := D3.btw hb6 (.inr (Nat.le_refl _))
      replace hbw := hbw.trans ((hb6.below (by omega)).mono (by omega))
      replace hz2 := Nat.le_trans hz2 hb6.size
      clear hb6 hO
      have L := P.giveUp_len i k
      have hL1 := L.1.trans HN.out
      have hL2 := L.2.1.trans HR.out
      have hL3 := L.2.2.trans HM.out
      have his2 : (P.giveUp i k).is i k = true := (P.giveUp_is i k i k).trans HIS.out
      obtain ⟨l2, f2, hl2, hp2⟩ := Pl.is_at his2
      have hlen : l2.length = l.length := by rw [← Pl.pages_eq hl2, Pl.giveUp_pages, Pl.pages_eq HL.out]
      obtain ⟨bm2, km3, bu2, ku2, e0, hus2, c1, c2, c3, k1', k2', k3', k4', k5'⟩ := hO6.page hl2 hp2
      rw [hlen] at hus2 c1
      injection e0 with e0 e9 e10
      injection e0 with e0
      injection e0 with e0 e8
      subst e0
      clear e9 e10
      rw [HU.out] at hus2
      injection hus2 with hus2
      injection hus2 with e0 e9 e10
      injection e0 with e0
      injection e0 with e0 e8
      subst e0
      clear e9 hlen hl2 hp2 his2
      obtain ⟨x2, hx2⟩ := get_lt (xs := (P.giveUp i k).R) (k := q) (by rw [L.2.1, H.r, HN.out]; exact hqn)
      obtain ⟨s2, hs2⟩ := get_lt (xs := (P.giveUp i k).F) (k := q) (by rw [hL1]; exact hqn)
      obtain ⟨gf, rfl, f1', f2'⟩ := hO6.f.addr hL1 (by omega)
      obtain ⟨gr2, eg, r1', r2'⟩ := hO6.r.addr hL2 (by have := lt_of_get hx2; rw [hL2] at this; omega)
      subst eg
      obtain ⟨u1, u2⟩ := hO6.f.at hs2
      obtain ⟨u3, u4⟩ := hO6.r.at hx2
      have lf := hT.f gf rfl
      have lr := hT.r gr2 rfl
      have qr : (q : Int) < (r : Int) := by have := lt_of_get hx2; rw [hL2] at this; omega
      have qn : (q : Int) < (n : Int) := by omega
      have n2 : B ≠ gf := by omega
      have n3 : B ≠ gr2 := by omega
      have n4 := hO6.r_ne HU.out
      have n5 := hO6.f_ne HU.out
      have n6 := hO6.fr_ne
      have n7 : bm ≠ gr2 := fun e => own_ne_type hO6.m hO6.r (by decide) (k := bm) rfl (by rw [e]; rfl)
      have hO7 := ((hO6.putM HU.out k q).putR q 1).putF q d
      have hE : P.take i k q d = (((P.giveUp i k).setM i k q).setR q 1).setF q d := rfl
      rw [← hE] at hO7
      have hl1 : (P.take i k q d).F.length = n := by rw [hE]; simp only [Pl.setF, Pl.setR, Pl.setM, List.length_set]; exact hL1
      have hl2 : (P.take i k q d).R.length = r := by rw [hE]; simp only [Pl.setF, Pl.setR, Pl.setM, List.length_set]; exact hL2
      have hl3 : (P.take i k q d).M.length = m := by rw [hE]; simp only [Pl.setF, Pl.setR, Pl.setM, List.length_set]; exact hL3
      have Hl1 := Lib.hid hl1
      have Hl2 := Lib.hid hl2
      have Hl3 := Lib.hid hl3
      have hbw7 := ((hbw.setCell (p := ⟨bu, k, none⟩) (by dsimp only; omega) (.int .i64 q)).setCell (p := ⟨gr2, q, none⟩) (by dsimp only; omega) (.int .i64 1)).setCell (p := ⟨gf, q, none⟩) (by dsimp only; omega) (.string d)
      clear hl1 hl2 hl3 hE hL1 hL2 hL3 L hx2 hs2 hO6 hbw
      have hbw := hbw7
      clear hbw7
      obtain ⟨D1_c, D1_f, D1_z⟩ := D1.all
      obtain ⟨D2_c, D2_f, D2_z⟩ := D2.all
      obtain ⟨D3_c, D3_f, D3_z⟩ := D3.all
      go_wp2_with fail
      refine bodyPost_ret (v := .tuple #[.agg #[.slice (some ⟨gf, 0, none⟩) n kf1', .slice (some ⟨gr2, 0, none⟩) r kr1', .slice (some ⟨bm, 0, none⟩) m km1'], .bool true]) (by simp [results, Try.results29, go_sem, D2_c]) rfl ?_
      rw [HWOK.out, HW2.out]
      exact ret_poolb (Q := P.take i k q d) Hl1.out Hl2.out Hl3.out (HWR.out.trans HW1.out) (((hO7.setlow (b := w.heap.size + 1) (j := 0) (by omega) _).setlow (b := w.heap.size + 1) (j := 1) (by omega) _).setlow (b := w.heap.size + 1) (j := 2) (by omega) _) (((hbw.setCell (p := ⟨w.heap.size + 1, 0, none⟩) (by dsimp only; omega) _).setCell (p := ⟨w.heap.size + 1, 1, none⟩) (by dsimp only; omega) _).setCell (p := ⟨w.heap.size + 1, 2, none⟩) (by dsimp only; omega) _)
    obtain ⟨j, rfl⟩ : ∃ i : Nat, f = i := ⟨f.toNat, by omega⟩
    have g0 : decide ((0 : Int) ≤ (j : Int)) = true := decide_eq_true (by omega)
    rw [Int.toNat_natCast] at ho
    obtain ⟨x, hx⟩ := get_lt (xs := P.R) (k := j) (by rw [H.r, HN.out]; omega)
    have hx1 : x ≠ 1 := fun e => ho ⟨by omega, by unfold Pl.ref; rw [hx]; exact e⟩
    have e1 : (x == 1) = false := by rw [beq_eq_false_iff_ne]; exact hx1
    obtain ⟨gr, rfl, r1, r2⟩ := hO.r.addr HR.out (by have := lt_of_get hx; rw [HR.out] at this; omega)
    obtain ⟨t3, t4⟩ := hO.r.at hx
    have jr : (j : Int) < (r : Int) := by have := lt_of_get hx; rw [HR.out] at this; omega
    clear hx hx1 ho
    obtain ⟨D1_c, D1_f, D1_z⟩ := D1.all
    obtain ⟨D2_c, D2_f, D2_z⟩ := D2.all
    obtain ⟨D3_c, D3_f, D3_z⟩ := D3.all
    go_wp2_with fail
    clear D1_c D1_f D1_z
    clear D2_c D2_f D2_z
    clear D3_c D3_f D3_z
    with_reducible refine (HIX.out _ hO.f.row).mono ?_
    rintro e w5 ⟨rfl, hb5⟩
    replace hz2 := Nat.le_trans hz2 hb5.size
    replace D1 := D1.below hb5
    replace D2 := D2.below hb5
    replace D3 := D3.below hb5
    replace hO := hO.below hb5
    replace hbw := hbw.trans (hb5.mono hbw.size)
    clear hb5 c1 c2 c3 k2 k4
    clear e1 t3 t4 r1 r2 jr g0 h0
    obtain ⟨D1_c, D1_f, D1_z⟩ := D1.all
    obtain ⟨D2_c, D2_f, D2_z⟩ := D2.all
    obtain ⟨D3_c, D3_f, D3_z⟩ := D3.all
    go_wp2_with fail
    clear D1_c D1_f D1_z
    clear D2_c D2_f D2_z
    clear D3_c D3_f D3_z
    with_reducible refine (HG.out _ hO).mono ?_
    rintro e w6 ⟨rfl, hO6, hb6⟩
    replace D1 := D1.btw hb6 (.inl (by omega))
    replace D2 := D2.btw hb6 (.inl (by omega))
    replace D3 := D3.btw hb6 (.inr (Nat.le_refl _))
    replace hbw := hbw.trans ((hb6.below (by omega)).mono (by omega))
    replace hz2 := Nat.le_trans hz2 hb6.size
    clear hb6 hO
    have L := P.giveUp_len i k
    have hL1 := L.1.trans HN.out
    have hL2 := L.2.1.trans HR.out
    have hL3 := L.2.2.trans HM.out
    have his2 : (P.giveUp i k).is i k = true := (P.giveUp_is i k i k).trans HIS.out
    obtain ⟨l2, f2, hl2, hp2⟩ := Pl.is_at his2
    have hlen : l2.length = l.length := by rw [← Pl.pages_eq hl2, Pl.giveUp_pages, Pl.pages_eq HL.out]
    obtain ⟨bm2, km3, bu2, ku2, e0, hus2, c1, c2, c3, k1', k2', k3', k4', k5'⟩ := hO6.page hl2 hp2
    rw [hlen] at hus2 c1
    injection e0 with e0 e9 e10
    injection e0 with e0
    injection e0 with e0 e8
    subst e0
    clear e9 e10
    rw [HU.out] at hus2
    injection hus2 with hus2
    injection hus2 with e0 e9 e10
    injection e0 with e0
    injection e0 with e0 e8
    subst e0
    clear e9 hlen hl2 hp2 his2
    obtain ⟨x2, hx2⟩ := get_lt (xs := (P.giveUp i k).R) (k := q) (by rw [L.2.1, H.r, HN.out]; exact hqn)
    obtain ⟨s2, hs2⟩ := get_lt (xs := (P.giveUp i k).F) (k := q) (by rw [hL1]; exact hqn)
    obtain ⟨gf, rfl, f1', f2'⟩ := hO6.f.addr hL1 (by omega)
    obtain ⟨gr2, eg, r1', r2'⟩ := hO6.r.addr hL2 (by have := lt_of_get hx2; rw [hL2] at this; omega)
    (injection eg with eg; injection eg with eg; subst eg)
    obtain ⟨u1, u2⟩ := hO6.f.at hs2
    obtain ⟨u3, u4⟩ := hO6.r.at hx2
    have lf := hT.f gf rfl
    have lr := hT.r gr rfl
    have qr : (q : Int) < (r : Int) := by have := lt_of_get hx2; rw [hL2] at this; omega
    have qn : (q : Int) < (n : Int) := by omega
    have n2 : B ≠ gf := by omega
    have n3 : B ≠ gr := by omega
    have n4 := hO6.r_ne HU.out
    have n5 := hO6.f_ne HU.out
    have n6 := hO6.fr_ne
    have n7 : bm ≠ gr := fun e => own_ne_type hO6.m hO6.r (by decide) (k := bm) rfl (by rw [e]; rfl)
    have hO7 := ((hO6.putM HU.out k q).putR q 1).putF q d
    have hE : P.take i k q d = (((P.giveUp i k).setM i k q).setR q 1).setF q d := rfl
    rw [← hE] at hO7
    have hl1 : (P.take i k q d).F.length = n := by rw [hE]; simp only [Pl.setF, Pl.setR, Pl.setM, List.length_set]; exact hL1
    have hl2 : (P.take i k q d).R.length = r := by rw [hE]; simp only [Pl.setF, Pl.setR, Pl.setM, List.length_set]; exact hL2
    have hl3 : (P.take i k q d).M.length = m := by rw [hE]; simp only [Pl.setF, Pl.setR, Pl.setM, List.length_set]; exact hL3
    have Hl1 := Lib.hid hl1
    have Hl2 := Lib.hid hl2
    have Hl3 := Lib.hid hl3
    have hbw7 := ((hbw.setCell (p := ⟨bu, k, none⟩) (by dsimp only; omega) (.int .i64 q)).setCell (p := ⟨gr, q, none⟩) (by dsimp only; omega) (.int .i64 1)).setCell (p := ⟨gf, q, none⟩) (by dsimp only; omega) (.string d)
    clear hl1 hl2 hl3 hE hL1 hL2 hL3 L hx2 hs2 hO6 hbw
    have hbw := hbw7
    clear hbw7
    obtain ⟨D1_c, D1_f, D1_z⟩ := D1.all
    obtain ⟨D2_c, D2_f, D2_z⟩ := D2.all
    obtain ⟨D3_c, D3_f, D3_z⟩ := D3.all
    go_wp2_with fail
    refine bodyPost_ret (v := .tuple #[.agg #[.slice (some ⟨gf, 0, none⟩) n kf1', .slice (some ⟨gr, 0, none⟩) r kr1', .slice (some ⟨bm, 0, none⟩) m km1'], .bool true]) (by simp [results, Try.results29, go_sem, D2_c]) rfl ?_
    rw [HWOK.out, HW2.out]
    exact ret_poolb (Q := P.take i k q d) Hl1.out Hl2.out Hl3.out (HWR.out.trans HW1.out) (((hO7.setlow (b := w.heap.size + 1) (j := 0) (by omega) _).setlow (b := w.heap.size + 1) (j := 1) (by omega) _).setlow (b := w.heap.size + 1) (j := 2) (by omega) _) (((hbw.setCell (p := ⟨w.heap.size + 1, 0, none⟩) (by dsimp only; omega) _).setCell (p := ⟨w.heap.size + 1, 1, none⟩) (by dsimp only; omega) _).setCell (p := ⟨w.heap.size + 1, 2, none⟩) (by dsimp only; omega) _)
theorem pwrite_any (v : Value) (P : Pl) (g p : Int) (d : ByteArray) (w : World) (h : PlRow w v P) (hf : P.fit) (hs : P.small) : Calls Try.prog 29 #[v, .int .i64 g, .int .i64 p, .string d] w (RetPool2 (P.wr g p d) (P.wok g p d) w) := (pwrite_own v P g p d w h hf hs).mono fun _ _ h => h.two
end Go.Proofs.Ytbnngjhnkegliaa
namespace Go.Proofs.Ytbnngjhnkegliaa
open Go.RowKit

def Pl.goodS (P : Pl) (g p : Int) : Bool := P.has g p && decide (0 ≤ P.fr g.toNat p.toNat)
/-- The least frame of the same content. -/
def Pl.least (P : Pl) (g p : Nat) : Option Nat := firstOf P.F (P.txt (P.fr g p).toNat)
def Pl.sh' (P : Pl) (g p : Nat) : Pl :=
  match P.least g p with
  | some q => if (q : Int) = P.fr g p then P else P.join g p q
  | none => P
def Pl.sok' (P : Pl) (g p : Nat) : Bool :=
  match P.least g p with
  | some q => !decide ((q : Int) = P.fr g p)
  | none => false
def Pl.sh (P : Pl) (g p : Int) : Pl := if P.goodS g p then P.sh' g.toNat p.toNat else P
def Pl.sok (P : Pl) (g p : Int) : Bool := P.goodS g p && P.sok' g.toNat p.toNat
theorem giveUp_ref (P : Pl) (g p q : Nat) (h : (q : Int) ≠ P.fr g p) : (P.giveUp g p).ref q = P.ref q := by
  unfold Pl.giveUp
  split
  · rfl
  · rename_i hn
    have hne : (P.fr g p).toNat ≠ q := by omega
    have e : ((P.setM g p (-1)).setR (P.fr g p).toNat (P.ref (P.fr g p).toNat - 1)).ref q = P.ref q := by
      unfold Pl.ref Pl.setR Pl.setM
      dsimp only
      rw [List.getElem?_set_ne hne]
    split <;> exact e
set_option maxRecDepth 100000 in
set_option maxHeartbeats 4000000 in
theorem pshare_own (v : Value) (P : Pl) (g p : Int) (w : World) (h : PlRow w v P) (hf : P.fit) (hs : P.small) : Calls Try.prog 33 #[v, .int .i64 g, .int .i64 p] w (RetPoolB (P.sh g p) (P.sok g p) w) := by
  obtain ⟨of, or', om, kf, kr, km, rfl, kf1, kf2, kr1, kr2, km1, km2⟩ := h.form
  obtain ⟨n, hn⟩ : ∃ n, P.F.length = n := ⟨_, rfl⟩
  obtain ⟨r, hr⟩ : ∃ n, P.R.length = n := ⟨_, rfl⟩
  obtain ⟨m, hm⟩ : ∃ n, P.M.length = n := ⟨_, rfl⟩
  rw [hn] at h kf1 ⊢
  rw [hr] at h kr1 ⊢
  rw [hm] at h km1 ⊢
  have HN := Lib.hid hn; clear hn
  have HR := Lib.hid hr; clear hr
  have HM := Lib.hid hm; clear hm
  have V := fun w h => phas_any (.agg #[.slice of n kf, .slice or' r kr, .slice om m km]) P g p w h hf
  have C := fun w h => pclone_any (.agg #[.slice of n kf, .slice or' r kr, .slice om m km]) P w h hs
  clear hf hs
  have HC := Lib.hid C; clear C
  obtain ⟨hv, hhv⟩ : ∃ b, P.has g p = b := ⟨_, rfl⟩
  rw [hhv] at V
  have HV := Lib.hid V; clear V
  have HHV := Lib.hid hhv; clear hhv
  have D1 := (HasBlock.made w #[.slice of n kf, .slice or' r kr, .slice om m km] 27).alloc (.cells #[.slice none 0 0, .slice none 0 0, .slice none 0 0] 27)
  have D2 := HasBlock.made (w.alloc (.cells #[.slice of n kf, .slice or' r kr, .slice om m km] 27)) #[.slice none 0 0, .slice none 0 0, .slice none 0 0] 27
  have hbw : Below w.heap.size w ((w.alloc (.cells #[.slice of n kf, .slice or' r kr, .slice om m km] 27)).alloc (.cells #[.slice none 0 0, .slice none 0 0, .slice none 0 0] 27)) := (by repeat (first | with_reducible exact Below.refl _ _ | with_reducible refine Below.drew ?_ | (with_reducible refine Below.alloc ?_ (by first | exact Nat.le_refl _ | omega | (dsimp only; omega) | (simp only [sizes]; omega)) _) | (with_reducible refine Below.setCell ?_ (by first | exact Nat.le_refl _ | omega | (dsimp only; omega) | (simp only [sizes]; omega)) _) | (refine Below.trans ?_ (Below.mono (by with_reducible assumption) (by first | exact Nat.le_refl _ | omega | (dsimp only; omega) | (simp only [sizes]; omega))))))
  have hz : w.heap.size + 1 + 1 ≤ ((w.alloc (.cells #[.slice of n kf, .slice or' r kr, .slice om m km] 27)).alloc (.cells #[.slice none 0 0, .slice none 0 0, .slice none 0 0] 27)).heap.size := by simp only [sizes]; omega
  simp only [sizes] at D2
  replace h := h.below hbw
  go_enter Try.func33, Try.ntmps33
  go_wp2_with fail
  with_reducible refine (HC.out _ h).mono ?_
  rintro e w1 ⟨of1, or1, om1, kf1', kr1', km1', us, rfl, hO, hb1⟩
  rw [HN.out, HR.out, HM.out] at hO ⊢
  replace hO := hO.lower hz
  replace D1 := D1.below hb1
  replace D2 := D2.below hb1
  replace h := h.below hb1
  replace hbw := hbw.trans (hb1.mono hbw.size)
  replace hz := Nat.le_trans hz hb1.size
  clear hb1
  have hT := hO.lt
  obtain ⟨D1_c, D1_f, D1_z⟩ := D1.all
  obtain ⟨D2_c, D2_f, D2_z⟩ := D2.all
  go_wp2_with fail
  clear D1_c D1_f D1_z
  clear D2_c D2_f D2_z
  have hbx : Below w1.heap.size w1 (w1.alloc (.cells #[.slice of1 n kf1', .slice or1 r kr1', .slice om1 m km1'] 27)) := (Below.refl _ _).alloc (Nat.le_refl _) _
  replace D1 := D1.below hbx
  replace D2 := D2.below hbx
  have D3 := HasBlock.made w1 #[.slice of1 n kf1', .slice or1 r kr1', .slice om1 m km1'] 27
  replace h := h.below hbx
  replace hO := hO.below hbx
  replace hbw := hbw.trans (hbx.mono hbw.size)
  have hz2 : w1.heap.size + 1 ≤ (w1.alloc (.cells #[.slice of1 n kf1', .slice or1 r kr1', .slice om1 m km1'] 27)).heap.size := Nat.le_of_eq (World.size_alloc ..).symm
  clear hbx
  obtain ⟨B, hB⟩ : ∃ B, w1.heap.size = B := ⟨_, rfl⟩
  rw [hB] at D3 hz hT hz2 ⊢
  generalize hW : w1.alloc (.cells #[.slice of1 n kf1', .slice or1 r kr1', .slice om1 m km1'] 27) = w2 at D1 D2 D3 h hO hbw hz2 ⊢
  clear hW hB
  with_reducible refine (HV.out _ h).mono ?_
  rintro e w3 ⟨rfl, hb3⟩
  replace hz2 := Nat.le_trans hz2 hb3.size
  replace D1 := D1.below hb3
  replace D2 := D2.below hb3
  replace D3 := D3.below hb3
  replace h := h.below hb3
  replace hO := hO.below hb3
  replace hbw := hbw.trans (hb3.mono hbw.size)
  clear hb3
  cases hv
  · have hno : P.goodS g p = false := by unfold Pl.goodS; rw [HHV.out]; rfl
    have HNO := Lib.hid hno; clear hno
    obtain ⟨D1_c, D1_f, D1_z⟩ := D1.all
    obtain ⟨D2_c, D2_f, D2_z⟩ := D2.all
    obtain ⟨D3_c, D3_f, D3_z⟩ := D3.all
    go_wp2_with fail
    refine bodyPost_ret (v := .tuple #[.agg #[.slice of1 n kf1', .slice or1 r kr1', .slice om1 m km1'], .bool false]) (by simp [results, Try.results33, go_sem, D2_c]) rfl ?_
    rw [show P.sok g p = false by unfold Pl.sok; rw [HNO.out]; rfl]
    exact ret_poolb HN.out HR.out HM.out (by unfold Pl.sh; rw [HNO.out]; rfl) (((hO.setlow (b := w.heap.size + 1) (j := 0) (by omega) _).setlow (b := w.heap.size + 1) (j := 1) (by omega) _).setlow (b := w.heap.size + 1) (j := 2) (by omega) _) (((hbw.setCell (p := ⟨w.heap.size + 1, 0, none⟩) (by dsimp only; omega) _).setCell (p := ⟨w.heap.size + 1, 1, none⟩) (by dsimp only; omega) _).setCell (p := ⟨w.heap.size + 1, 2, none⟩) (by dsimp only; omega) _)
  have hh := HHV.out
  unfold Pl.has at hh
  rw [Bool.and_eq_true] at hh
  obtain ⟨hok, his⟩ := hh
  have H := Pl.ok_iff.1 hok
  have hi := his
  unfold Pl.is at hi
  rw [decide_eq_true_eq] at hi
  obtain ⟨i, rfl⟩ : ∃ i : Nat, g = i := ⟨g.toNat, by omega⟩
  obtain ⟨k, rfl⟩ : ∃ i : Nat, p = i := ⟨p.toNat, by omega⟩
  rw [Int.toNat_natCast] at hi
  obtain ⟨l, f, hl, hp⟩ := Pl.is_at his
  have hfb := H.page hl hp
  have hfr := Pl.fr_eq hl hp
  have hRF := H.r
  have hrb : -1000000 ≤ P.ref (P.fr i k).toNat ∧ P.ref (P.fr i k).toNat ≤ 1000000 := by
    by_cases h0 : f < 0
    · have h2 : P.ref (P.fr i k).toNat = P.cnt (P.fr i k).toNat := H.ref_eq (by rw [hfr]; have := H.n1; omega)
      have := H.cnt_le (P.fr i k).toNat
      omega
    · have h2 : P.ref (P.fr i k).toNat = P.cnt (P.fr i k).toNat := H.ref_eq (by rw [hfr]; omega)
      have := H.cnt_le (P.fr i k).toNat
      omega
  have hfF : P.fr i k < P.F.length := by rw [hfr]; exact hfb.2
  have G := fun w' hO => give_any (w.heap.size + 1 + 1) B (.slice of1 n kf1') (.slice or1 r kr1') (.slice om1 m km1') us P i k w' hO hT his hfF hRF hrb
  have HG := Lib.hid G; clear G
  have HFR := Lib.hid hfr; clear hfr
  have HOK := Lib.hid hok; clear hok
  have HIS := Lib.hid his; clear his
  have HRB := Lib.hid hrb; clear hrb
  rw [HN.out] at hfb
  clear hRF hfF h
  obtain ⟨bm, km2, bu, ku, e0, hus, c1, c2, c3, k1, k2, k3, k4, k5⟩ := hO.page hl hp
  injection e0 with e0 e9 e10
  subst e0 e10
  clear e9
  have lu := hT.u i _ hus bu rfl
  have HU := Lib.hid hus; clear hus
  have gi : (i : Int) < (m : Int) := by rw [← HM.out]; exact hi.2.1
  have ki : (k : Int) < (l.length : Int) := by rw [← Pl.pages_eq hl]; exact hi.2.2.2
  have HL := Lib.hid hl; clear hl
  have HP := Lib.hid hp; clear hp
  have n1 : B ≠ bu := by omega
  by_cases h0 : f < 0
  · have hno : P.goodS i k = false := by unfold Pl.goodS; rw [HHV.out, Int.toNat_natCast, Int.toNat_natCast, HFR.out]; exact decide_eq_false (by omega)
    have HNO := Lib.hid hno; clear hno
    have HSO : Hid (P.sok i k = false) := by unfold Pl.sok; rw [HNO.out]; rfl
    have HSH : Hid (P.sh i k = P) := by unfold Pl.sh; rw [HNO.out]; rfl
    obtain ⟨D1_c, D1_f, D1_z⟩ := D1.all
    obtain ⟨D2_c, D2_f, D2_z⟩ := D2.all
    obtain ⟨D3_c, D3_f, D3_z⟩ := D3.all
    go_wp2_with fail
    refine bodyPost_ret (v := .tuple #[.agg #[.slice of1 n kf1', .slice or1 r kr1', .slice (some ⟨bm, 0, none⟩) m km1'], .bool false]) (by simp [results, Try.results33, go_sem, D2_c]) rfl ?_
    rw [HSO.out]
    exact ret_poolb HN.out HR.out HM.out HSH.out (((hO.setlow (b := w.heap.size + 1) (j := 0) (by omega) _).setlow (b := w.heap.size + 1) (j := 1) (by omega) _).setlow (b := w.heap.size + 1) (j := 2) (by omega) _) (((hbw.setCell (p := ⟨w.heap.size + 1, 0, none⟩) (by dsimp only; omega) _).setCell (p := ⟨w.heap.size + 1, 1, none⟩) (by dsimp only; omega) _).setCell (p := ⟨w.heap.size + 1, 2, none⟩) (by dsimp only; omega) _)
  obtain ⟨j, rfl⟩ : ∃ i : Nat, f = i := ⟨f.toNat, by omega⟩
  have hgood : P.goodS i k = true := by unfold Pl.goodS; rw [HHV.out, Int.toNat_natCast, Int.toNat_natCast, HFR.out]; exact decide_eq_true (by omega)
  have hsh : P.sh i k = P.sh' i k := by unfold Pl.sh; rw [hgood, Int.toNat_natCast, Int.toNat_natCast]; rfl
  have hsok : P.sok i k = P.sok' i k := by unfold Pl.sok; rw [hgood, Int.toNat_natCast, Int.toNat_natCast]; rfl
  have HSH := Lib.hid hsh; clear hsh
  have HSO := Lib.hid hsok; clear hsok hgood
  obtain ⟨s, hs⟩ := get_lt (xs := P.F) (k := j) (by rw [HN.out]; omega)
  have htx : P.txt j = s := by unfold Pl.txt; rw [hs]; rfl
  obtain ⟨gf, rfl, f1, f2⟩ := hO.f.addr HN.out (by omega)
  have IX := fun w h => index_any (.slice (some ⟨gf, 0, none⟩) n kf1') P.F s w h
  obtain ⟨q, hfo⟩ : ∃ q, firstOf P.F s = some q := by
    cases hfo : firstOf P.F s with
    | none => exact absurd hs (firstOf_none.1 hfo j)
    | some q => exact ⟨q, rfl⟩
  have hq := firstOf_some.1 hfo
  have hqj : q ≤ j := by
    rcases Nat.lt_or_ge j q with h | h
    · exact absurd hs (hq.2 j h)
    · exact h
  have hidx : idxI P.F s = q := by unfold idxI; rw [hfo]
  rw [hidx] at IX
  have HIX := Lib.hid IX; clear IX hidx
  have hlst : P.least i k = some q := by unfold Pl.least; rw [HFR.out, Int.toNat_natCast, htx]; exact hfo
  obtain ⟨t1, t2⟩ := hO.f.at hs
  have jn : (j : Int) < (n : Int) := hfb.2
  have j0 : (0 : Int) ≤ (j : Int) := by omega
  have HLS := Lib.hid hlst; clear hlst hq hfo htx hs
  obtain ⟨D1_c, D1_f, D1_z⟩ := D1.all
  obtain ⟨D2_c, D2_f, D2_z⟩ := D2.all
  obtain ⟨D3_c, D3_f, D3_z⟩ := D3.all
  go_wp2_with fail
  clear D1_c D1_f D1_z
  clear D2_c D2_f D2_z
  clear D3_c D3_f D3_z
  have hre : Below w3.heap.size w3 w3 := Below.refl _ _
  have HRE := Lib.hid hre; clear hre
  obtain ⟨D1_c, D1_f, D1_z⟩ := D1.all
  obtain ⟨D2_c, D2_f, D2_z⟩ := D2.all
  obtain ⟨D3_c, D3_f, D3_z⟩ := D3.all
  refine wp_region_quiet_below (by kernel_rfl) (by kernel_rfl) ?_
  repeat (go_big_quiet_step (first | fail | (go_at_call 54; exact quiet_ret (HIX.out _ (hO.below (below_regrown _ _ _)).f.row))))
  refine wpQuiet_nil ?_
  intro w4 hw4
  have hb4 := below_of_regrown hw4
  clear hw4
  obtain ⟨hc4, hf4⟩ := bcell hb4
  have hz4 := bsize hb4
  try simp only [sizes1] at hz4
  try simp only [sizes] at hc4 hf4
  clear D1_c D1_f D1_z
  clear D2_c D2_f D2_z
  clear D3_c D3_f D3_z
  clear hc4 hf4 hz4
  replace D1 := D1.below hb4
  replace D2 := D2.below hb4
  replace D3 := D3.below hb4
  replace hO := hO.below hb4
  replace hbw := hbw.trans (hb4.mono hbw.size)
  replace hz2 := Nat.le_trans hz2 hb4.size
  clear hb4
  clear c1 c2 c3 k2 k4 t1 t2
  by_cases hqe : q = j
  · subst hqe
    have hw1 : P.sh' i k = P := by unfold Pl.sh'; rw [HLS.out]; dsimp only; rw [if_pos HFR.out.symm]
    have hw2 : P.sok' i k = false := by unfold Pl.sok'; rw [HLS.out]; dsimp only; rw [HFR.out, decide_eq_true rfl]; rfl
    have HW1 := Lib.hid hw1; clear hw1
    have HW2 := Lib.hid hw2; clear hw2
    obtain ⟨D1_c, D1_f, D1_z⟩ := D1.all
    obtain ⟨D2_c, D2_f, D2_z⟩ := D2.all
    obtain ⟨D3_c, D3_f, D3_z⟩ := D3.all
    go_wp2_with fail
    refine bodyPost_ret (v := .tuple #[.agg #[.slice (some ⟨gf, 0, none⟩) n kf1', .slice or1 r kr1', .slice (some ⟨bm, 0, none⟩) m km1'], .bool false]) (by simp [results, Try.results33, go_sem, D2_c]) rfl ?_
    rw [HSO.out, HW2.out]
    exact ret_poolb HN.out HR.out HM.out (HSH.out.trans HW1.out) (((hO.setlow (b := w.heap.size + 1) (j := 0) (by omega) _).setlow (b := w.heap.size + 1) (j := 1) (by omega) _).setlow (b := w.heap.size + 1) (j := 2) (by omega) _) (((hbw.setCell (p := ⟨w.heap.size + 1, 0, none⟩) (by dsimp only; omega) _).setCell (p := ⟨w.heap.size + 1, 1, none⟩) (by dsimp only; omega) _).setCell (p := ⟨w.heap.size + 1, 2, none⟩) (by dsimp only; omega) _)
  have hqn : q < n := by omega
  have hne : (q : Int) ≠ P.fr i k := by rw [HFR.out]; omega
  have hw1 : P.sh' i k = P.join i k q := by unfold Pl.sh'; rw [HLS.out]; dsimp only; rw [if_neg hne]
  have hw2 : P.sok' i k = true := by unfold Pl.sok'; rw [HLS.out]; dsimp only; rw [decide_eq_false hne]; rfl
  have hrq := giveUp_ref P i k q hne
  have hrq2 : P.ref q = P.cnt q := H.ref_eq (by rw [HN.out]; exact hqn)
  have hrq3 := H.cnt_le q
  have HW1 := Lib.hid hw1; clear hw1
  have HW2 := Lib.hid hw2; clear hw2
  have e1 : (q == j) = false := by rw [beq_eq_false_iff_ne]; exact hqe
  have e2 : ((q : Int) == (j : Int)) = false := by rw [beq_eq_false_iff_ne]; omega
  clear hne hqe
  obtain ⟨D1_c, D1_f, D1_z⟩ := D1.all
  obtain ⟨D2_c, D2_f, D2_z⟩ := D2.all
  obtain ⟨D3_c, D3_f, D3_z⟩ := D3.all
  go_wp2_with fail
  clear D1_c D1_f D1_z
  clear D2_c D2_f D2_z
  clear D3_c D3_f D3_z
  with_reducible refine (HG.out _ hO).mono ?_
  rintro e w6 ⟨rfl, hO6, hb6⟩
  replace D1 := D1.btw hb6 (.inl (by omega))
  replace D2 := D2.btw hb6 (.inl (by omega))
  replace D3 := D3.btw hb6 (.inr (Nat.le_refl _))
  replace hbw := hbw.trans ((hb6.below (by omega)).mono (by omega))
  replace hz2 := Nat.le_trans hz2 hb6.size
  clear hb6 hO e1 e2
  have L := P.giveUp_len i k
  have hL1 := L.1.trans HN.out
  have hL2 := L.2.1.trans HR.out
  have hL3 := L.2.2.trans HM.out
  have his2 : (P.giveUp i k).is i k = true := (P.giveUp_is i k i k).trans HIS.out
  obtain ⟨l2, f2, hl2, hp2⟩ := Pl.is_at his2
  have hlen : l2.length = l.length := by rw [← Pl.pages_eq hl2, Pl.giveUp_pages, Pl.pages_eq HL.out]
  obtain ⟨bm2, km3, bu2, ku2, e0, hus2, c1, c2, c3, k1', k2', k3', k4', k5'⟩ := hO6.page hl2 hp2
  rw [hlen] at hus2 c1
  injection e0 with e0 e9 e10
  injection e0 with e0
  injection e0 with e0 e8
  subst e0
  clear e9 e10
  rw [HU.out] at hus2
  injection hus2 with hus2
  injection hus2 with e0 e9 e10
  injection e0 with e0
  injection e0 with e0 e8
  subst e0
  clear e9 hlen hl2 hp2 his2
  obtain ⟨x2, hx2⟩ := get_lt (xs := (P.giveUp i k).R) (k := q) (by rw [L.2.1, H.r, HN.out]; exact hqn)
  obtain ⟨gr, rfl, r1', r2'⟩ := hO6.r.addr hL2 (by have := lt_of_get hx2; rw [hL2] at this; omega)
  obtain ⟨u3, u4⟩ := hO6.r.at hx2
  have hxr : (P.giveUp i k).ref q = x2 := by unfold Pl.ref; rw [hx2]; rfl
  have hx2b : 0 ≤ x2 ∧ x2 ≤ 256 := by rw [← hxr, hrq, hrq2]; omega
  have lr := hT.r gr rfl
  have qr : (q : Int) < (r : Int) := by have := lt_of_get hx2; rw [hL2] at this; omega
  have n3 : B ≠ gr := by omega
  have n4 := hO6.r_ne HU.out
  have n7 : bm ≠ gr := fun e => own_ne_type hO6.m hO6.r (by decide) (k := bm) rfl (by rw [e]; rfl)
  have hO7 := (hO6.putM HU.out k q).putR q (x2 + 1)
  have hE : P.join i k q = ((P.giveUp i k).setM i k q).setR q (x2 + 1) := by unfold Pl.join; rw [hxr]
  rw [← hE] at hO7
  have hl1 : (P.join i k q).F.length = n := by rw [hE]; simp only [Pl.setR, Pl.setM]; exact hL1
  have hl2 : (P.join i k q).R.length = r := by rw [hE]; simp only [Pl.setR, Pl.setM, List.length_set]; exact hL2
  have hl3 : (P.join i k q).M.length = m := by rw [hE]; simp only [Pl.setR, Pl.setM, List.length_set]; exact hL3
  have Hl1 := Lib.hid hl1
  have Hl2 := Lib.hid hl2
  have Hl3 := Lib.hid hl3
  have hbw7 := (hbw.setCell (p := ⟨bu, k, none⟩) (by dsimp only; omega) (.int .i64 q)).setCell (p := ⟨gr, q, none⟩) (by dsimp only; omega) (.int .i64 (x2 + 1))
  clear hl1 hl2 hl3 hE hL1 hL2 hL3 L hx2 hO6 hbw hrq hrq2 hxr
  have hbw := hbw7
  clear hbw7
  obtain ⟨D1_c, D1_f, D1_z⟩ := D1.all
  obtain ⟨D2_c, D2_f, D2_z⟩ := D2.all
  obtain ⟨D3_c, D3_f, D3_z⟩ := D3.all
  go_wp2_with fail
  refine bodyPost_ret (v := .tuple #[.agg #[.slice (some ⟨gf, 0, none⟩) n kf1', .slice (some ⟨gr, 0, none⟩) r kr1', .slice (some ⟨bm, 0, none⟩) m km1'], .bool true]) (by simp [results, Try.results33, go_sem, D2_c]) rfl ?_
  rw [HSO.out, HW2.out]
  exact ret_poolb (Q := P.join i k q) Hl1.out Hl2.out Hl3.out (HSH.out.trans HW1.out) (((hO7.setlow (b := w.heap.size + 1) (j := 0) (by omega) _).setlow (b := w.heap.size + 1) (j := 1) (by omega) _).setlow (b := w.heap.size + 1) (j := 2) (by omega) _) (((hbw.setCell (p := ⟨w.heap.size + 1, 0, none⟩) (by dsimp only; omega) _).setCell (p := ⟨w.heap.size + 1, 1, none⟩) (by dsimp only; omega) _).setCell (p := ⟨w.heap.size + 1, 2, none⟩) (by dsimp only; omega) _)
theorem pshare_any (v : Value) (P : Pl) (g p : Int) (w : World) (h : PlRow w v P) (hf : P.fit) (hs : P.small) : Calls Try.prog 33 #[v, .int .i64 g, .int .i64 p] w (RetPool2 (P.sh g p) (P.sok g p) w) := (pshare_own v P g p w h hf hs).mono fun _ _ h => h.two
end Go.Proofs.Ytbnngjhnkegliaa
namespace Go.Proofs.Ytbnngjhnkegliaa
open Go.RowKit

theorem size_int : (Try.prog.info? 3).map (·.size) = some 1 := by kernel_rfl
/-- k of K numbers are -1, the others 0. -/
def repI (k K : Nat) : List Int := List.replicate k (-1) ++ List.replicate (K - k) 0
theorem repI_len {k K : Nat} (h : k ≤ K) : (repI k K).length = K := by unfold repI; rw [List.length_append, List.length_replicate, List.length_replicate]; omega
theorem repI_all (K : Nat) : repI K K = List.replicate K (-1) := by unfold repI; rw [Nat.sub_self]; simp
theorem rep_splice {k c K : Nat} (h : k + c ≤ K) : splice ((repI k K).map (Value.int .i64)) k ((List.replicate c (-1 : Int)).map (Value.int .i64)) = (repI (k + c) K).map (Value.int .i64) := by
  unfold splice
  rw [List.length_map, List.length_replicate, ← List.map_take, ← List.map_drop, ← List.map_append, ← List.map_append]
  congr 1
  unfold repI
  rw [List.take_append, List.drop_append, List.length_replicate, Nat.sub_self, List.take_zero, List.append_nil, List.take_of_length_le (by simp), List.drop_of_length_le (by simp), List.nil_append, List.drop_replicate,
    ← List.append_assoc, List.replicate_append_replicate, show K - k - (k + c - k) = K - (k + c) by omega]
theorem makes_rep (K : Nat) (hn : K ≤ 1000000) (w : World) : (Instr.makeSlice 22 (.int .i64 (K : Int)) (.int .i64 (K : Int))).run Try.prog w = .ok (.slice (some ⟨w.heap.size, 0, none⟩) K K) (w.alloc (.cells ((repI 0 K).map (Value.int .i64)).toArray 3)) := by
  unfold repI
  rw [List.replicate_zero, List.nil_append, Nat.sub_zero, List.map_replicate]
  exact run_make_one (P := Try.prog) 22 3 (.int .i64 0) 8 Try.underlying22 info_int rfl K (by omega) (by omega) w
set_option maxHeartbeats 2000000 in
theorem repeat_any (b : Nat) (K : Nat) (w : World) (h1 : 1 ≤ K) (h2 : K ≤ 32) (hc : w.cell? ⟨b, 0, none⟩ = some (.int .i64 (-1))) (hb : b < w.heap.size) : Calls Try.prog 58 #[.slice (some ⟨b, 0, none⟩) 1 1, .int .i64 K] w (RetOwn (Value.int .i64) 3 w (List.replicate K (-1))) := by
  have hmk := makes_rep K (by omega)
  have MU : ∀ w, Calls Try.prog 66 #[.int .u64 1, .int .u64 K] w fun e w' => e = .returned (.tuple #[.int .u64 0, .int .u64 K]) ∧ w' = w := fun w => by
    have h := Try.bits_Mul 1 K (by omega) (by omega) w
    rw [Nat.one_mul, Nat.div_eq_of_lt (by omega), Nat.mod_eq_of_lt (by omega)] at h
    exact h
  have HMU := Lib.hid MU; clear MU
  have d0 : decide ((K : Int) < 0) = false := decide_eq_false (by omega)
  have d1 : decide ((9223372036854775807 : Int) < (K : Int)) = false := decide_eq_false (by omega)
  have hl0 := repI_len (k := 0) (K := K) (by omega)
  have hs0 : splice ((repI 0 K).map (Value.int .i64)) 0 [Value.int .i64 (-1)] = (repI 1 K).map (Value.int .i64) := rep_splice (k := 0) (c := 1) (by omega)
  obtain ⟨Z, hZ⟩ : ∃ Z, (repI 0 K).map (Value.int .i64) = Z := ⟨_, rfl⟩
  have hzl : Z.length = K := by rw [← hZ, List.length_map]; exact hl0
  rw [hZ] at hmk hs0
  have HS0 := Lib.hid hs0; clear hs0 hZ hl0
  have HZL := Lib.hid hzl; clear hzl
  go_enter Try.func58, Try.ntmps58
  go_wp2_with fail
  with_reducible refine (HMU.out _).mono ?_
  rintro e w1 ⟨rfl, rfl⟩
  go_wp2_with (refine wpList_copy_splice rfl (.tmp 31) (.tmp 32) 22 22 rfl 3 Try.underlying22 size_int _ _ _ _ _ _ rfl rfl w1.heap.size 0 Z 3 (heap_alloc_new _ _) [.int .i64 (-1)] ?q1 ?q2 ?q3 ?q4 w1.heap.size w1 ?q5 (Nat.le_refl _) ?_)
  case q1 => show 1 = Nat.min 1 K; exact (Nat.min_eq_left h1).symm
  case q2 =>
    intro j v hv
    try rw [add_of_none, Nat.zero_add]
    try rw [World.cell?_alloc_lt hb]
    match j with
    | 0 => injection hv with hv; rw [← hv]; exact hc
    | j + 1 => simp at hv
  case q3 => show 0 + 1 ≤ Z.length; rw [HZL.out]; omega
  case q4 => intro u hu; simp at hu; subst hu; rfl
  case q5 => exact (Below.refl _ _).alloc (Nat.le_refl _) _
  intro w2 hg2 hb2
  have hg3 : HasBlock w2 w1.heap.size ((repI 1 K).map (Value.int .i64)).toArray 3 := by
    have h := hg2.out
    rw [HS0.out] at h
    exact h
  clear hg2 hmk HS0 HZL
  have hz2 : w1.heap.size < w2.heap.size := hg3.lt
  obtain ⟨B, hB⟩ : ∃ B, w1.heap.size = B := ⟨_, rfl⟩
  rw [hB] at hg3 hz2 hb2 ⊢
  go_wp2_with fail
  go_loopw [8] (fun nv wr => ∃ k : Nat, 1 ≤ k ∧ k ≤ K ∧ nv = .int .i64 k ∧ HasBlock wr B ((repI k K).map (Value.int .i64)).toArray 3 ∧ Below B w1 wr) (fun nv _ => K - (intOf nv).toNat)
  case atStart => exact ⟨1, Nat.le_refl _, h1, rfl, hg3, hb2⟩
  case round =>
    clear hg3 hb2 hz2
    obtain ⟨k, hk1, hk2, rfl, hg, hbw⟩ := hrel
    by_cases hlt : k < K
    · obtain ⟨c, hcm⟩ : ∃ c, min k (K - k) = c := ⟨_, rfl⟩
      have hc1 : 0 < c ∧ k + c ≤ K ∧ c ≤ k := by omega
      have hmin : Nat.min k (K - k) = c := hcm
      have hsp := rep_splice (k := k) (c := c) (K := K) hc1.2.1
      have hdg := hg
      have hlz : ((repI k K).map (Value.int .i64)).length = K := by rw [List.length_map]; exact repI_len hk2
      have hll : ((List.replicate c (-1 : Int)).map (Value.int .i64)).length = c := by rw [List.length_map, List.length_replicate]
      have hsrc : ∀ i v, ((List.replicate c (-1 : Int)).map (Value.int .i64))[i]? = some v → wr.cell? ⟨B, i, none⟩ = some v := by
        intro i v hv
        have hi := lt_of_get hv
        rw [hll] at hi
        rw [hg.cell, List.getElem?_toArray, List.getElem?_map]
        rw [List.getElem?_map, List.getElem?_replicate, if_pos hi] at hv
        unfold repI
        rw [List.getElem?_append_left (by rw [List.length_replicate]; omega), List.getElem?_replicate, if_pos (by omega)]
        exact hv
      have hone : ∀ u ∈ (List.replicate c (-1 : Int)).map (Value.int .i64), u.oneCell' = true := by
        intro u hu
        rw [List.mem_map] at hu
        obtain ⟨x, _, rfl⟩ := hu
        rfl
      obtain ⟨Z, hZ⟩ : ∃ Z, (repI k K).map (Value.int .i64) = Z := ⟨_, rfl⟩
      obtain ⟨C, hC⟩ : ∃ C, (List.replicate c (-1 : Int)).map (Value.int .i64) = C := ⟨_, rfl⟩
      rw [hZ] at hg hlz hsp hdg
      rw [hC] at hll hsrc hone hsp
      have HG := Lib.hid hg; clear hg
      have HLZ := Lib.hid hlz; clear hlz
      have HSP := Lib.hid hsp; clear hsp
      have HLL := Lib.hid hll; clear hll
      have HSRC := Lib.hid hsrc; clear hsrc
      have HONE := Lib.hid hone; clear hone
      have HMIN := Lib.hid hmin; clear hmin hcm hZ hC hdg
      have i1 : (0 : Int) ≤ (k : Int) := by omega
      have i2 : (k : Int) ≤ (K : Int) := by omega
      have i3 : ¬ K = k := by omega
      have i4 : IntKind.i64.wrap ((k : Int) + (c : Int)) = (k : Int) + (c : Int) := IntWalk.i64_in _ (by omega)
      go_wp2_with fail
      have hgd : (wr.drew).heap[B]? = some (.cells Z.toArray 3 (0, 0)) := HG.out
      have HGD := Lib.hid hgd; clear hgd
      go_region_law (go_loud (
        refine step_copy_splice rfl (.tmp 41) (.tmp 44) 22 22 rfl 3 Try.underlying22 size_int (some ⟨B, k, none⟩) (some ⟨B, 0, none⟩) (K - k) (K - k) k K ?_ ?_ B k Z 3 HGD.out C ?_ ?_ ?_ HONE.out B wr ?_ (Nat.le_refl _) ?_
        · go_simp
        · go_simp
        · rw [HLL.out]; exact HMIN.out.symm
        · exact (fun h => ⟨rfl, _, rfl, fun i v hv => by rw [add_of_none, Nat.zero_add]; exact HSRC.out i v hv⟩)
        · rw [HLL.out, HLZ.out]; exact hc1.2.1
        · exact (Below.drew (Below.refl _ _))
        intro w4 hg4 hb4))
      all_goals
        rw [HLL.out, i4]
        go_simp
        go_wp2_with fail
        go_roundw
        case rel =>
          refine ⟨k + c, by omega, hc1.2.1, by go_num, ?_, hbw.trans hb4⟩
          have h := hg4.out
          rw [HSP.out] at h
          exact h
        case measure => simp [intOf]; omega
    · obtain rfl : k = K := by omega
      rw [repI_all] at hg
      go_wp2_with fail
      go_ret
      have hlen : (List.replicate k (-1 : Int)).length = k := List.length_replicate ..
      refine ⟨_, rfl, ?_, by rw [hB]; exact hbw⟩
      rw [hB]
      unfold OwnEnc
      rw [hlen]
      refine ⟨by rw [List.length_map, hlen, Nat.mul_one], .inr ⟨B, k, _, rfl, Nat.le_refl _, hg, Nat.le_refl _, by unfold maxLen; omega, by simp, ?_⟩⟩
      rw [Nat.mul_one]
      show ((List.replicate k (-1 : Int)).map (Value.int .i64)).take k = _
      exact List.take_of_length_le (by rw [List.length_map, hlen]; exact Nat.le_refl _)
/-! a pool of free frames -/
def freshF (n : Nat) : List ByteArray := List.replicate n ⟨#[]⟩
def freshR (n : Nat) : List Int := List.replicate n 0
def newOk (n : Int) : Bool := decide (1 ≤ n ∧ n ≤ 96)
def newPl (n : Int) : Pl := if newOk n then ⟨freshF n.toNat, freshR n.toNat, []⟩ else ⟨[], [], []⟩
def cellsF (n : Nat) : Array Value := ((freshF n).map Value.string).toArray
def cellsR (n : Nat) : Array Value := ((freshR n).map (Value.int .i64)).toArray
theorem makes_F (n : Nat) (hn : n ≤ 1000000) (w : World) : (Instr.makeSlice 24 (.int .i64 (n : Int)) (.int .i64 (n : Int))).run Try.prog w = .ok (.slice (some ⟨w.heap.size, 0, none⟩) n n) (w.alloc (.cells (cellsF n) 9)) := by
  unfold cellsF freshF
  rw [List.map_replicate]
  exact run_make_one (P := Try.prog) 24 9 (.string ⟨#[]⟩) 16 Try.underlying24 info_str rfl n (by omega) (by omega) w
theorem makes_R (n : Nat) (hn : n ≤ 1000000) (w : World) : (Instr.makeSlice 22 (.int .i64 (n : Int)) (.int .i64 (n : Int))).run Try.prog w = .ok (.slice (some ⟨w.heap.size, 0, none⟩) n n) (w.alloc (.cells (cellsR n) 3)) := by
  unfold cellsR freshR
  rw [List.map_replicate]
  exact run_make_one (P := Try.prog) 22 3 (.int .i64 0) 8 Try.underlying22 info_int rfl n (by omega) (by omega) w
theorem own_enc {α : Type} {enc : α → Value} {e : TypeId} {w : World} {base g n : Nat} {xs : List α} (h : HasBlock w g ((xs.map enc).toArray) e) (hx : xs.length = n) (hn : n ≤ 1000000) (hb : base ≤ g) : OwnEnc enc e base w (.slice (some ⟨g, 0, none⟩) n n) xs := by
  unfold OwnEnc
  rw [hx]
  refine ⟨by rw [List.length_map, hx, Nat.mul_one], .inr ⟨g, n, (xs.map enc).toArray, rfl, hb, h, Nat.le_refl _, by unfold maxLen; omega, by simp [hx], ?_⟩⟩
  rw [Nat.mul_one]
  show (xs.map enc).take n = _
  exact List.take_of_length_le (by rw [List.length_map, hx]; exact Nat.le_refl _)
theorem new_row {w w' : World} {gf gr n : Nat} (hF : HasBlock w' gf (cellsF n) 9) (hR : HasBlock w' gr (cellsR n) 3) (hn : n ≤ 96) (h1 : 1 ≤ n) (hb : Below w.heap.size w w') (hgf : w.heap.size ≤ gf := by omega) (hgr : w.heap.size ≤ gr := by omega) : RetPoolB (newPl n) (newOk n) w (.returned (.tuple #[.agg #[.slice (some ⟨gf, 0, none⟩) n n, .slice (some ⟨gr, 0, none⟩) n n, .slice none 0 0], .bool true])) w' := by
  have hok : newOk n = true := decide_eq_true ⟨by omega, by omega⟩
  have hp : newPl n = ⟨freshF n, freshR n, []⟩ := by unfold newPl; rw [if_pos hok, Int.toNat_natCast]
  have h2 : (freshF n).length = n := List.length_replicate ..
  have h3 : (freshR n).length = n := List.length_replicate ..
  have oF : OwnStr w.heap.size w' (.slice (some ⟨gf, 0, none⟩) n n) (freshF n) := own_enc hF h2 (by omega) hgf
  have oR : OwnNum w.heap.size w' (.slice (some ⟨gr, 0, none⟩) n n) (freshR n) := own_enc hR h3 (by omega) hgr
  have hrow : OwnP w.heap.size w' (.slice (some ⟨gf, 0, none⟩) n n) (.slice (some ⟨gr, 0, none⟩) n n) (.slice none 0 0) [] ⟨freshF n, freshR n, []⟩ := ⟨oF, oR, own_nil, OwnRows.nil _ _, fun i u hu => by simp at hu⟩
  rw [hp, hok]
  refine ⟨some ⟨gf, 0, none⟩, some ⟨gr, 0, none⟩, none, n, n, 0, [], ?_, ?_, hb⟩
  · simp only [h2, h3]; rfl
  · simp only [h2, h3]; exact hrow
theorem new_none {n : Int} {w w' : World} (h : newOk n = false) (hb : Below w.heap.size w w') : RetPoolB (newPl n) (newOk n) w (.returned (.tuple #[.agg #[.slice none 0 0, .slice none 0 0, .slice none 0 0], .bool false])) w' := by
  have hp : newPl n = ⟨[], [], []⟩ := by unfold newPl; rw [h]; rfl
  rw [hp, h]
  exact ⟨none, none, none, 0, 0, 0, [], rfl, ⟨own_nil, own_nil, own_nil, OwnRows.nil _ _, fun i u hu => by simp at hu⟩, hb⟩
set_option maxHeartbeats 2000000 in
theorem pnew_any_own (n : Int) (w : World) : Calls Try.prog 40 #[.int .i64 n] w (RetPoolB (newPl n) (newOk n) w) := by
  by_cases h1 : 1 ≤ n
  rotate_left
  · have hno : newOk n = false := decide_eq_false (fun h => h1 h.1)
    have HNO := Lib.hid hno; clear hno
    go_enter Try.func40, Try.ntmps40
    go_wp2_with fail
    refine bodyPost_ret (v := .tuple #[.agg #[.slice none 0 0, .slice none 0 0, .slice none 0 0], .bool false]) (by simp [results, Try.results40, go_sem]) rfl ?_
    exact new_none HNO.out (by repeat (first | with_reducible exact Below.refl _ _ | with_reducible refine Below.drew ?_ | (with_reducible refine Below.alloc ?_ (by first | exact Nat.le_refl _ | omega | (dsimp only; omega) | (simp only [sizes]; omega)) _) | (with_reducible refine Below.setCell ?_ (by first | exact Nat.le_refl _ | omega | (dsimp only; omega) | (simp only [sizes]; omega)) _) | (refine Below.trans ?_ (Below.mono (by with_reducible assumption) (by first | exact Nat.le_refl _ | omega | (dsimp only; omega) | (simp only [sizes]; omega))))))
  by_cases h2 : n ≤ 96
  rotate_left
  · have hno : newOk n = false := decide_eq_false (fun h => h2 h.2)
    have HNO := Lib.hid hno; clear hno
    go_enter Try.func40, Try.ntmps40
    go_wp2_with fail
    refine bodyPost_ret (v := .tuple #[.agg #[.slice none 0 0, .slice none 0 0, .slice none 0 0], .bool false]) (by simp [results, Try.results40, go_sem]) rfl ?_
    exact new_none HNO.out (by repeat (first | with_reducible exact Below.refl _ _ | with_reducible refine Below.drew ?_ | (with_reducible refine Below.alloc ?_ (by first | exact Nat.le_refl _ | omega | (dsimp only; omega) | (simp only [sizes]; omega)) _) | (with_reducible refine Below.setCell ?_ (by first | exact Nat.le_refl _ | omega | (dsimp only; omega) | (simp only [sizes]; omega)) _) | (refine Below.trans ?_ (Below.mono (by with_reducible assumption) (by first | exact Nat.le_refl _ | omega | (dsimp only; omega) | (simp only [sizes]; omega))))))
  obtain ⟨k, rfl⟩ : ∃ k : Nat, n = k := ⟨n.toNat, by omega⟩
  have mF := makes_F k (by omega)
  have mR := makes_R k (by omega)
  have hmF : ∀ W : World, HasBlock (W.alloc (.cells (cellsF k) 9)) W.heap.size (cellsF k) 9 := fun W => HasBlock.made W _ _
  have hmR : ∀ W : World, HasBlock (W.alloc (.cells (cellsR k) 3)) W.heap.size (cellsR k) 3 := fun W => HasBlock.made W _ _
  have HMF := Lib.hid hmF; clear hmF
  have HMR := Lib.hid hmR; clear hmR
  obtain ⟨CF, hCF⟩ : ∃ c, cellsF k = c := ⟨_, rfl⟩
  obtain ⟨CR, hCR⟩ : ∃ c, cellsR k = c := ⟨_, rfl⟩
  rw [hCF] at mF HMF
  rw [hCR] at mR HMR
  have HCF := Lib.hid hCF; clear hCF
  have HCR := Lib.hid hCR; clear hCR
  go_enter Try.func40, Try.ntmps40
  go_wp2_with fail
  go_region
  all_goals go_wp2_with fail
  · have q1 := (((HMF.out (w.alloc (.cells #[.slice (some ⟨w.heap.size + 1, 0, none⟩) k k, .slice (some ⟨w.heap.size + 1 + 1, 0, none⟩) k k, .slice none 0 0] 27))).alloc (.cells CR 3))).drew
    have q2 := (HMR.out ((w.alloc (.cells #[.slice (some ⟨w.heap.size + 1, 0, none⟩) k k, .slice (some ⟨w.heap.size + 1 + 1, 0, none⟩) k k, .slice none 0 0] 27)).alloc (.cells CF 9))).drew
    simp only [sizes] at q1 q2
    refine bodyPost_ret (v := .tuple #[.agg #[.slice (some ⟨w.heap.size + 1, 0, none⟩) k k, .slice (some ⟨w.heap.size + 1 + 1, 0, none⟩) k k, .slice none 0 0], .bool true]) (by simp [results, Try.results40, go_sem]) rfl ?_
    rw [← HCF.out, ← HCR.out] at q1 q2
    rw [← HCF.out, ← HCR.out]
    exact new_row q1 q2 (by omega) (by omega) (by repeat (first | with_reducible exact Below.refl _ _ | with_reducible refine Below.drew ?_ | (with_reducible refine Below.alloc ?_ (by first | exact Nat.le_refl _ | omega | (dsimp only; omega) | (simp only [sizes]; omega)) _) | (with_reducible refine Below.setCell ?_ (by first | exact Nat.le_refl _ | omega | (dsimp only; omega) | (simp only [sizes]; omega)) _) | (refine Below.trans ?_ (Below.mono (by with_reducible assumption) (by first | exact Nat.le_refl _ | omega | (dsimp only; omega) | (simp only [sizes]; omega))))))
  · have q1 := (((HMR.out (w.alloc (.cells #[.slice (some ⟨w.heap.size + 1 + 1, 0, none⟩) k k, .slice (some ⟨w.heap.size + 1, 0, none⟩) k k, .slice none 0 0] 27))).alloc (.cells CF 9))).drew
    have q2 := (HMF.out ((w.alloc (.cells #[.slice (some ⟨w.heap.size + 1 + 1, 0, none⟩) k k, .slice (some ⟨w.heap.size + 1, 0, none⟩) k k, .slice none 0 0] 27)).alloc (.cells CR 3))).drew
    simp only [sizes] at q1 q2
    refine bodyPost_ret (v := .tuple #[.agg #[.slice (some ⟨w.heap.size + 1 + 1, 0, none⟩) k k, .slice (some ⟨w.heap.size + 1, 0, none⟩) k k, .slice none 0 0], .bool true]) (by simp [results, Try.results40, go_sem]) rfl ?_
    rw [← HCF.out, ← HCR.out] at q1 q2
    rw [← HCF.out, ← HCR.out]
    exact new_row q2 q1 (by omega) (by omega) (by repeat (first | with_reducible exact Below.refl _ _ | with_reducible refine Below.drew ?_ | (with_reducible refine Below.alloc ?_ (by first | exact Nat.le_refl _ | omega | (dsimp only; omega) | (simp only [sizes]; omega)) _) | (with_reducible refine Below.setCell ?_ (by first | exact Nat.le_refl _ | omega | (dsimp only; omega) | (simp only [sizes]; omega)) _) | (refine Below.trans ?_ (Below.mono (by with_reducible assumption) (by first | exact Nat.le_refl _ | omega | (dsimp only; omega) | (simp only [sizes]; omega))))))
theorem pnew_any (n : Int) (w : World) : Calls Try.prog 40 #[.int .i64 n] w (RetPool2 (newPl n) (newOk n) w) := (pnew_any_own n w).mono fun _ _ h => h.two
end Go.Proofs.Ytbnngjhnkegliaa
namespace Go.Proofs.Ytbnngjhnkegliaa
open Go.RowKit

def Pl.goodA (P : Pl) (q : Int) : Bool := P.ok && decide (P.M.length ≠ 8 ∧ 1 ≤ q ∧ q ≤ 32)
def Pl.add (P : Pl) (q : Int) : Pl := if P.goodA q then ⟨P.F, P.R, P.M ++ [List.replicate q.toNat (-1)]⟩ else P
set_option maxRecDepth 100000 in
set_option maxHeartbeats 4000000 in
theorem padd_own (v : Value) (P : Pl) (q : Int) (w : World) (h : PlRow w v P) (hf : P.fit) (hs : P.small) : Calls Try.prog 42 #[v, .int .i64 q] w (RetPoolB (P.add q) (P.goodA q) w) := by
  obtain ⟨of, or', om, kf, kr, km, rfl, kf1, kf2, kr1, kr2, km1, km2⟩ := h.form
  obtain ⟨n, hn⟩ : ∃ n, P.F.length = n := ⟨_, rfl⟩
  obtain ⟨r, hr⟩ : ∃ n, P.R.length = n := ⟨_, rfl⟩
  obtain ⟨m, hm⟩ : ∃ n, P.M.length = n := ⟨_, rfl⟩
  rw [hn] at h kf1 ⊢
  rw [hr] at h kr1 ⊢
  rw [hm] at h km1 ⊢
  have HN := Lib.hid hn; clear hn
  have HR := Lib.hid hr; clear hr
  have HM := Lib.hid hm; clear hm
  have V := fun w h => valid_pl (.agg #[.slice of n kf, .slice or' r kr, .slice om m km]) P w h hf
  have C := fun w h => pclone_any (.agg #[.slice of n kf, .slice or' r kr, .slice om m km]) P w h hs
  clear hf hs
  have HC := Lib.hid C; clear C
  obtain ⟨hv, hhv⟩ : ∃ b, P.ok = b := ⟨_, rfl⟩
  rw [hhv] at V
  have HV := Lib.hid V; clear V
  have HHV := Lib.hid hhv; clear hhv
  have D1 := (HasBlock.made w #[.slice of n kf, .slice or' r kr, .slice om m km] 27).alloc (.cells #[.slice none 0 0, .slice none 0 0, .slice none 0 0] 27)
  have D2 := HasBlock.made (w.alloc (.cells #[.slice of n kf, .slice or' r kr, .slice om m km] 27)) #[.slice none 0 0, .slice none 0 0, .slice none 0 0] 27
  have hbw : Below w.heap.size w ((w.alloc (.cells #[.slice of n kf, .slice or' r kr, .slice om m km] 27)).alloc (.cells #[.slice none 0 0, .slice none 0 0, .slice none 0 0] 27)) := (by repeat (first | with_reducible exact Below.refl _ _ | with_reducible refine Below.drew ?_ | (with_reducible refine Below.alloc ?_ (by first | exact Nat.le_refl _ | omega | (dsimp only; omega) | (simp only [sizes]; omega)) _) | (with_reducible refine Below.setCell ?_ (by first | exact Nat.le_refl _ | omega | (dsimp only; omega) | (simp only [sizes]; omega)) _) | (refine Below.trans ?_ (Below.mono (by with_reducible assumption) (by first | exact Nat.le_refl _ | omega | (dsimp only; omega) | (simp only [sizes]; omega))))))
  have hz : w.heap.size + 1 + 1 ≤ ((w.alloc (.cells #[.slice of n kf, .slice or' r kr, .slice om m km] 27)).alloc (.cells #[.slice none 0 0, .slice none 0 0, .slice none 0 0] 27)).heap.size := by simp only [sizes]; omega
  simp only [sizes] at D2
  replace h := h.below hbw
  go_enter Try.func42, Try.ntmps42
  go_wp2_with fail
  with_reducible refine (HC.out _ h).mono ?_
  rintro e w1 ⟨of1, or1, om1, kf1', kr1', km1', us, rfl, hO, hb1⟩
  rw [HN.out, HR.out, HM.out] at hO ⊢
  replace hO := hO.lower hz
  replace D1 := D1.below hb1
  replace D2 := D2.below hb1
  replace h := h.below hb1
  replace hbw := hbw.trans (hb1.mono hbw.size)
  replace hz := Nat.le_trans hz hb1.size
  clear hb1
  have hT := hO.lt
  obtain ⟨D1_c, D1_f, D1_z⟩ := D1.all
  obtain ⟨D2_c, D2_f, D2_z⟩ := D2.all
  go_wp2_with fail
  clear D1_c D1_f D1_z
  clear D2_c D2_f D2_z
  have hbx : Below w1.heap.size w1 (w1.alloc (.cells #[.slice of1 n kf1', .slice or1 r kr1', .slice om1 m km1'] 27)) := (Below.refl _ _).alloc (Nat.le_refl _) _
  replace D1 := D1.below hbx
  replace D2 := D2.below hbx
  have D3 := HasBlock.made w1 #[.slice of1 n kf1', .slice or1 r kr1', .slice om1 m km1'] 27
  replace h := h.below hbx
  replace hO := hO.below hbx
  replace hbw := hbw.trans (hbx.mono hbw.size)
  have hz2 : w1.heap.size + 1 ≤ (w1.alloc (.cells #[.slice of1 n kf1', .slice or1 r kr1', .slice om1 m km1'] 27)).heap.size := Nat.le_of_eq (World.size_alloc ..).symm
  clear hbx
  obtain ⟨B, hB⟩ : ∃ B, w1.heap.size = B := ⟨_, rfl⟩
  rw [hB] at D3 hz hT hz2 ⊢
  generalize hW : w1.alloc (.cells #[.slice of1 n kf1', .slice or1 r kr1', .slice om1 m km1'] 27) = w2 at D1 D2 D3 h hO hbw hz2 ⊢
  clear hW hB
  with_reducible refine (HV.out _ h).mono ?_
  rintro e w3 ⟨rfl, hb3⟩
  replace hz2 := Nat.le_trans hz2 hb3.size
  replace D1 := D1.below hb3
  replace D2 := D2.below hb3
  replace D3 := D3.below hb3
  replace h := h.below hb3
  replace hO := hO.below hb3
  replace hbw := hbw.trans (hb3.mono hbw.size)
  clear hb3
  cases hv
  · have hno : P.goodA q = false := by unfold Pl.goodA; (rw [HHV.out]; rfl)
    have HNO := Lib.hid hno; clear hno
    obtain ⟨D1_c, D1_f, D1_z⟩ := D1.all
    obtain ⟨D2_c, D2_f, D2_z⟩ := D2.all
    obtain ⟨D3_c, D3_f, D3_z⟩ := D3.all
    go_wp2_with fail
    refine bodyPost_ret (v := .tuple #[.agg #[.slice of1 n kf1', .slice or1 r kr1', .slice om1 m km1'], .bool false]) (by simp [results, Try.results42, go_sem, D2_c]) rfl ?_
    rw [HNO.out]
    exact ret_poolb HN.out HR.out HM.out (by unfold Pl.add; rw [HNO.out]; rfl) (((hO.setlow (b := w.heap.size + 1) (j := 0) (by omega) _).setlow (b := w.heap.size + 1) (j := 1) (by omega) _).setlow (b := w.heap.size + 1) (j := 2) (by omega) _) (((hbw.setCell (p := ⟨w.heap.size + 1, 0, none⟩) (by dsimp only; omega) _).setCell (p := ⟨w.heap.size + 1, 1, none⟩) (by dsimp only; omega) _).setCell (p := ⟨w.heap.size + 1, 2, none⟩) (by dsimp only; omega) _)
  have H := Pl.ok_iff.1 HHV.out
  have hm8 := H.m
  rw [HM.out] at hm8
  by_cases g1 : m = 8
  · have e1 : (m == 8) = true := by rw [beq_iff_eq]; exact g1
    have e2 : ((m : Int) == 8) = true := by rw [beq_iff_eq]; omega
    have hno : P.goodA q = false := by unfold Pl.goodA; rw [decide_eq_false (fun h => h.1 (by rw [HM.out]; exact g1)), Bool.and_false]
    have HNO := Lib.hid hno; clear hno g1
    obtain ⟨D1_c, D1_f, D1_z⟩ := D1.all
    obtain ⟨D2_c, D2_f, D2_z⟩ := D2.all
    obtain ⟨D3_c, D3_f, D3_z⟩ := D3.all
    go_wp2_with fail
    refine bodyPost_ret (v := .tuple #[.agg #[.slice of1 n kf1', .slice or1 r kr1', .slice om1 m km1'], .bool false]) (by simp [results, Try.results42, go_sem, D2_c]) rfl ?_
    rw [HNO.out]
    exact ret_poolb HN.out HR.out HM.out (by unfold Pl.add; rw [HNO.out]; rfl) (((hO.setlow (b := w.heap.size + 1) (j := 0) (by omega) _).setlow (b := w.heap.size + 1) (j := 1) (by omega) _).setlow (b := w.heap.size + 1) (j := 2) (by omega) _) (((hbw.setCell (p := ⟨w.heap.size + 1, 0, none⟩) (by dsimp only; omega) _).setCell (p := ⟨w.heap.size + 1, 1, none⟩) (by dsimp only; omega) _).setCell (p := ⟨w.heap.size + 1, 2, none⟩) (by dsimp only; omega) _)
  have e1 : (m == 8) = false := by rw [beq_eq_false_iff_ne]; exact g1
  have e2 : ((m : Int) == 8) = false := by rw [beq_eq_false_iff_ne]; omega
  by_cases g2 : 1 ≤ q
  rotate_left
  · have hno : P.goodA q = false := by unfold Pl.goodA; rw [decide_eq_false (fun h => g2 h.2.1), Bool.and_false]
    have HNO := Lib.hid hno; clear hno
    obtain ⟨D1_c, D1_f, D1_z⟩ := D1.all
    obtain ⟨D2_c, D2_f, D2_z⟩ := D2.all
    obtain ⟨D3_c, D3_f, D3_z⟩ := D3.all
    go_wp2_with fail
    refine bodyPost_ret (v := .tuple #[.agg #[.slice of1 n kf1', .slice or1 r kr1', .slice om1 m km1'], .bool false]) (by simp [results, Try.results42, go_sem, D2_c]) rfl ?_
    rw [HNO.out]
    exact ret_poolb HN.out HR.out HM.out (by unfold Pl.add; rw [HNO.out]; rfl) (((hO.setlow (b := w.heap.size + 1) (j := 0) (by omega) _).setlow (b := w.heap.size + 1) (j := 1) (by omega) _).setlow (b := w.heap.size + 1) (j := 2) (by omega) _) (((hbw.setCell (p := ⟨w.heap.size + 1, 0, none⟩) (by dsimp only; omega) _).setCell (p := ⟨w.heap.size + 1, 1, none⟩) (by dsimp only; omega) _).setCell (p := ⟨w.heap.size + 1, 2, none⟩) (by dsimp only; omega) _)
  by_cases g3 : q ≤ 32
  rotate_left
  · have hno : P.goodA q = false := by unfold Pl.goodA; rw [decide_eq_false (fun h => g3 h.2.2), Bool.and_false]
    have HNO := Lib.hid hno; clear hno
    obtain ⟨D1_c, D1_f, D1_z⟩ := D1.all
    obtain ⟨D2_c, D2_f, D2_z⟩ := D2.all
    obtain ⟨D3_c, D3_f, D3_z⟩ := D3.all
    go_wp2_with fail
    refine bodyPost_ret (v := .tuple #[.agg #[.slice of1 n kf1', .slice or1 r kr1', .slice om1 m km1'], .bool false]) (by simp [results, Try.results42, go_sem, D2_c]) rfl ?_
    rw [HNO.out]
    exact ret_poolb HN.out HR.out HM.out (by unfold Pl.add; rw [HNO.out]; rfl) (((hO.setlow (b := w.heap.size + 1) (j := 0) (by omega) _).setlow (b := w.heap.size + 1) (j := 1) (by omega) _).setlow (b := w.heap.size + 1) (j := 2) (by omega) _) (((hbw.setCell (p := ⟨w.heap.size + 1, 0, none⟩) (by dsimp only; omega) _).setCell (p := ⟨w.heap.size + 1, 1, none⟩) (by dsimp only; omega) _).setCell (p := ⟨w.heap.size + 1, 2, none⟩) (by dsimp only; omega) _)
  obtain ⟨K, rfl⟩ : ∃ K : Nat, q = K := ⟨q.toNat, by omega⟩
  have hyes : P.goodA K = true := by unfold Pl.goodA; rw [HHV.out, decide_eq_true ⟨by rw [HM.out]; exact g1, g2, g3⟩]; rfl
  have hadd : P.add K = ⟨P.F, P.R, P.M ++ [List.replicate K (-1)]⟩ := by unfold Pl.add; rw [hyes, Int.toNat_natCast]; rfl
  have HYES := Lib.hid hyes; clear hyes
  have HADD := Lib.hid hadd; clear hadd
  have hrl : (List.replicate K (-1 : Int)).length = K := List.length_replicate ..
  have RP := fun b w h1 h2 => repeat_any b K w (by omega) (by omega) h1 h2
  obtain ⟨l, hl⟩ : ∃ l, List.replicate K (-1 : Int) = l := ⟨_, rfl⟩
  rw [hl] at RP HADD hrl
  have HRP := Lib.hid RP; clear RP hl
  have HRL := Lib.hid hrl; clear hrl
  obtain ⟨i0, hi0, iz0, iz1, iz2⟩ := info_parts info_ints
  obtain ⟨D1_c, D1_f, D1_z⟩ := D1.all
  obtain ⟨D2_c, D2_f, D2_z⟩ := D2.all
  obtain ⟨D3_c, D3_f, D3_z⟩ := D3.all
  go_wp2_with fail
  clear D1_c D1_f D1_z
  clear D2_c D2_f D2_z
  clear D3_c D3_f D3_z
  have hom : w3.ownsRow (w.heap.size + 1 + 1) 22 1 (.slice om1 m km1') m us := by have h := hO.m; rw [HM.out] at h; exact h
  have HOM := Lib.hid hom; clear hom
  clear h
  obtain ⟨D1_c, D1_f, D1_z⟩ := D1.all
  obtain ⟨D2_c, D2_f, D2_z⟩ := D2.all
  obtain ⟨D3_c, D3_f, D3_z⟩ := D3.all
  go_region_law (go_loud (first
    | (refine step_append_own rfl (.tmp 28) (.tmp 32) 25 rfl (w.heap.size + 1 + 1) 22 i0 (.slice none 0 0) 1 24 Try.underlying25 hi0 iz0 iz1 iz2 rfl (by decide) (.slice om1 m km1') m us rfl (HOM5.out.alloc _) ⟨_, 0, none⟩ 1 1 [.slice uo5 K uk5] rfl rfl (cells_made _ [.slice uo5 K uk5] _ _ rfl) (one_slice _ _ _) (by unfold maxLen; omega) (by omega) (by simp only [sizes]; omega) ?_
       intro v6 w6 hown6 hgrow6 _
       obtain ⟨o6, c6, rfl, hc61, hc62⟩ := own_form' hown6
       have HO6 := (HO5.alloc (.cells #[.slice uo5 K uk5] 22)).push (l := l) (O5.alloc _) hr5 hu5 (by rw [HM.out]; exact hown6) hgrow6
       have F1 := (E1.alloc (.cells #[.slice uo5 K uk5] 22)).append (HOM5.out.alloc _) hgrow6 (by omega)
       have F2 := (E2.alloc (.cells #[.slice uo5 K uk5] 22)).append (HOM5.out.alloc _) hgrow6 (by omega)
       have F3 : HasBlock w6 B #[.slice of1 n kf1', .slice or1 r kr1', .slice om1 m km1'] 27 := (hgrow6.block B (E3.alloc _).lt (fun e => own_off HOM5.out E3 (by decide) e.symm)).trans (E3.alloc _)
       have hbw6 : Below w.heap.size w w6 := below_grown (hbw5.alloc (by omega) _) (HOM5.out.alloc _) hgrow6 (by omega) (by simp only [sizes]; omega)
       obtain ⟨F1_c, F1_f, F1_z⟩ := F1.all
       obtain ⟨F2_c, F2_f, F2_z⟩ := F2.all
       obtain ⟨F3_c, F3_f, F3_z⟩ := F3.all)
    | (go_simp; go_at_call 58
       with_reducible refine (HRP.out _ _ (((HasBlock.made w3 #[.int .i64 (-1)] 3).drew.cell 0).trans rfl) (HasBlock.made w3 #[.int .i64 (-1)] 3).drew.lt).mono ?_
       rintro _ w5 ⟨v5, rfl, o5, hb5⟩
       obtain ⟨uo5, uk5, rfl, _, _⟩ := o5.formN HRL.out
       have HB5 : Below w3.heap.size w3 w5 := (((Below.refl _ w3).alloc (Nat.le_refl _) (.cells #[.int .i64 (-1)] 3)).drew).trans (hb5.mono (by simp only [sizes]; omega))
       have hzb : w3.heap.size ≤ (w3.alloc (.cells #[.int .i64 (-1)] 3)).drew.heap.size := by simp only [sizes]; omega
       replace o5 := o5.lower hzb
       clear hb5 hzb
       have E1 := D1.below HB5
       have E2 := D2.below HB5
       have E3 := D3.below HB5
       have HO5 := hO.below HB5
       have hz5 := HB5.size
       have hbw5 : Below w.heap.size w w5 := hbw.trans (HB5.mono hbw.size)
       have HOM5 : Hid (w5.ownsRow (w.heap.size + 1 + 1) 22 1 (.slice om1 m km1') m us) := Lib.hid (owns_below HOM.out HB5)
       have hr5 : Apart (.slice or1 r kr1') (.slice uo5 K uk5) := apart_lt (B := w3.heap.size) (fun k hk => (World.ownsRow.lt hO.r.raw k hk).2) (fun k hk => (World.ownsRow.lt o5.raw k hk).1)
       have hu5 : ∀ (j : Nat) (u' : Value), us[j]? = some u' → Apart u' (.slice uo5 K uk5) := fun j u' hj => apart_lt (B := w3.heap.size) (fun k hk => hO.lt.u j u' hj k hk) (fun k hk => (World.ownsRow.lt o5.raw k hk).1)
       have O5 := OwnEnc.lower (base' := w.heap.size + 1 + 1) o5 (by omega)
       clear o5
       obtain ⟨E3_c, E3_f, E3_z⟩ := E3.all)))
  all_goals
    go_wp2_with fail
    refine bodyPost_ret (v := .tuple #[.agg #[.slice of1 n kf1', .slice or1 r kr1', .slice o6 (m + 1) c6], .bool true]) (by simp [results, Try.results42, go_sem, F2_c]) rfl ?_
    have HO7 := HO6.setbox (j := 2) F3 (by decide) (by decide) (by decide) (.slice o6 (m + 1) c6)
    replace hbw6 := hbw6.setCell (p := ⟨B, 2, none⟩) (by dsimp only; omega) (.slice o6 (m + 1) c6)
    have hbw := hbw6
    rw [HYES.out]
    exact ret_poolb (Q := ⟨P.F, P.R, P.M ++ [l]⟩) HN.out HR.out (by rw [List.length_append, HM.out]; rfl) HADD.out (((HO7.setlow (b := w.heap.size + 1) (j := 0) (by omega) _).setlow (b := w.heap.size + 1) (j := 1) (by omega) _).setlow (b := w.heap.size + 1) (j := 2) (by omega) _) (((hbw.setCell (p := ⟨w.heap.size + 1, 0, none⟩) (by dsimp only; omega) _).setCell (p := ⟨w.heap.size + 1, 1, none⟩) (by dsimp only; omega) _).setCell (p := ⟨w.heap.size + 1, 2, none⟩) (by dsimp only; omega) _)
theorem padd_any (v : Value) (P : Pl) (q : Int) (w : World) (h : PlRow w v P) (hf : P.fit) (hs : P.small) : Calls Try.prog 42 #[v, .int .i64 q] w (RetPool2 (P.add q) (P.goodA q) w) := (padd_own v P q w h hf hs).mono fun _ _ h => h.two
end Go.Proofs.Ytbnngjhnkegliaa
namespace Go.Proofs.Ytbnngjhnkegliaa
open Go.RowKit

structure Clm where
  r : Int
  l : Int
  s : Int
  p : Int
  a : Int
def validB (c : Clm) : Bool := decide (1 ≤ c.r ∧ c.r ≤ c.l ∧ c.l ≤ 96 ∧ 1 ≤ c.s ∧ c.s ≤ 1000 ∧ 0 ≤ c.p ∧ c.p ≤ 96 ∧ 0 ≤ c.a ∧ c.a ≤ 1000)
def taxB (t : Int) : Bool := decide (0 ≤ t ∧ t ≤ 99)
def costR (p a t : Int) : Int := p * (a * (100 - t) + 100 * (1000 - a))
def costI (c : Clm) (t : Int) : Int := if validB c && taxB t then costR c.p c.a t else 0
def poorB (x y : Clm) (t : Int) : Bool := validB x && validB y && taxB t && decide (x.s * costI y t < y.s * costI x t)
theorem validB_iff (c : Clm) : validB c = true ↔ 1 ≤ c.r ∧ c.r ≤ c.l ∧ c.l ≤ 96 ∧ 1 ≤ c.s ∧ c.s ≤ 1000 ∧ 0 ≤ c.p ∧ c.p ≤ 96 ∧ 0 ≤ c.a ∧ c.a ≤ 1000 := decide_eq_true_iff
theorem taxB_iff (t : Int) : taxB t = true ↔ 0 ≤ t ∧ t ≤ 99 := decide_eq_true_iff

theorem mul_bd {x y a b : Int} (hx : 0 ≤ x) (hx' : x ≤ a) (hy : 0 ≤ y) (hy' : y ≤ b) : 0 ≤ x * y ∧ x * y ≤ a * b :=
  ⟨Int.mul_nonneg hx hy, Int.le_trans (Int.mul_le_mul_of_nonneg_right hx' hy) (Int.mul_le_mul_of_nonneg_left hy' (by omega))⟩
theorem cost_bd {p a t : Int} (hp : 0 ≤ p) (hp' : p ≤ 96) (ha : 0 ≤ a) (ha' : a ≤ 1000) (ht : 0 ≤ t) (ht' : t ≤ 99) :
    0 ≤ a * (100 - t) ∧ a * (100 - t) ≤ 100000 ∧ 0 ≤ costR p a t ∧ costR p a t ≤ 19200000 ∧ 0 ≤ p * (a * (100 - t) + 100 * (1000 - a)) ∧ p * (a * (100 - t) + 100 * (1000 - a)) ≤ 19200000 := by
  have h1 := mul_bd ha ha' (show 0 ≤ 100 - t by omega) (show 100 - t ≤ 100 by omega)
  have h2 := mul_bd hp hp' (show 0 ≤ a * (100 - t) + 100 * (1000 - a) by omega) (show a * (100 - t) + 100 * (1000 - a) ≤ 200000 by omega)
  unfold costR
  omega
theorem costI_bd (c : Clm) (t : Int) : 0 ≤ costI c t ∧ costI c t ≤ 19200000 := by
  unfold costI
  split
  · rename_i h
    rw [Bool.and_eq_true, validB_iff, taxB_iff] at h
    have := cost_bd (p := c.p) (a := c.a) (t := t) (by omega) (by omega) (by omega) (by omega) (by omega) (by omega)
    omega
  · omega

set_option maxHeartbeats 1000000 in
theorem idletax_Valid_any (r l s p a : Int) (w : World) : Calls Try.prog 41 #[.agg #[.int .i64 r, .int .i64 l, .int .i64 s, .int .i64 p, .int .i64 a]] w (Ret w (.bool (validB ⟨r, l, s, p, a⟩))) := by
  go_enter Try.func41, Try.ntmps41
  go_wp2
  all_goals go_ret
  all_goals exact Ret.mk' (congrArg Value.bool (by unfold validB; rw [Bool.eq_iff_iff]; simp only [decide_eq_true_eq, Bool.false_eq_true, false_iff]; omega)) (by repeat (first | with_reducible exact Below.refl _ _ | with_reducible refine Below.drew ?_ | (with_reducible refine Below.alloc ?_ (by first | exact Nat.le_refl _ | omega | (simp only [sizes]; omega)) _) | (with_reducible refine Below.setCell ?_ (by first | exact Nat.le_refl _ | omega | (simp only [sizes]; omega)) _) | (refine Below.trans ?_ (Below.mono (by with_reducible assumption) (by first | exact Nat.le_refl _ | omega | (simp only [sizes]; omega))))))
theorem idletax_validTax_any (t : Int) (w : World) : Calls Try.prog 73 #[.int .i64 t] w (Ret w (.bool (taxB t))) := by
  go_enter Try.func73, Try.ntmps73
  go_wp2
  all_goals go_ret
  all_goals exact Ret.mk' (congrArg Value.bool (by unfold taxB; rw [Bool.eq_iff_iff]; simp only [decide_eq_true_eq, Bool.false_eq_true, false_iff]; omega)) (by repeat (first | with_reducible exact Below.refl _ _ | with_reducible refine Below.drew ?_ | (with_reducible refine Below.alloc ?_ (by first | exact Nat.le_refl _ | omega | (simp only [sizes]; omega)) _) | (with_reducible refine Below.setCell ?_ (by first | exact Nat.le_refl _ | omega | (simp only [sizes]; omega)) _) | (refine Below.trans ?_ (Below.mono (by with_reducible assumption) (by first | exact Nat.le_refl _ | omega | (simp only [sizes]; omega))))))
theorem costI_no {c : Clm} {t : Int} (h : (validB c && taxB t) = false) : costI c t = 0 := by unfold costI; rw [h]; rfl
theorem costI_yes {c : Clm} {t : Int} (h1 : validB c = true) (h2 : taxB t = true) : costI c t = costR c.p c.a t := by unfold costI; rw [h1, h2]; rfl

theorem idletax_Cost_no (r l s p a t : Int) (w : World) (h : (validB ⟨r, l, s, p, a⟩ && taxB t) = false) : Calls Try.prog 84 #[.agg #[.int .i64 r, .int .i64 l, .int .i64 s, .int .i64 p, .int .i64 a], .int .i64 t] w (Ret w (.int .i64 0)) := by
  cases hv : validB ⟨r, l, s, p, a⟩
  · have HV := Lib.hid hv; clear hv
    go_enter Try.func84, Try.ntmps84
    go_wp2_with fail
    refine (idletax_Valid_any _ _ _ _ _ _).mono ?_
    rw [HV.out]
    rintro e w1 ⟨rfl, hb1⟩
    have hz1 := bsize hb1
    simp only [World.size_alloc] at hz1
    go_wp2_with fail
    go_ret
    exact Ret.mk (by repeat (first | with_reducible exact Below.refl _ _ | with_reducible refine Below.drew ?_ | (with_reducible refine Below.alloc ?_ (by first | exact Nat.le_refl _ | omega | (simp only [sizes]; omega)) _) | (with_reducible refine Below.setCell ?_ (by first | exact Nat.le_refl _ | omega | (simp only [sizes]; omega)) _) | (refine Below.trans ?_ (Below.mono (by with_reducible assumption) (by first | exact Nat.le_refl _ | omega | (simp only [sizes]; omega))))))
  · have ht : taxB t = false := by rw [hv] at h; exact h
    have HV := Lib.hid hv; clear hv h
    have HT := Lib.hid ht; clear ht
    go_enter Try.func84, Try.ntmps84
    go_wp2_with fail
    refine (idletax_Valid_any _ _ _ _ _ _).mono ?_
    rw [HV.out]
    rintro e w1 ⟨rfl, hb1⟩
    have hz1 := bsize hb1
    simp only [World.size_alloc] at hz1
    go_wp2_with fail
    refine (idletax_validTax_any _ _).mono ?_
    rw [HT.out]
    rintro e w2 ⟨rfl, hb2⟩
    have hz2 := bsize hb2
    go_wp2_with fail
    go_ret
    exact Ret.mk (by repeat (first | with_reducible exact Below.refl _ _ | with_reducible refine Below.drew ?_ | (with_reducible refine Below.alloc ?_ (by first | exact Nat.le_refl _ | omega | (simp only [sizes]; omega)) _) | (with_reducible refine Below.setCell ?_ (by first | exact Nat.le_refl _ | omega | (simp only [sizes]; omega)) _) | (refine Below.trans ?_ (Below.mono (by with_reducible assumption) (by first | exact Nat.le_refl _ | omega | (simp only [sizes]; omega))))))
set_option maxHeartbeats 1000000 in
theorem idletax_Cost_yes (r l s p a t : Int) (w : World) (hv : validB ⟨r, l, s, p, a⟩ = true) (ht : taxB t = true) : Calls Try.prog 84 #[.agg #[.int .i64 r, .int .i64 l, .int .i64 s, .int .i64 p, .int .i64 a], .int .i64 t] w (Ret w (.int .i64 (costR p a t))) := by
  have hv' := (validB_iff _).1 hv
  have ht' := (taxB_iff _).1 ht
  dsimp only at hv'
  obtain ⟨k1, k2, _, _, _, _⟩ := cost_bd (p := p) (a := a) (t := t) (by omega) (by omega) (by omega) (by omega) (by omega) (by omega)
  have HV := Lib.hid hv; clear hv
  have HT := Lib.hid ht; clear ht
  go_enter Try.func84, Try.ntmps84
  go_wp2_with fail
  refine (idletax_Valid_any _ _ _ _ _ _).mono ?_
  rw [HV.out]
  rintro e w1 ⟨rfl, hb1⟩
  obtain ⟨hc1, hf1⟩ := bcell hb1
  have hz1 := bsize hb1
  simp only [World.size_alloc, Nat.add_one_le_iff] at hz1 hc1 hf1
  go_wp2_with fail
  refine (idletax_validTax_any _ _).mono ?_
  rw [HT.out]
  rintro e w2 ⟨rfl, hb2⟩
  obtain ⟨hc2, hf2⟩ := bcell hb2
  have hz2 := bsize hb2
  go_wp2_with fail
  go_ret
  exact Ret.mk (by repeat (first | with_reducible exact Below.refl _ _ | with_reducible refine Below.drew ?_ | (with_reducible refine Below.alloc ?_ (by first | exact Nat.le_refl _ | omega | (simp only [sizes]; omega)) _) | (with_reducible refine Below.setCell ?_ (by first | exact Nat.le_refl _ | omega | (simp only [sizes]; omega)) _) | (refine Below.trans ?_ (Below.mono (by with_reducible assumption) (by first | exact Nat.le_refl _ | omega | (simp only [sizes]; omega))))))
theorem idletax_Cost_any (r l s p a t : Int) (w : World) : Calls Try.prog 84 #[.agg #[.int .i64 r, .int .i64 l, .int .i64 s, .int .i64 p, .int .i64 a], .int .i64 t] w (Ret w (.int .i64 (costI ⟨r, l, s, p, a⟩ t))) := by
  cases h : validB ⟨r, l, s, p, a⟩ && taxB t
  · rw [costI_no h]
    exact idletax_Cost_no _ _ _ _ _ _ _ h
  · rw [Bool.and_eq_true] at h
    rw [costI_yes h.1 h.2]
    exact idletax_Cost_yes _ _ _ _ _ _ _ h.1 h.2
theorem poorB_no {x y : Clm} {t : Int} (h : (validB x && validB y && taxB t) = false) : poorB x y t = false := by unfold poorB; rw [h]; rfl
theorem poorB_yes {x y : Clm} {t : Int} (h1 : validB x = true) (h2 : validB y = true) (h3 : taxB t = true) : poorB x y t = decide (x.s * costI y t < y.s * costI x t) := by unfold poorB; rw [h1, h2, h3]; rfl
theorem price_bd {s : Int} (c : Clm) (t : Int) (h : 1 ≤ s) (h' : s ≤ 1000) : 0 ≤ s * costI c t ∧ s * costI c t ≤ 19200000000 := by
  have := costI_bd c t
  have := mul_bd (x := s) (y := costI c t) (a := 1000) (b := 19200000) (by omega) h' (by omega) (by omega)
  omega

theorem idletax_Valid_is {r l s p a : Int} {x : Bool} (h : validB ⟨r, l, s, p, a⟩ = x) (w : World) : Calls Try.prog 41 #[.agg #[.int .i64 r, .int .i64 l, .int .i64 s, .int .i64 p, .int .i64 a]] w (Ret w (.bool x)) := by
  subst h; exact idletax_Valid_any _ _ _ _ _ _
theorem idletax_validTax_is {t : Int} {x : Bool} (h : taxB t = x) (w : World) : Calls Try.prog 73 #[.int .i64 t] w (Ret w (.bool x)) := by
  subst h; exact idletax_validTax_any _ _
set_option maxHeartbeats 1000000 in
theorem idletax_Poorer_yes (r l s p a r' l' s' p' a' t : Int) (w : World) (h1 : validB ⟨r, l, s, p, a⟩ = true) (h2 : validB ⟨r', l', s', p', a'⟩ = true) (h3 : taxB t = true) :
    Calls Try.prog 74 #[.agg #[.int .i64 r, .int .i64 l, .int .i64 s, .int .i64 p, .int .i64 a], .agg #[.int .i64 r', .int .i64 l', .int .i64 s', .int .i64 p', .int .i64 a'], .int .i64 t] w (Ret w (.bool (decide (s * costI ⟨r', l', s', p', a'⟩ t < s' * costI ⟨r, l, s, p, a⟩ t)))) := by
  have v1 := (validB_iff _).1 h1
  have v2 := (validB_iff _).1 h2
  dsimp only at v1 v2
  have k1 := price_bd (s := s) ⟨r', l', s', p', a'⟩ t (by omega) (by omega)
  have k2 := price_bd (s := s') ⟨r, l, s, p, a⟩ t (by omega) (by omega)
  have H1 := Lib.hid h1; clear h1
  have H2 := Lib.hid h2; clear h2
  have H3 := Lib.hid h3; clear h3
  go_enter Try.func74, Try.ntmps74
  go_wp2_with fail
  refine (idletax_Valid_is H1.out _).mono ?_
  rintro e w1 ⟨rfl, hb1⟩
  obtain ⟨hc1, hf1⟩ := bcell hb1
  have hz1 := bsize hb1
  try simp only [sizes1] at hz1
  try simp only [sizes] at hc1 hf1
  have hB1 : w.heap.size < w1.heap.size := by omega
  have hC1 : w.heap.size + 1 < w1.heap.size := by omega
  go_wp2_with fail
  refine (idletax_Valid_is H2.out _).mono ?_
  rintro e w2 ⟨rfl, hb2⟩
  obtain ⟨hc2, hf2⟩ := bcell hb2
  have hz2 := bsize hb2
  try simp only [sizes1] at hz2
  try simp only [sizes] at hc2 hf2
  have hB2 : w.heap.size < w2.heap.size := by omega
  have hC2 : w.heap.size + 1 < w2.heap.size := by omega
  go_wp2_with fail
  refine (idletax_validTax_is H3.out _).mono ?_
  rintro e w3 ⟨rfl, hb3⟩
  obtain ⟨hc3, hf3⟩ := bcell hb3
  have hz3 := bsize hb3
  try simp only [sizes1] at hz3
  try simp only [sizes] at hc3 hf3
  have hB3 : w.heap.size < w3.heap.size := by omega
  have hC3 : w.heap.size + 1 < w3.heap.size := by omega
  go_wp2_with fail
  refine wp_region_quiet_below (by kernel_rfl) (by kernel_rfl) ?_
  repeat (go_big_quiet_step (first | fail | (go_at_call 84; exact quiet_ret (idletax_Cost_any _ _ _ _ _ _ _))))
  refine wpQuiet_nil ?_
  intro w4 hw4
  have hb4 := below_of_regrown hw4
  clear hw4
  obtain ⟨hc4, hf4⟩ := bcell hb4
  have hz4 := bsize hb4
  try simp only [sizes1] at hz4
  try simp only [sizes] at hc4 hf4
  go_wp2_with fail
  go_ret
  exact Ret.mk (by repeat (first | with_reducible exact Below.refl _ _ | with_reducible refine Below.drew ?_ | (with_reducible refine Below.alloc ?_ (by first | exact Nat.le_refl _ | omega | (simp only [sizes]; omega)) _) | (with_reducible refine Below.setCell ?_ (by first | exact Nat.le_refl _ | omega | (simp only [sizes]; omega)) _) | (refine Below.trans ?_ (Below.mono (by with_reducible assumption) (by first | exact Nat.le_refl _ | omega | (simp only [sizes]; omega))))))
theorem idletax_Poorer_no1 (r l s p a r' l' s' p' a' t : Int) (w : World) (h1 : validB ⟨r, l, s, p, a⟩ = false) : Calls Try.prog 74 #[.agg #[.int .i64 r, .int .i64 l, .int .i64 s, .int .i64 p, .int .i64 a], .agg #[.int .i64 r', .int .i64 l', .int .i64 s', .int .i64 p', .int .i64 a'], .int .i64 t] w (Ret w (.bool false)) := by
  have H1 := Lib.hid h1; clear h1
  go_enter Try.func74, Try.ntmps74
  go_wp2_with fail
  refine (idletax_Valid_is H1.out _).mono ?_
  rintro e w1 ⟨rfl, hb1⟩
  obtain ⟨hc1, hf1⟩ := bcell hb1
  have hz1 := bsize hb1
  try simp only [sizes1] at hz1
  try simp only [sizes] at hc1 hf1
  go_wp2_with fail
  go_ret
  exact Ret.mk (by repeat (first | with_reducible exact Below.refl _ _ | with_reducible refine Below.drew ?_ | (with_reducible refine Below.alloc ?_ (by first | exact Nat.le_refl _ | omega | (simp only [sizes]; omega)) _) | (with_reducible refine Below.setCell ?_ (by first | exact Nat.le_refl _ | omega | (simp only [sizes]; omega)) _) | (refine Below.trans ?_ (Below.mono (by with_reducible assumption) (by first | exact Nat.le_refl _ | omega | (simp only [sizes]; omega))))))
theorem idletax_Poorer_no2 (r l s p a r' l' s' p' a' t : Int) (w : World) (h1 : validB ⟨r, l, s, p, a⟩ = true) (h2 : validB ⟨r', l', s', p', a'⟩ = false) : Calls Try.prog 74 #[.agg #[.int .i64 r, .int .i64 l, .int .i64 s, .int .i64 p, .int .i64 a], .agg #[.int .i64 r', .int .i64 l', .int .i64 s', .int .i64 p', .int .i64 a'], .int .i64 t] w (Ret w (.bool false)) := by
  have H1 := Lib.hid h1; clear h1
  have H2 := Lib.hid h2; clear h2
  go_enter Try.func74, Try.ntmps74
  go_wp2_with fail
  refine (idletax_Valid_is H1.out _).mono ?_
  rintro e w1 ⟨rfl, hb1⟩
  obtain ⟨hc1, hf1⟩ := bcell hb1
  have hz1 := bsize hb1
  try simp only [sizes1] at hz1
  try simp only [sizes] at hc1 hf1
  have hB1 : w.heap.size < w1.heap.size := by omega
  have hC1 : w.heap.size + 1 < w1.heap.size := by omega
  go_wp2_with fail
  refine (idletax_Valid_is H2.out _).mono ?_
  rintro e w2 ⟨rfl, hb2⟩
  obtain ⟨hc2, hf2⟩ := bcell hb2
  have hz2 := bsize hb2
  try simp only [sizes1] at hz2
  try simp only [sizes] at hc2 hf2
  go_wp2_with fail
  go_ret
  exact Ret.mk (by repeat (first | with_reducible exact Below.refl _ _ | with_reducible refine Below.drew ?_ | (with_reducible refine Below.alloc ?_ (by first | exact Nat.le_refl _ | omega | (simp only [sizes]; omega)) _) | (with_reducible refine Below.setCell ?_ (by first | exact Nat.le_refl _ | omega | (simp only [sizes]; omega)) _) | (refine Below.trans ?_ (Below.mono (by with_reducible assumption) (by first | exact Nat.le_refl _ | omega | (simp only [sizes]; omega))))))
theorem idletax_Poorer_no3 (r l s p a r' l' s' p' a' t : Int) (w : World) (h1 : validB ⟨r, l, s, p, a⟩ = true) (h2 : validB ⟨r', l', s', p', a'⟩ = true) (h3 : taxB t = false) : Calls Try.prog 74 #[.agg #[.int .i64 r, .int .i64 l, .int .i64 s, .int .i64 p, .int .i64 a], .agg #[.int .i64 r', .int .i64 l', .int .i64 s', .int .i64 p', .int .i64 a'], .int .i64 t] w (Ret w (.bool false)) := by
  have H1 := Lib.hid h1; clear h1
  have H2 := Lib.hid h2; clear h2
  have H3 := Lib.hid h3; clear h3
  go_enter Try.func74, Try.ntmps74
  go_wp2_with fail
  refine (idletax_Valid_is H1.out _).mono ?_
  rintro e w1 ⟨rfl, hb1⟩
  obtain ⟨hc1, hf1⟩ := bcell hb1
  have hz1 := bsize hb1
  try simp only [sizes1] at hz1
  try simp only [sizes] at hc1 hf1
  have hB1 : w.heap.size < w1.heap.size := by omega
  have hC1 : w.heap.size + 1 < w1.heap.size := by omega
  go_wp2_with fail
  refine (idletax_Valid_is H2.out _).mono ?_
  rintro e w2 ⟨rfl, hb2⟩
  obtain ⟨hc2, hf2⟩ := bcell hb2
  have hz2 := bsize hb2
  try simp only [sizes1] at hz2
  try simp only [sizes] at hc2 hf2
  have hB2 : w.heap.size < w2.heap.size := by omega
  have hC2 : w.heap.size + 1 < w2.heap.size := by omega
  go_wp2_with fail
  refine (idletax_validTax_is H3.out _).mono ?_
  rintro e w3 ⟨rfl, hb3⟩
  obtain ⟨hc3, hf3⟩ := bcell hb3
  have hz3 := bsize hb3
  try simp only [sizes1] at hz3
  try simp only [sizes] at hc3 hf3
  go_wp2_with fail
  go_ret
  exact Ret.mk (by repeat (first | with_reducible exact Below.refl _ _ | with_reducible refine Below.drew ?_ | (with_reducible refine Below.alloc ?_ (by first | exact Nat.le_refl _ | omega | (simp only [sizes]; omega)) _) | (with_reducible refine Below.setCell ?_ (by first | exact Nat.le_refl _ | omega | (simp only [sizes]; omega)) _) | (refine Below.trans ?_ (Below.mono (by with_reducible assumption) (by first | exact Nat.le_refl _ | omega | (simp only [sizes]; omega))))))

theorem idletax_Poorer_any (r l s p a r' l' s' p' a' t : Int) (w : World) : Calls Try.prog 74 #[.agg #[.int .i64 r, .int .i64 l, .int .i64 s, .int .i64 p, .int .i64 a], .agg #[.int .i64 r', .int .i64 l', .int .i64 s', .int .i64 p', .int .i64 a'], .int .i64 t] w (Ret w (.bool (poorB ⟨r, l, s, p, a⟩ ⟨r', l', s', p', a'⟩ t))) := by
  cases h1 : validB ⟨r, l, s, p, a⟩
  · rw [poorB_no (by rw [h1]; rfl)]; exact idletax_Poorer_no1 _ _ _ _ _ _ _ _ _ _ _ w h1
  · cases h2 : validB ⟨r', l', s', p', a'⟩
    · rw [poorB_no (by rw [h2, Bool.and_false, Bool.false_and])]; exact idletax_Poorer_no2 _ _ _ _ _ _ _ _ _ _ _ w h1 h2
    · cases h3 : taxB t
      · rw [poorB_no (by rw [h3, Bool.and_false])]; exact idletax_Poorer_no3 _ _ _ _ _ _ _ _ _ _ _ w h1 h2 h3
      · rw [poorB_yes h1 h2 h3]; exact idletax_Poorer_yes _ _ _ _ _ _ _ _ _ _ _ w h1 h2 h3
end Go.Proofs.Ytbnngjhnkegliaa
