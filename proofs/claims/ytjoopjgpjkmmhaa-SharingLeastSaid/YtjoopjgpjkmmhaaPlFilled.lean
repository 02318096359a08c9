/-
  Pools that writes and shares reach: made by the laws' own function, walked.
-/
import Derived.Test.YtjoopjgpjkmmhaaPlCarry
import Derived.Test.YtjoopjgpjkmmhaaPlAwake
import Derived.Deep.RegionHeld3
import Derived.IntWalk
namespace Go.Proofs.Ytjoopjgpjkmmhaa
open Go.RowKit

theorem tdiv_in {x : Int} {k : Int} (hk : 1 ≤ k) (hx : -9223372036854775808 ≤ x ∧ x ≤ 9223372036854775807) : -9223372036854775808 ≤ x.tdiv k ∧ x.tdiv k ≤ 9223372036854775807 := by
  have h := Int.natAbs_tdiv_le_natAbs x k
  rcases Int.le_total 0 x with h0 | h0
  · have h1 := Int.tdiv_nonneg h0 (show 0 ≤ k by omega)
    omega
  · have h1 : x.tdiv k ≤ 0 := by
      have := Int.tdiv_nonneg (show 0 ≤ -x by omega) (show 0 ≤ k by omega)
      rw [Int.neg_tdiv] at this
      omega
    omega
/-- Two guests of four pages, n frames. -/
structure Shape (n : Nat) (P : Pl) : Prop where
  ok : P.Ok
  f : P.F.length = n
  at' : ∀ g p, P.at g p ↔ g < 2 ∧ p < 4
theorem Shape.alike {n : Nat} {P Q : Pl} (h : Shape n P) (hok : Q.Ok) (ha : P.Alike Q) : Shape n Q := ⟨hok, ha.f.trans h.f, fun g p => (ha.at g p).trans (h.at' g p)⟩
theorem Shape.sh {n : Nat} {P : Pl} (h : Shape n P) {g p : Nat} (hg : g < 2) (hp : p < 4) : Shape n (P.sh g p) := by
  have L := (Pl.sh_law h.ok ((h.at' g p).2 ⟨hg, hp⟩)).1
  exact h.alike L.ok L.al
theorem Pl.wr_eq {P : Pl} (H : P.Ok) {g p : Nat} {d : ByteArray} (h : P.at g p) (hd : d.size = 128) : P.wr g p d = P.wr' g p d ∧ P.wok g p d = P.wok' g p d := by
  have hg : P.goodW g p d = true := by unfold Pl.goodW; rw [Pl.at_has H h, decide_eq_true hd]; rfl
  unfold Pl.wr Pl.wok
  rw [hg, Int.toNat_natCast, Int.toNat_natCast]
  exact ⟨rfl, rfl⟩
theorem Shape.wr {n : Nat} {P : Pl} (h : Shape n P) {g p : Nat} {d : ByteArray} (hg : g < 2) (hp : p < 4) (hd : d.size = 128) : Shape n (P.wr g p d) := by
  have hat := (h.at' g p).2 ⟨hg, hp⟩
  rw [(Pl.wr_eq h.ok hat hd).1]
  obtain ⟨L1, L2⟩ := Pl.wr_law h.ok hat hd
  cases hw : P.wok' g p d
  · rw [L2 hw]
    exact h
  · have L := L1 hw
    exact h.alike L.ok L.al
def fill0 (n : Nat) : Pl := ((newPl n).add 4).add 4
theorem fresh_eq {n : Nat} (h1 : 1 ≤ n) (h2 : n ≤ 96) : newPl n = ⟨freshF n, freshR n, []⟩ := by
  unfold newPl
  rw [show newOk n = true from decide_eq_true ⟨by omega, by omega⟩, if_pos rfl, Int.toNat_natCast]
theorem cnt_neg (K v : Nat) : (List.replicate K (-1 : Int)).count (v : Int) = 0 := by
  rw [List.count_replicate, if_neg]
  intro h
  rw [beq_iff_eq] at h
  omega
theorem fresh_ok {n : Nat} (h1 : 1 ≤ n) (h2 : n ≤ 96) (M : List (List Int)) (hM : ∀ l ∈ M, l = List.replicate 4 (-1)) (hl : M.length ≤ 8) : (⟨freshF n, freshR n, M⟩ : Pl).Ok := by
  have hc : ∀ v : Nat, (⟨freshF n, freshR n, M⟩ : Pl).cnt v = 0 := fun v => by
    show M.flatten.count (v : Int) = 0
    rw [List.count_eq_zero]
    intro h
    rw [List.mem_flatten] at h
    obtain ⟨l, hl, hv⟩ := h
    rw [hM l hl] at hv
    have := List.eq_of_mem_replicate hv
    omega
  refine ⟨by simpa [freshF] using h1, by simpa [freshF] using h2, by simp [freshF, freshR], hl, fun l h => by rw [hM l h]; simp, fun l h f hf => ?_, fun f hf => ?_⟩
  · rw [hM l h] at hf
    have := List.eq_of_mem_replicate hf
    simp only [freshF, List.length_replicate]
    omega
  · simp only [freshF, List.length_replicate] at hf
    refine ⟨⟨#[]⟩, by show (List.replicate n _)[f]? = _; rw [List.getElem?_replicate, if_pos hf], ?_, ?_, .inl rfl⟩
    · show (List.replicate n (0 : Int))[f]? = _
      rw [List.getElem?_replicate, if_pos hf, hc]
      rfl
    · rw [hc]
      exact ⟨fun _ => rfl, fun _ => rfl⟩
theorem fill_eq {n : Nat} (h1 : 1 ≤ n) (h2 : n ≤ 96) : (newPl n).goodA 4 = true ∧ ((newPl n).add 4).goodA 4 = true ∧ fill0 n = ⟨freshF n, freshR n, [List.replicate 4 (-1), List.replicate 4 (-1)]⟩ ∧ (newPl n).Ok ∧ ((newPl n).add 4).Ok := by
  have H0 : (newPl n).Ok := by rw [fresh_eq h1 h2]; exact fresh_ok h1 h2 [] (fun l h => by simp at h) (by simp)
  have g0 : (newPl n).goodA 4 = true := by
    unfold Pl.goodA
    rw [Pl.ok_iff.2 H0, Bool.true_and, fresh_eq h1 h2]
    exact decide_eq_true ⟨by simp, by omega, by omega⟩
  have e1 : (newPl n).add 4 = ⟨freshF n, freshR n, [List.replicate 4 (-1)]⟩ := by
    unfold Pl.add
    rw [g0, if_pos rfl, fresh_eq h1 h2]
    rfl
  have H1 : ((newPl n).add 4).Ok := by rw [e1]; exact fresh_ok h1 h2 _ (fun l h => by simpa using h) (by simp)
  have g1 : ((newPl n).add 4).goodA 4 = true := by
    unfold Pl.goodA
    rw [Pl.ok_iff.2 H1, Bool.true_and, e1]
    exact decide_eq_true ⟨by simp, by omega, by omega⟩
  refine ⟨g0, g1, ?_, H0, H1⟩
  unfold fill0
  have e : ((newPl n).add 4).add 4 = ⟨((newPl n).add 4).F, ((newPl n).add 4).R, ((newPl n).add 4).M ++ [List.replicate (4 : Int).toNat (-1)]⟩ := by
    show (if ((newPl n).add 4).goodA 4 = true then _ else _) = _
    rw [if_pos g1]
  rw [e, e1]
  rfl
theorem fill_shape {n : Nat} (h1 : 1 ≤ n) (h2 : n ≤ 96) : Shape n (fill0 n) := by
  rw [(fill_eq h1 h2).2.2.1]
  refine ⟨fresh_ok h1 h2 _ (fun l h => by simpa using h) (by simp), by simp [freshF], fun g p => ?_⟩
  constructor
  · rintro ⟨l, f, hl, hp⟩
    have hg : g < 2 := by have := lt_of_get hl; simpa using this
    refine ⟨hg, ?_⟩
    have hl' : l = List.replicate 4 (-1) := by
      have := mem_at hl
      simpa using this
    have := lt_of_get hp
    rw [hl', List.length_replicate] at this
    exact this
  · rintro ⟨hg, hp⟩
    refine ⟨List.replicate 4 (-1), -1, ?_, by rw [List.getElem?_replicate, if_pos hp]⟩
    match g, hg with
    | 0, _ => rfl
    | 1, _ => rfl
/-- A pool of two guests of four pages is handed back. -/
def RetFilled (n : Nat) (w : World) (e : Ending) (w' : World) : Prop := ∃ P, Shape n P ∧ RetPool2 P true w e w'
theorem ret_filled {n : Nat} {P : Pl} {w w' : World} {of or' om : Option Addr} {n0 r0 m0 kf kr km : Nat} {us : List Value} (h : Shape n P) (hl : P.F.length = n0 ∧ P.R.length = r0 ∧ P.M.length = m0) (hO : OwnP 0 w' (.slice of n0 kf) (.slice or' r0 kr) (.slice om m0 km) us P) (hb : Below w.heap.size w w') : RetFilled n w (.returned (.tuple #[.agg #[.slice of n0 kf, .slice or' r0 kr, .slice om m0 km], .bool true])) w' := by
  obtain ⟨rfl, rfl, rfl⟩ := hl
  exact ⟨P, h, _, _, _, _, _, _, _, rfl, hO, hb⟩
set_option maxRecDepth 100000 in
set_option maxHeartbeats 8000000 in
theorem filled_any (n : Nat) (va : Value) (ls : List Int) (w : World) (h1 : 1 ≤ n) (h2 : n ≤ 96) (ha : NumRow w va ls) (hls : ∀ x ∈ ls, -9223372036854775808 ≤ x ∧ x ≤ 9223372036854775807) (hn40 : ls.length ≤ 1000) : Calls Try.prog 11 #[.int .i64 n, va] w (RetFilled n w) := by
  obtain ⟨ao, ca, rfl, a1, a2, _⟩ := ha.out
  unfold maxLen at a2
  obtain ⟨N, hN⟩ : ∃ N, ls.length = N := ⟨_, rfl⟩
  rw [hN] at a1 ha hn40 ⊢
  have HN := Lib.hid hN; clear hN
  have HA := Lib.hid ha; clear ha
  have HB := Lib.hid hls; clear hls
  obtain ⟨f1, f2, f3, f4, f5⟩ := fill_eq h1 h2
  have C1 : ∀ w, Calls Try.prog 20 #[.int .i64 n] w (RetPool2 (newPl n) true w) := fun w => by
    have h := pnew_any n w
    rwa [show newOk n = true from decide_eq_true ⟨by omega, by omega⟩] at h
  have C2 : ∀ v w, PlRow w v (newPl n) → Calls Try.prog 21 #[v, .int .i64 4] w (RetPool2 ((newPl n).add 4) true w) := fun v w h => by
    have h := padd_any v (newPl n) 4 w h f4.fit f4.small
    rwa [f1] at h
  have C3 : ∀ v w, PlRow w v ((newPl n).add 4) → Calls Try.prog 21 #[v, .int .i64 4] w (RetPool2 (fill0 n) true w) := fun v w h => by
    have h := padd_any v ((newPl n).add 4) 4 w h f5.fit f5.small
    rwa [f2] at h
  have hsh := fill_shape h1 h2
  obtain ⟨P0, hp0⟩ : ∃ P, newPl (n : Int) = P := ⟨_, rfl⟩
  rw [hp0] at C1 C2 C3
  obtain ⟨P1, hp1⟩ : ∃ P, P0.add 4 = P := ⟨_, rfl⟩
  rw [hp1] at C2 C3
  obtain ⟨P2, hp2⟩ : ∃ P, fill0 n = P := ⟨_, rfl⟩
  rw [hp2] at C3 hsh
  clear f1 f2 f3 f4 f5 hp0 hp1 hp2 h1 h2
  have HC1 := Lib.hid C1; clear C1
  have HC2 := Lib.hid C2; clear C2
  have HC3 := Lib.hid C3; clear C3
  have HSH := Lib.hid hsh; clear hsh
  have hbw : Below w.heap.size w (w.alloc (.cells #[.slice none 0 0, .slice none 0 0, .slice none 0 0] 26)) := (Below.refl _ _).alloc (Nat.le_refl _) _
  have D9 := HasBlock.made w #[.slice none 0 0, .slice none 0 0, .slice none 0 0] 26
  go_enter Try.func11, Try.ntmps11
  go_wp2_with fail
  with_reducible refine (HC1.out _).mono ?_
  rintro e w1 ⟨of0, or0, om0, kf0, kr0, km0, us0, rfl, O0, hbk⟩
  replace D9 := D9.below hbk
  replace hbw := hbw.trans (hbk.mono hbw.size)
  clear hbk
  obtain ⟨n0, hgn⟩ : ∃ n, (Pl.F P0).length = n := ⟨_, rfl⟩
  obtain ⟨r0, hgr⟩ : ∃ n, (Pl.R P0).length = n := ⟨_, rfl⟩
  obtain ⟨m0, hgm⟩ : ∃ n, (Pl.M P0).length = n := ⟨_, rfl⟩
  rw [hgn, hgr, hgm] at O0 ⊢
  clear hgn hgr hgm
  obtain ⟨D9_c, D9_f, D9_z⟩ := D9.all
  go_wp2_with fail
  clear D9_c D9_f D9_z
  have hw0 := hbw.size
  have lD9x0 := D9.lt
  have hbx : Below w1.heap.size w1 (w1.alloc (.cells #[.slice of0 n0 kf0, .slice or0 r0 kr0, .slice om0 m0 km0] 26)) := (Below.refl _ _).alloc (Nat.le_refl _) _
  replace D9 := D9.below hbx
  replace O0 := O0.below hbx
  have D0 := HasBlock.made w1 #[.slice of0 n0 kf0, .slice or0 r0 kr0, .slice om0 m0 km0] 26
  replace hbw := hbw.trans (hbx.mono hbw.size)
  clear hbx
  obtain ⟨B0, hB⟩ : ∃ B, w1.heap.size = B := ⟨_, rfl⟩
  rw [hB] at D0 hw0 ⊢
  rw [hB] at lD9x0
  generalize hW : w1.alloc (.cells #[.slice of0 n0 kf0, .slice or0 r0 kr0, .slice om0 m0 km0] 26) = w2 at D9 D0 O0 hbw ⊢
  clear hW hB
  have l9 : w.heap.size < B0 := lD9x0
  with_reducible refine (HC2.out _ _ O0.row).mono ?_
  rintro e w3 ⟨of1, or1, om1, kf1, kr1, km1, us1, rfl, O1, hbk⟩
  replace D9 := D9.below hbk
  replace D0 := D0.below hbk
  replace hbw := hbw.trans (hbk.mono hbw.size)
  clear hbk
  clear O0
  obtain ⟨n1, hgn⟩ : ∃ n, (Pl.F P1).length = n := ⟨_, rfl⟩
  obtain ⟨r1, hgr⟩ : ∃ n, (Pl.R P1).length = n := ⟨_, rfl⟩
  obtain ⟨m1, hgm⟩ : ∃ n, (Pl.M P1).length = n := ⟨_, rfl⟩
  rw [hgn, hgr, hgm] at O1 ⊢
  clear hgn hgr hgm
  obtain ⟨D9_c, D9_f, D9_z⟩ := D9.all
  obtain ⟨D0_c, D0_f, D0_z⟩ := D0.all
  go_wp2_with fail
  clear D9_c D9_f D9_z
  clear D0_c D0_f D0_z
  replace O1 := O1.fill D0 (by decide) (by decide) (by decide) (.slice of1 n1 kf1) (.slice or1 r1 kr1) (.slice om1 m1 km1)
  replace D9 := D9.fill_ne (b' := B0) (by omega) (.slice of1 n1 kf1) (.slice or1 r1 kr1) (.slice om1 m1 km1)
  replace D0 := D0.fill (.slice of1 n1 kf1) (.slice or1 r1 kr1) (.slice om1 m1 km1)
  replace hbw := ((hbw.setCell (p := ⟨B0, 0, none⟩) (by dsimp only; omega) (.slice of1 n1 kf1)).setCell (p := ⟨B0, 1, none⟩) (by dsimp only; omega) (.slice or1 r1 kr1)).setCell (p := ⟨B0, 2, none⟩) (by dsimp only; omega) (.slice om1 m1 km1)
  generalize hW : ((World.setCell w3 ⟨B0, 0, none⟩ (.slice of1 n1 kf1)).setCell ⟨B0, 1, none⟩ (.slice or1 r1 kr1)).setCell ⟨B0, 2, none⟩ (.slice om1 m1 km1) = w4 at D9 D0 O1 hbw ⊢
  clear hW
  with_reducible refine (HC3.out _ _ O1.row).mono ?_
  rintro e w5 ⟨of2, or2, om2, kf2, kr2, km2, us2, rfl, O2, hbk⟩
  replace D9 := D9.below hbk
  replace D0 := D0.below hbk
  replace hbw := hbw.trans (hbk.mono hbw.size)
  clear hbk
  clear O1
  obtain ⟨n2, hgn⟩ : ∃ n, (Pl.F P2).length = n := ⟨_, rfl⟩
  obtain ⟨r2, hgr⟩ : ∃ n, (Pl.R P2).length = n := ⟨_, rfl⟩
  obtain ⟨m2, hgm⟩ : ∃ n, (Pl.M P2).length = n := ⟨_, rfl⟩
  rw [hgn, hgr, hgm] at O2 ⊢
  have HG2 := Lib.hid (And.intro hgn (And.intro hgr hgm))
  clear hgn hgr hgm
  obtain ⟨D9_c, D9_f, D9_z⟩ := D9.all
  obtain ⟨D0_c, D0_f, D0_z⟩ := D0.all
  go_wp2_with fail
  clear D9_c D9_f D9_z
  clear D0_c D0_f D0_z
  replace O2 := O2.fill D0 (by decide) (by decide) (by decide) (.slice of2 n2 kf2) (.slice or2 r2 kr2) (.slice om2 m2 km2)
  replace D9 := D9.fill_ne (b' := B0) (by omega) (.slice of2 n2 kf2) (.slice or2 r2 kr2) (.slice om2 m2 km2)
  replace D0 := D0.fill (.slice of2 n2 kf2) (.slice or2 r2 kr2) (.slice om2 m2 km2)
  replace hbw := ((hbw.setCell (p := ⟨B0, 0, none⟩) (by dsimp only; omega) (.slice of2 n2 kf2)).setCell (p := ⟨B0, 1, none⟩) (by dsimp only; omega) (.slice or2 r2 kr2)).setCell (p := ⟨B0, 2, none⟩) (by dsimp only; omega) (.slice om2 m2 km2)
  generalize hW : ((World.setCell w5 ⟨B0, 0, none⟩ (.slice of2 n2 kf2)).setCell ⟨B0, 1, none⟩ (.slice or2 r2 kr2)).setCell ⟨B0, 2, none⟩ (.slice om2 m2 km2) = w6 at D9 D0 O2 hbw ⊢
  clear hW
  go_loopw [10] (fun iv wr => ∃ (i : Nat) (P : Pl) (of or' om : Option Addr) (n0 r0 m0 kf kr km : Nat) (us : List Value), i ≤ N ∧ iv = .int .i64 i ∧ Hid (Shape n P) ∧ Hid (P.F.length = n0 ∧ P.R.length = r0 ∧ P.M.length = m0) ∧ HasBlock wr w.heap.size #[.slice none 0 0, .slice none 0 0, .slice none 0 0] 26 ∧ HasBlock wr B0 #[.slice of n0 kf, .slice or' r0 kr, .slice om m0 km] 26 ∧ OwnP 0 wr (.slice of n0 kf) (.slice or' r0 kr) (.slice om m0 km) us P ∧ Below w.heap.size w wr) (fun iv _ => N - (intOf iv).toNat)
  case atStart => exact ⟨0, P2, _, _, _, _, _, _, _, _, _, _, Nat.zero_le _, rfl, HSH.out, HG2.out, D9, D0, O2, hbw⟩
  case round =>
    clear D9 D0 O2 hbw HG2 HSH
    obtain ⟨i, P, of3, or3, om3, n3, r3, m3, kf3, kr3, km3, us3, hi, rfl, HSP, HGP, D9, D0, O3, hbw⟩ := hrel
    by_cases hlt : i < N
    · obtain ⟨x, hx⟩ := get_lt (xs := ls) (k := i) (by rw [HN.out]; exact hlt)
      have hxb := HB.out x (mem_at hx)
      obtain ⟨b, off, rfl, hbs, hcx⟩ := HA.out.elem hx
      clear hx
      have hx2 := tdiv_in (k := 2) (by omega) hxb
      have hx8 := tdiv_in (k := 8) (by omega) hxb
      have hx32 := tdiv_in (k := 32) (by omega) hxb
      have R1 := fun w => round_any x 2 w hxb (by omega) (by omega)
      have R2 := fun w => round_any (x.tdiv 2) 4 w hx2 (by omega) (by omega)
      have R3 := fun w => round_any (x.tdiv 8) 4 w hx8 (by omega) (by omega)
      have PG := fun w => page_any (x.tdiv 32) w hx32
      obtain ⟨a, ha⟩ : ∃ v : Nat, x % 2 = v := ⟨(x % 2).toNat, by omega⟩
      obtain ⟨c, hc⟩ : ∃ v : Nat, x.tdiv 2 % 4 = v := ⟨(x.tdiv 2 % 4).toNat, by omega⟩
      obtain ⟨s, hs⟩ : ∃ v : Nat, x.tdiv 8 % 4 = v := ⟨(x.tdiv 8 % 4).toNat, by omega⟩
      have ha2 : a < 2 := by omega
      have hc4 : c < 4 := by omega
      rw [ha] at R1
      rw [hc] at R2
      rw [hs] at R3
      have hds := pageS_size (x.tdiv 32)
      obtain ⟨d, hd⟩ : ∃ d, pageS (x.tdiv 32) = d := ⟨_, rfl⟩
      rw [hd] at PG hds
      have HR1 := Lib.hid R1; clear R1
      have HR2 := Lib.hid R2; clear R2
      have HR3 := Lib.hid R3; clear R3
      have HPG := Lib.hid PG; clear PG
      have HDS := Lib.hid hds; clear hds
      have hw32 : IntKind.i64.wrap (x.tdiv 32) = x.tdiv 32 := IntWalk.i64_in _ hx32
      have HW32 := Lib.hid hw32; clear hw32
      clear ha hc hs hd hx2 hx8 hx32
      have cx := (hbw.cell (p := ⟨b, off + i, none⟩) hbs).trans hcx
      have hbs2 : b < wr.heap.size := by have := hbw.size; omega
      have i0 : (0 : Int) ≤ (i : Int) := by omega
      have iN : (i : Int) < (N : Int) := by omega
      obtain ⟨D9_c, D9_f, D9_z⟩ := D9.all
      obtain ⟨D0_c, D0_f, D0_z⟩ := D0.all
      go_wp2_with fail
      refine wp_region_quiet_below (by kernel_rfl) (by kernel_rfl) ?_
      repeat (go_big_quiet_step (first | fail | (go_at_call 13; first | with_reducible exact quiet_ret (HR1.out _) | with_reducible exact quiet_ret (HR2.out _))))
      refine wpQuiet_nil ?_
      intro w7 hw7
      have hb7 := below_of_regrown hw7
      clear hw7
      obtain ⟨hc7, hf7⟩ := bcell hb7
      have hz7 := bsize hb7
      try simp only [sizes1] at hz7
      try simp only [sizes] at hc7 hf7
      clear hc7 hf7 hz7 cx hbs2
      clear D9_c D9_f D9_z
      clear D0_c D0_f D0_z
      replace D9 := D9.below hb7
      replace D0 := D0.below hb7
      replace O3 := O3.below hb7
      replace hbw := hbw.trans (hb7.mono hbw.size)
      clear hb7
      have cx := (hbw.cell (p := ⟨b, off + i, none⟩) hbs).trans hcx
      obtain ⟨D9_c, D9_f, D9_z⟩ := D9.all
      obtain ⟨D0_c, D0_f, D0_z⟩ := D0.all
      go_wp2_with fail
      clear D9_c D9_f D9_z
      clear D0_c D0_f D0_z
      clear cx
      with_reducible refine (HR3.out _).mono ?_
      rintro e w8 ⟨rfl, hbk⟩
      replace D9 := D9.below hbk
      replace D0 := D0.below hbk
      replace O3 := O3.below hbk
      replace hbw := hbw.trans (hbk.mono hbw.size)
      clear hbk
      have SHc := fun v w h => pshare_any v P a c w h HSP.out.ok.fit HSP.out.ok.small
      have WRc := fun v w h => pwrite_any v P a c d w h HSP.out.ok.fit HSP.out.ok.small
      have hsh1 := HSP.out.sh ha2 hc4
      have hsh2 := HSP.out.wr ha2 hc4 HDS.out
      obtain ⟨Q1, hq1⟩ : ∃ Q, P.sh a c = Q := ⟨_, rfl⟩
      obtain ⟨Q2, hq2⟩ : ∃ Q, P.wr a c d = Q := ⟨_, rfl⟩
      obtain ⟨t1, ht1⟩ : ∃ t, P.sok a c = t := ⟨_, rfl⟩
      obtain ⟨t2, ht2⟩ : ∃ t, P.wok a c d = t := ⟨_, rfl⟩
      rw [hq1] at SHc hsh1
      rw [hq2] at WRc hsh2
      rw [ht1] at SHc
      rw [ht2] at WRc
      clear hq1 hq2 ht1 ht2
      have HSHc := Lib.hid SHc; clear SHc
      have HWRc := Lib.hid WRc; clear WRc
      have HQ1 := Lib.hid hsh1; clear hsh1
      have HQ2 := Lib.hid hsh2; clear hsh2
      by_cases hs0 : s = 0
      · have e1 : (s == 0) = true := by rw [beq_iff_eq]; exact hs0
        have e2 : ((s : Int) == 0) = true := by rw [beq_iff_eq]; omega
        clear hs0
        obtain ⟨D9_c, D9_f, D9_z⟩ := D9.all
        obtain ⟨D0_c, D0_f, D0_z⟩ := D0.all
        go_wp2_with fail
        clear D9_c D9_f D9_z
        clear D0_c D0_f D0_z
        with_reducible refine (HSHc.out _ _ O3.row).mono ?_
        rintro e w9 ⟨of4, or4, om4, kf4, kr4, km4, us4, rfl, O4, hbk⟩
        replace D9 := D9.below hbk
        replace D0 := D0.below hbk
        replace hbw := hbw.trans (hbk.mono hbw.size)
        clear hbk
        clear O3 e1 e2
        obtain ⟨n4, hgn⟩ : ∃ n, (Pl.F Q1).length = n := ⟨_, rfl⟩
        obtain ⟨r4, hgr⟩ : ∃ n, (Pl.R Q1).length = n := ⟨_, rfl⟩
        obtain ⟨m4, hgm⟩ : ∃ n, (Pl.M Q1).length = n := ⟨_, rfl⟩
        rw [hgn, hgr, hgm] at O4 ⊢
        have HG4 := Lib.hid (And.intro hgn (And.intro hgr hgm))
        clear hgn hgr hgm
        obtain ⟨D9_c, D9_f, D9_z⟩ := D9.all
        obtain ⟨D0_c, D0_f, D0_z⟩ := D0.all
        go_wp2_with fail
        clear D9_c D9_f D9_z
        clear D0_c D0_f D0_z
        go_roundw
        case rel => exact ⟨i + 1, Q1, _, _, _, _, _, _, _, _, _, _, by omega, by go_num, HQ1.out, HG4.out, D9.fill_ne (by omega) _ _ _, D0.fill _ _ _, O4.fill D0 (by decide) (by decide) (by decide) _ _ _, ((hbw.setCell (by dsimp only; omega) _).setCell (by dsimp only; omega) _).setCell (by dsimp only; omega) _⟩
        case measure => simp [intOf]; omega
      · have e1 : (s == 0) = false := by rw [beq_eq_false_iff_ne]; exact hs0
        have e2 : ((s : Int) == 0) = false := by rw [beq_eq_false_iff_ne]; omega
        clear hs0
        have cx := (hbw.cell (p := ⟨b, off + i, none⟩) hbs).trans hcx
        have hbs2 : b < w8.heap.size := by have := hbw.size; omega
        obtain ⟨D9_c, D9_f, D9_z⟩ := D9.all
        obtain ⟨D0_c, D0_f, D0_z⟩ := D0.all
        go_wp2_with fail
        have hw32 := HW32.out
        go_region_law (first
          | (go_simp; go_at_call 12
             with_reducible refine (HPG.out _).mono ?_
             rintro _ w15 ⟨rfl, hb15⟩
             have HB15 : Below w8.heap.size w8 w15 := (Below.drew (Below.refl _ w8)).trans hb15
             obtain ⟨hc15, hf15⟩ := bcell HB15
             have hzz15 := HB15.size)
          | (go_simp; go_at_call 15
             with_reducible refine (HWRc.out _ _ (O3.row.below HB15)).mono ?_
             rintro _ w16 ⟨of4, or4, om4, kf4, kr4, km4, us4, rfl, O4, hb16⟩
             obtain ⟨n4, hgn⟩ : ∃ n, (Pl.F Q2).length = n := ⟨_, rfl⟩
             obtain ⟨r4, hgr⟩ : ∃ n, (Pl.R Q2).length = n := ⟨_, rfl⟩
             obtain ⟨m4, hgm⟩ : ∃ n, (Pl.M Q2).length = n := ⟨_, rfl⟩
             rw [hgn, hgr, hgm] at O4 ⊢
             have HG4 := Lib.hid (And.intro hgn (And.intro hgr hgm))
             clear hgn hgr hgm
             have HB16 : Below w8.heap.size w8 w16 := HB15.trans (hb16.mono hzz15)
             have E9 := D9.below HB16
             have E0 := D0.below HB16
             have hbw16 : Below w.heap.size w w16 := hbw.trans (HB16.mono hbw.size)
             obtain ⟨E0_c, E0_f, E0_z⟩ := E0.all))
        all_goals
          clear hw32
          go_wp2_with fail
          go_roundw
          case rel => exact ⟨i + 1, Q2, _, _, _, _, _, _, _, _, _, _, by omega, by go_num, HQ2.out, HG4.out, E9.fill_ne (by omega) _ _ _, E0.fill _ _ _, O4.fill E0 (by decide) (by decide) (by decide) _ _ _, ((hbw16.setCell (by dsimp only; omega) _).setCell (by dsimp only; omega) _).setCell (by dsimp only; omega) _⟩
          case measure => simp [intOf]; omega
    · obtain rfl : i = N := by omega
      obtain ⟨D9_c, D9_f, D9_z⟩ := D9.all
      obtain ⟨D0_c, D0_f, D0_z⟩ := D0.all
      go_wp2_with fail
      refine bodyPost_ret (v := .tuple #[.agg #[.slice of3 n3 kf3, .slice or3 r3 kr3, .slice om3 m3 km3], .bool true]) (by simp [results, Try.results11, go_sem, D9_c]) rfl ?_
      exact ret_filled HSP.out HGP.out (O3.fill D9 (by decide) (by decide) (by decide) _ _ _) (((hbw.setCell (by dsimp only; omega) _).setCell (by dsimp only; omega) _).setCell (by dsimp only; omega) _)
end Go.Proofs.Ytjoopjgpjkmmhaa
