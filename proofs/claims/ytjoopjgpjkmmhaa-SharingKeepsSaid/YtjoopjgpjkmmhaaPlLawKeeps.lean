/-
  The law on what is kept while pages are shared and written, walked.
-/
import Derived.Test.YtjoopjgpjkmmhaaPlSaves
namespace Go.Proofs.Ytjoopjgpjkmmhaa
open Go.RowKit

theorem keepsP_out (ao : Option Addr) (N ca : Nat) (w : World) (h : 60 < N) (hN : N ≤ 9223372036854775807) : Calls Try.prog 5 #[.slice ao N ca] w (Ret w (.bool true)) := by
  go_enter Try.func5, Try.ntmps5
  go_wp2_with fail
  with_reducible refine (awake_any _).mono ?_
  rintro e w1 ⟨rfl, hb1⟩
  go_wp2_with fail
  go_ret
  exact Ret.mk hb1
theorem fill0_fr {n : Nat} (h1 : 1 ≤ n) (h2 : n ≤ 96) (g p : Nat) : (fill0 n).fr g p = -1 := by
  rw [(fill_eq h1 h2).2.2.1]
  unfold Pl.fr Pl.pages
  have h : ∀ l : List Int, (∀ f ∈ l, f = -1) → (l[p]?).getD (-1) = -1 := fun l hl => by
    cases hp : l[p]? with
    | none => rfl
    | some f => exact hl f (mem_at hp)
  apply h
  intro f hf
  match g, hf with
  | 0, hf => exact List.eq_of_mem_replicate hf
  | 1, hf => exact List.eq_of_mem_replicate hf
  | g + 2, hf => simp at hf
theorem fill0_text {n : Nat} (h1 : 1 ≤ n) (h2 : n ≤ 96) (g p : Nat) : (fill0 n).text g p = zeros128 := by
  unfold Pl.text
  rw [fill0_fr h1 h2, if_pos (by decide)]
set_option maxRecDepth 100000 in
set_option maxHeartbeats 4000000 in
theorem filled_nil (w : World) : Calls Try.prog 11 #[.int .i64 8, .slice none 0 0] w (RetPool2 (fill0 8) true w) := by
  obtain ⟨f1, f2, f3, f4, f5⟩ := fill_eq (n := 8) (by omega) (by omega)
  have C1 : ∀ w, Calls Try.prog 20 #[.int .i64 8] w (RetPool2 (newPl 8) true w) := fun w => by
    have h := pnew_any 8 w
    rwa [show newOk 8 = true from decide_eq_true ⟨by omega, by omega⟩] at h
  have C2 : ∀ v w, PlRow w v (newPl 8) → Calls Try.prog 21 #[v, .int .i64 4] w (RetPool2 ((newPl 8).add 4) true w) := fun v w h => by
    have h := padd_any v (newPl 8) 4 w h f4.fit f4.small
    rwa [show (newPl 8).goodA 4 = true from f1] at h
  have C3 : ∀ v w, PlRow w v ((newPl 8).add 4) → Calls Try.prog 21 #[v, .int .i64 4] w (RetPool2 (fill0 8) true w) := fun v w h => by
    have h := padd_any v ((newPl 8).add 4) 4 w h f5.fit f5.small
    rwa [show ((newPl 8).add 4).goodA 4 = true from f2] at h
  obtain ⟨P0, hp0⟩ : ∃ P, newPl (8 : Int) = P := ⟨_, rfl⟩
  rw [hp0] at C1 C2 C3
  obtain ⟨P1, hp1⟩ : ∃ P, P0.add 4 = P := ⟨_, rfl⟩
  rw [hp1] at C2 C3
  obtain ⟨P2, hp2⟩ : ∃ P, fill0 8 = P := ⟨_, rfl⟩
  rw [hp2] at C3 ⊢
  clear f1 f2 f3 f4 f5 hp0 hp1 hp2
  have HC1 := Lib.hid C1; clear C1
  have HC2 := Lib.hid C2; clear C2
  have HC3 := Lib.hid C3; clear C3
  have hbw : Below w.heap.size w (w.alloc (.cells #[.slice none 0 0, .slice none 0 0, .slice none 0 0] 26)) := (Below.refl _ _).alloc (Nat.le_refl _) _
  have D9 := HasBlock.made w #[.slice none 0 0, .slice none 0 0, .slice none 0 0] 26
  go_enter Try.func11, Try.ntmps11
  go_wp2_with fail
  with_reducible refine (HC1.out _).mono ?_
  rintro e w1 ⟨of0, or0, om0, kf0, kr0, km0, us0, rfl, O0, hbk⟩
  replace D9 := D9.below hbk
  replace hbw := hbw.trans (hbk.mono hbw.size)
  clear hbk
  obtain ⟨n0, hgn⟩ : ∃ n, (Pl.F P0).length = n := ⟨_, rfl⟩
  obtain ⟨r0, hgr⟩ : ∃ n, (Pl.R P0).length = n := ⟨_, rfl⟩
  obtain ⟨m0, hgm⟩ : ∃ n, (Pl.M P0).length = n := ⟨_, rfl⟩
  rw [hgn, hgr, hgm] at O0 ⊢
  clear hgn hgr hgm
  obtain ⟨D9_c, D9_f, D9_z⟩ := D9.all
  go_wp2_with fail
  clear D9_c D9_f D9_z
  have hw0 := hbw.size
  have lD9x0 := D9.lt
  have hbx : Below w1.heap.size w1 (w1.alloc (.cells #[.slice of0 n0 kf0, .slice or0 r0 kr0, .slice om0 m0 km0] 26)) := (Below.refl _ _).alloc (Nat.le_refl _) _
  replace D9 := D9.below hbx
  replace O0 := O0.below hbx
  have D0 := HasBlock.made w1 #[.slice of0 n0 kf0, .slice or0 r0 kr0, .slice om0 m0 km0] 26
  replace hbw := hbw.trans (hbx.mono hbw.size)
  clear hbx
  obtain ⟨B0, hB⟩ : ∃ B, w1.heap.size = B := ⟨_, rfl⟩
  rw [hB] at D0 hw0 ⊢
  rw [hB] at lD9x0
  generalize hW : w1.alloc (.cells #[.slice of0 n0 kf0, .slice or0 r0 kr0, .slice om0 m0 km0] 26) = w2 at D9 D0 O0 hbw ⊢
  clear hW hB
  have l9 : w.heap.size < B0 := lD9x0
  with_reducible refine (HC2.out _ _ O0.row).mono ?_
  rintro e w3 ⟨of1, or1, om1, kf1, kr1, km1, us1, rfl, O1, hbk⟩
  replace D9 := D9.below hbk
  replace D0 := D0.below hbk
  replace hbw := hbw.trans (hbk.mono hbw.size)
  clear hbk
  clear O0
  obtain ⟨n1, hgn⟩ : ∃ n, (Pl.F P1).length = n := ⟨_, rfl⟩
  obtain ⟨r1, hgr⟩ : ∃ n, (Pl.R P1).length = n := ⟨_, rfl⟩
  obtain ⟨m1, hgm⟩ : ∃ n, (Pl.M P1).length = n := ⟨_, rfl⟩
  rw [hgn, hgr, hgm] at O1 ⊢
  clear hgn hgr hgm
  obtain ⟨D9_c, D9_f, D9_z⟩ := D9.all
  obtain ⟨D0_c, D0_f, D0_z⟩ := D0.all
  go_wp2_with fail
  clear D9_c D9_f D9_z
  clear D0_c D0_f D0_z
  replace O1 := O1.fill D0 (by decide) (by decide) (by decide) (.slice of1 n1 kf1) (.slice or1 r1 kr1) (.slice om1 m1 km1)
  replace D9 := D9.fill_ne (b' := B0) (by omega) (.slice of1 n1 kf1) (.slice or1 r1 kr1) (.slice om1 m1 km1)
  replace D0 := D0.fill (.slice of1 n1 kf1) (.slice or1 r1 kr1) (.slice om1 m1 km1)
  replace hbw := ((hbw.setCell (p := ⟨B0, 0, none⟩) (by dsimp only; omega) (.slice of1 n1 kf1)).setCell (p := ⟨B0, 1, none⟩) (by dsimp only; omega) (.slice or1 r1 kr1)).setCell (p := ⟨B0, 2, none⟩) (by dsimp only; omega) (.slice om1 m1 km1)
  generalize hW : ((World.setCell w3 ⟨B0, 0, none⟩ (.slice of1 n1 kf1)).setCell ⟨B0, 1, none⟩ (.slice or1 r1 kr1)).setCell ⟨B0, 2, none⟩ (.slice om1 m1 km1) = w4 at D9 D0 O1 hbw ⊢
  clear hW
  with_reducible refine (HC3.out _ _ O1.row).mono ?_
  rintro e w5 ⟨of2, or2, om2, kf2, kr2, km2, us2, rfl, O2, hbk⟩
  replace D9 := D9.below hbk
  replace D0 := D0.below hbk
  replace hbw := hbw.trans (hbk.mono hbw.size)
  clear hbk
  clear O1
  obtain ⟨n2, hgn⟩ : ∃ n, (Pl.F P2).length = n := ⟨_, rfl⟩
  obtain ⟨r2, hgr⟩ : ∃ n, (Pl.R P2).length = n := ⟨_, rfl⟩
  obtain ⟨m2, hgm⟩ : ∃ n, (Pl.M P2).length = n := ⟨_, rfl⟩
  rw [hgn, hgr, hgm] at O2 ⊢
  have HG2 := Lib.hid (And.intro hgn (And.intro hgr hgm))
  clear hgn hgr hgm
  obtain ⟨D9_c, D9_f, D9_z⟩ := D9.all
  obtain ⟨D0_c, D0_f, D0_z⟩ := D0.all
  go_wp2_with fail
  clear D9_c D9_f D9_z
  clear D0_c D0_f D0_z
  replace O2 := O2.fill D0 (by decide) (by decide) (by decide) (.slice of2 n2 kf2) (.slice or2 r2 kr2) (.slice om2 m2 km2)
  replace D9 := D9.fill_ne (b' := B0) (by omega) (.slice of2 n2 kf2) (.slice or2 r2 kr2) (.slice om2 m2 km2)
  replace D0 := D0.fill (.slice of2 n2 kf2) (.slice or2 r2 kr2) (.slice om2 m2 km2)
  replace hbw := ((hbw.setCell (p := ⟨B0, 0, none⟩) (by dsimp only; omega) (.slice of2 n2 kf2)).setCell (p := ⟨B0, 1, none⟩) (by dsimp only; omega) (.slice or2 r2 kr2)).setCell (p := ⟨B0, 2, none⟩) (by dsimp only; omega) (.slice om2 m2 km2)
  generalize hW : ((World.setCell w5 ⟨B0, 0, none⟩ (.slice of2 n2 kf2)).setCell ⟨B0, 1, none⟩ (.slice or2 r2 kr2)).setCell ⟨B0, 2, none⟩ (.slice om2 m2 km2) = w6 at D9 D0 O2 hbw ⊢
  clear hW
  go_loopw [10] (fun iv wr => iv = .int .i64 0 ∧ HasBlock wr w.heap.size #[.slice none 0 0, .slice none 0 0, .slice none 0 0] 26 ∧ HasBlock wr B0 #[.slice of2 n2 kf2, .slice or2 r2 kr2, .slice om2 m2 km2] 26 ∧ OwnP 0 wr (.slice of2 n2 kf2) (.slice or2 r2 kr2) (.slice om2 m2 km2) us2 P2 ∧ Below w.heap.size w wr) (fun _ _ => 0)
  case atStart => exact ⟨rfl, D9, D0, O2, hbw⟩
  case round =>
    clear D9 D0 O2 hbw
    obtain ⟨rfl, D9, D0, O2, hbw⟩ := hrel
    obtain ⟨D9_c, D9_f, D9_z⟩ := D9.all
    obtain ⟨D0_c, D0_f, D0_z⟩ := D0.all
    go_wp2_with fail
    refine bodyPost_ret (v := .tuple #[.agg #[.slice of2 n2 kf2, .slice or2 r2 kr2, .slice om2 m2 km2], .bool true]) (by simp [results, Try.results11, go_sem, D9_c]) rfl ?_
    exact ret_pool2' HG2.out.1 HG2.out.2.1 HG2.out.2.2 rfl (O2.fill D9 (by decide) (by decide) (by decide) _ _ _) (((hbw.setCell (by dsimp only; omega) _).setCell (by dsimp only; omega) _).setCell (by dsimp only; omega) _)
/-- A box that has just been made for a pool, and what is kept beside it. -/
def NewAt2 (K : World → Prop) (P : Pl) (v v2 : Value) (wx : World) : Prop := ∃ (B : Nat) (of or' om : Option Addr) (n r m kf kr km : Nat) (us : List Value), v = .pointer (some ⟨B, 0, none⟩) ∧ v2 = .bool true ∧ HasBlock wx B #[.slice of n kf, .slice or' r kr, .slice om m km] 26 ∧ OwnP 0 wx (.slice of n kf) (.slice or' r kr) (.slice om m km) us P ∧ K wx
/-- The contents that are wanted, as they stand in their box. -/
def wantA (W : List ByteArray) : Array Value := (W.map Value.string).toArray
theorem wantA_get (W : List ByteArray) (j : Nat) : (wantA W)[j]? = (W[j]?).map Value.string := by simp [wantA]
theorem wantA_set (W : List ByteArray) (j : Nat) (s : ByteArray) : (wantA W).setIfInBounds j (.string s) = wantA (W.set j s) := by
  unfold wantA
  apply Array.toList_inj.1
  rw [Array.toList_setIfInBounds, List.map_set]
theorem HasBlock.put_want {w : World} {b : Nat} {T : TypeId} {W : List ByteArray} (h : HasBlock w b (wantA W) T) (j : Nat) (s : ByteArray) : HasBlock (w.setCell ⟨b, j, none⟩ (.string s)) b (wantA (W.set j s)) T := by
  have := h.set_at j (.string s)
  rwa [wantA_set] at this
/-- The pages read as wanted. -/
structure Wants (P : Pl) (W : List ByteArray) : Prop where
  len : W.length = 8
  txt : ∀ a b : Nat, a < 2 → b < 4 → W[a * 4 + b]? = some (P.text a b)
theorem Wants.wr {P : Pl} {W : List ByteArray} (h : Wants P W) (hs : Shape 8 P) {g p : Nat} {d : ByteArray} (hg : g < 2) (hp : p < 4) (hd : d.size = 128) : Wants (P.wr g p d) (W.set (g * 4 + p) d) := by
  have hat := (hs.at' g p).2 ⟨hg, hp⟩
  have hw := hs.wok hg hp hd
  obtain ⟨e1, e2⟩ := Pl.wr_eq hs.ok hat hd
  rw [e2] at hw
  rw [e1]
  have L := (Pl.wr_law hs.ok hat hd).1 hw
  refine ⟨by rw [List.length_set]; exact h.len, fun a b ha hb => ?_⟩
  rw [L.text a b ((hs.at' a b).2 ⟨ha, hb⟩), List.getElem?_set, h.len]
  by_cases e : g = a ∧ p = b
  · rw [if_pos e, if_pos (by omega), if_pos (by omega)]
  · rw [if_neg e, if_neg (by omega)]
    exact h.txt a b ha hb
theorem Wants.sh {P : Pl} {W : List ByteArray} (h : Wants P W) (hs : Shape 8 P) {g p : Nat} (hg : g < 2) (hp : p < 4) : Wants (P.sh g p) W :=
  ⟨h.len, fun a b ha hb => by rw [(Pl.sh_law hs.ok ((hs.at' g p).2 ⟨hg, hp⟩)).1.text a b ((hs.at' a b).2 ⟨ha, hb⟩)]; exact h.txt a b ha hb⟩
theorem Wants.zeros {W : List ByteArray} (hl : W.length = 8) (h : ∀ j : Nat, j < 8 → W[j]? = some zeros128) : Wants (fill0 8) W := ⟨hl, fun a b ha hb => by rw [fill0_text (by omega) (by omega)]; exact h _ (by omega)⟩
set_option maxRecDepth 100000 in
set_option maxHeartbeats 8000000 in
theorem keepsP_in (va : Value) (ls : List Int) (w : World) (ha : NumRow w va ls) (hls : ∀ x ∈ ls, -9223372036854775808 ≤ x ∧ x ≤ 9223372036854775807) (hn40 : ls.length ≤ 60) : Calls Try.prog 5 #[va] w (Ret w (.bool true)) := by
  obtain ⟨ao, ca, rfl, a1, a2, _⟩ := ha.out
  unfold maxLen at a2
  obtain ⟨N, hN⟩ : ∃ N, ls.length = N := ⟨_, rfl⟩
  rw [hN] at a1 ha hn40 ⊢
  have HN := Lib.hid hN; clear hN
  have HA := Lib.hid ha; clear ha
  have HB := Lib.hid hls; clear hls
  have FL : ∀ w, Calls Try.prog 11 #[.int .i64 8, .slice none 0 0] w (RetPool2 (fill0 8) true w) := filled_nil
  have hsh : Shape 8 (fill0 8) := fill_shape (by omega) (by omega)
  have hwz : ∀ W : List ByteArray, W.length = 8 → (∀ j : Nat, j < 8 → W[j]? = some zeros128) → Wants (fill0 8) W := fun W => Wants.zeros
  have PZ : ∀ w, Calls Try.prog 12 #[.int .i64 0] w (Ret w (.string zeros128)) := fun w => by
    have h := page_any 0 w (by omega)
    rwa [pageS_zero] at h
  obtain ⟨zz, hzz⟩ : ∃ z, zeros128 = z := ⟨_, rfl⟩
  rw [hzz] at PZ hwz
  have HPZ := Lib.hid PZ; clear PZ hzz
  obtain ⟨P0, hp0⟩ : ∃ P, fill0 8 = P := ⟨_, rfl⟩
  rw [hp0] at FL hsh hwz
  have HFL := Lib.hid FL; clear FL
  have HSH := Lib.hid hsh; clear hsh
  have HWZ := Lib.hid hwz; clear hwz hp0
  have hbw : Below w.heap.size w w := Below.refl _ _
  go_enter Try.func5, Try.ntmps5
  go_wp2_with fail
  with_reducible refine (HFL.out _).mono ?_
  rintro e w1 ⟨of0, or0, om0, kf0, kr0, km0, us0, rfl, O0, hbk⟩
  replace hbw := hbw.trans (hbk.mono hbw.size)
  clear hbk
  obtain ⟨n0, hgn⟩ : ∃ n, (Pl.F P0).length = n := ⟨_, rfl⟩
  obtain ⟨r0, hgr⟩ : ∃ n, (Pl.R P0).length = n := ⟨_, rfl⟩
  obtain ⟨m0, hgm⟩ : ∃ n, (Pl.M P0).length = n := ⟨_, rfl⟩
  rw [hgn, hgr, hgm] at O0 ⊢
  have HG0 := Lib.hid (And.intro hgn (And.intro hgr hgm))
  clear hgn hgr hgm
  go_wp2_with fail
  have hbx : Below w1.heap.size w1 ((w1.alloc (.cells #[.slice of0 n0 kf0, .slice or0 r0 kr0, .slice om0 m0 km0] 26)).alloc (.cells (wantA (List.replicate 8 ⟨#[]⟩)) 36)) := ((Below.refl _ _).alloc (Nat.le_refl _) _).alloc (by simp only [sizes]; omega) _
  have hw0 := hbw.size
  have D0 := (HasBlock.made w1 #[.slice of0 n0 kf0, .slice or0 r0 kr0, .slice om0 m0 km0] 26).alloc (.cells (wantA (List.replicate 8 ⟨#[]⟩)) 36)
  have DW := HasBlock.made (w1.alloc (.cells #[.slice of0 n0 kf0, .slice or0 r0 kr0, .slice om0 m0 km0] 26)) (wantA (List.replicate 8 ⟨#[]⟩)) 36
  rw [World.size_alloc] at DW
  replace O0 := O0.below hbx
  replace hbw := hbw.trans (hbx.mono hbw.size)
  clear hbx
  obtain ⟨B0, hB⟩ : ∃ B, w1.heap.size = B := ⟨_, rfl⟩
  rw [hB] at D0 DW hw0 ⊢
  obtain ⟨W0, hW0⟩ : ∃ W, List.replicate 8 (⟨#[]⟩ : ByteArray) = W := ⟨_, rfl⟩
  have hWl : W0.length = 8 := by rw [← hW0]; rfl
  have hwa : (#[.string ⟨#[]⟩, .string ⟨#[]⟩, .string ⟨#[]⟩, .string ⟨#[]⟩, .string ⟨#[]⟩, .string ⟨#[]⟩, .string ⟨#[]⟩, .string ⟨#[]⟩] : Array Value) = wantA W0 := by rw [← hW0]; rfl
  rw [hW0] at D0 DW O0 hbw
  rw [hwa]
  clear hwa hW0
  generalize hW : (w1.alloc (.cells #[.slice of0 n0 kf0, .slice or0 r0 kr0, .slice om0 m0 km0] 26)).alloc (.cells (wantA W0) 36) = w2 at D0 DW O0 hbw ⊢
  clear hW hB
  go_loopw [6] (fun iv wr => ∃ (g : Nat) (W : List ByteArray), g ≤ 2 ∧ iv = .int .i64 g ∧ Hid (W.length = 8 ∧ ∀ j : Nat, j < g * 4 → W[j]? = some zz) ∧ HasBlock wr B0 #[.slice of0 n0 kf0, .slice or0 r0 kr0, .slice om0 m0 km0] 26 ∧ HasBlock wr (B0 + 1) (wantA W) 36 ∧ OwnP 0 wr (.slice of0 n0 kf0) (.slice or0 r0 kr0) (.slice om0 m0 km0) us0 P0 ∧ Below w.heap.size w wr) (fun iv _ => 2 - (intOf iv).toNat)
  case atStart => exact ⟨0, W0, by omega, rfl, ⟨hWl, fun j hj => by omega⟩, D0, DW, O0, hbw⟩
  case round =>
    clear D0 DW O0 hbw hWl
    obtain ⟨g, W, hg, rfl, HW, D0, DW, O0, hbw⟩ := hrel
    by_cases hlt : g < 2
    · go_wp2_with fail
      go_loopw [7] (fun iv wr => ∃ (k : Nat) (W : List ByteArray), k ≤ 4 ∧ iv = .int .i64 k ∧ Hid (W.length = 8 ∧ ∀ j : Nat, j < g * 4 + k → W[j]? = some zz) ∧ HasBlock wr B0 #[.slice of0 n0 kf0, .slice or0 r0 kr0, .slice om0 m0 km0] 26 ∧ HasBlock wr (B0 + 1) (wantA W) 36 ∧ OwnP 0 wr (.slice of0 n0 kf0) (.slice or0 r0 kr0) (.slice om0 m0 km0) us0 P0 ∧ Below w.heap.size w wr) (fun iv _ => 4 - (intOf iv).toNat)
      case atStart => exact ⟨0, W, by omega, rfl, HW, D0, DW, O0, hbw⟩
      case round =>
        clear D0 DW O0 hbw HW
        obtain ⟨k, W, hk, rfl, HW, D0, DW, O0, hbw⟩ := hrel
        by_cases hkt : k < 4
        · have g0 : (0 : Int) ≤ (g : Int) := by omega
          have g2 : (g : Int) < 2 := by omega
          have k0 : (0 : Int) ≤ (k : Int) := by omega
          have k4 : (k : Int) < 4 := by omega
          obtain ⟨t, ht⟩ := get_lt (xs := W) (k := g * 4 + k) (by rw [HW.out.1]; omega)
          have hwg : (wantA W)[g * 4 + k]? = some (.string t) := by rw [wantA_get, ht]; rfl
          clear ht
          obtain ⟨D0_c, D0_f, D0_z⟩ := D0.all
          obtain ⟨DW_c, DW_f, DW_z⟩ := DW.all
          go_wp2_with fail
          refine wp_region_tail_below 5 (by kernel_rfl) (by kernel_rfl) ?_
          simp only [List.take_succ_cons, List.take_zero, List.drop_succ_cons, List.drop_zero]
          repeat (go_big_quiet_step (first | fail | (go_at_call 12; with_reducible exact quiet_ret (HPZ.out _))))
          refine wpQuiet_nil ?_
          intro w3 hw3
          have hb3 := below_of_regrown hw3
          clear hw3
          obtain ⟨hc3, hf3⟩ := bcell hb3
          have hz3 := bsize hb3
          try simp only [sizes1] at hz3
          try simp only [sizes] at hc3 hf3
          clear hc3 hf3 hz3
          clear D0_c D0_f D0_z
          clear DW_c DW_f DW_z
          replace D0 := D0.below hb3
          replace DW := DW.below hb3
          replace O0 := O0.below hb3
          replace hbw := hbw.trans (hb3.mono hbw.size)
          clear hb3
          obtain ⟨D0_c, D0_f, D0_z⟩ := D0.all
          obtain ⟨DW_c, DW_f, DW_z⟩ := DW.all
          go_wp2_with fail
          clear D0_c D0_f D0_z
          clear DW_c DW_f DW_z
          go_roundw
          case rel => exact ⟨k + 1, W.set (g * 4 + k) zz, by omega, by go_num, ⟨by rw [List.length_set]; exact HW.out.1, fun j hj => by
            rw [List.getElem?_set, HW.out.1]
            split
            · rename_i e
              rw [if_pos (by omega)]
            · exact HW.out.2 j (by omega)⟩, D0.set_ne (by omega) _, DW.put_want _ _, O0.setbox DW (by decide) (by decide) (by decide) _, hbw.setCell (by dsimp only; omega) _⟩
          case measure => simp [intOf]; omega
        · obtain rfl : k = 4 := by omega
          go_wp2_with fail
          go_roundw
          case rel => exact ⟨g + 1, W, by omega, by go_num, ⟨HW.out.1, fun j hj => HW.out.2 j (by omega)⟩, D0, DW, O0, hbw⟩
          case measure => simp [intOf]; omega
    · obtain rfl : g = 2 := by omega
      have HWT := Lib.hid (HWZ.out W HW.out.1 (fun j hj => HW.out.2 j (by omega)))
      clear HW HWZ HFL hlt hg
      go_wp2_with fail
      simp only [Int.cast_ofNat_Int]
      go_loopw [8] (fun iv wr => ∃ (i : Nat) (P : Pl) (W : List ByteArray) (of or' om : Option Addr) (n r m kf kr km : Nat) (us : List Value), i ≤ N ∧ iv = .int .i64 i ∧ Hid (Shape 8 P) ∧ Hid (Wants P W) ∧ HasBlock wr B0 #[.slice of n kf, .slice or' r kr, .slice om m km] 26 ∧ HasBlock wr (B0 + 1) (wantA W) 36 ∧ OwnP 0 wr (.slice of n kf) (.slice or' r kr) (.slice om m km) us P ∧ Below w.heap.size w wr) (fun iv _ => N - (intOf iv).toNat)
      case atStart => exact ⟨0, P0, W, _, _, _, _, _, _, _, _, _, _, by omega, rfl, HSH, HWT, D0, DW, O0, hbw⟩
      case round =>
        clear D0 DW O0 hbw HWT HSH HG0
        obtain ⟨i, P, W, of3, or3, om3, n3, r3, m3, kf3, kr3, km3, us3, hi, rfl, HSP, HW, D0, DW, O3, hbw⟩ := hrel
        by_cases hlt : i < N
        · obtain ⟨x, hx⟩ := get_lt (xs := ls) (k := i) (by rw [HN.out]; exact hlt)
          have hxb := HB.out x (mem_at hx)
          obtain ⟨b, off, rfl, hbs, hcx⟩ := HA.out.elem hx
          clear hx
          have hx2 := tdiv_in (k := 2) (by omega) hxb
          have hx8 := tdiv_in (k := 8) (by omega) hxb
          have hx32 := tdiv_in (k := 32) (by omega) hxb
          have R1 := fun w => round_any x 2 w hxb (by omega) (by omega)
          have R2 := fun w => round_any (x.tdiv 2) 4 w hx2 (by omega) (by omega)
          have R3 := fun w => round_any (x.tdiv 8) 4 w hx8 (by omega) (by omega)
          have PG := fun w => page_any (x.tdiv 32) w hx32
          obtain ⟨a, ha⟩ : ∃ v : Nat, x % 2 = v := ⟨(x % 2).toNat, by omega⟩
          obtain ⟨c, hc⟩ : ∃ v : Nat, x.tdiv 2 % 4 = v := ⟨(x.tdiv 2 % 4).toNat, by omega⟩
          obtain ⟨s, hs⟩ : ∃ v : Nat, x.tdiv 8 % 4 = v := ⟨(x.tdiv 8 % 4).toNat, by omega⟩
          have ha2 : a < 2 := by omega
          have hc4 : c < 4 := by omega
          rw [ha] at R1
          rw [hc] at R2
          rw [hs] at R3
          have hds := pageS_size (x.tdiv 32)
          obtain ⟨d, hd⟩ : ∃ d, pageS (x.tdiv 32) = d := ⟨_, rfl⟩
          rw [hd] at PG hds
          have HR1 := Lib.hid R1; clear R1
          have HR2 := Lib.hid R2; clear R2
          have HR3 := Lib.hid R3; clear R3
          have HPG := Lib.hid PG; clear PG
          have HDS := Lib.hid hds; clear hds
          have hw32 : IntKind.i64.wrap (x.tdiv 32) = x.tdiv 32 := IntWalk.i64_in _ hx32
          have HW32 := Lib.hid hw32; clear hw32
          clear ha hc hs hd hx2 hx8 hx32
          have cx := (hbw.cell (p := ⟨b, off + i, none⟩) hbs).trans hcx
          have hbs2 : b < wr.heap.size := by have := hbw.size; omega
          have i0 : (0 : Int) ≤ (i : Int) := by omega
          have iN : (i : Int) < (N : Int) := by omega
          have a0 : (0 : Int) ≤ (a : Int) := by omega
          have a2' : (a : Int) < 2 := by omega
          have c0 : (0 : Int) ≤ (c : Int) := by omega
          have c4' : (c : Int) < 4 := by omega
          obtain ⟨D0_c, D0_f, D0_z⟩ := D0.all
          obtain ⟨DW_c, DW_f, DW_z⟩ := DW.all
          go_wp2_with fail
          refine wp_region_quiet_below (by kernel_rfl) (by kernel_rfl) ?_
          repeat (go_big_quiet_step (first | fail | (go_at_call 13; first | with_reducible exact quiet_ret (HR1.out _) | with_reducible exact quiet_ret (HR2.out _))))
          refine wpQuiet_nil ?_
          intro w7 hw7
          have hb7 := below_of_regrown hw7
          clear hw7
          obtain ⟨hc7, hf7⟩ := bcell hb7
          have hz7 := bsize hb7
          try simp only [sizes1] at hz7
          try simp only [sizes] at hc7 hf7
          clear hc7 hf7 hz7 cx hbs2
          clear D0_c D0_f D0_z
          clear DW_c DW_f DW_z
          replace D0 := D0.below hb7
          replace DW := DW.below hb7
          replace O3 := O3.below hb7
          replace hbw := hbw.trans (hb7.mono hbw.size)
          clear hb7
          have cx := (hbw.cell (p := ⟨b, off + i, none⟩) hbs).trans hcx
          obtain ⟨D0_c, D0_f, D0_z⟩ := D0.all
          obtain ⟨DW_c, DW_f, DW_z⟩ := DW.all
          go_wp2_with fail
          clear D0_c D0_f D0_z
          clear DW_c DW_f DW_z
          clear cx
          with_reducible refine (HR3.out _).mono ?_
          rintro e w8 ⟨rfl, hbk⟩
          replace D0 := D0.below hbk
          replace DW := DW.below hbk
          replace O3 := O3.below hbk
          replace hbw := hbw.trans (hbk.mono hbw.size)
          clear hbk
          have SHc := fun v w h => pshare_any v P a c w h HSP.out.ok.fit HSP.out.ok.small
          have WRc := fun v w h => pwrite_any v P a c d w h HSP.out.ok.fit HSP.out.ok.small
          rw [HSP.out.wok ha2 hc4 HDS.out] at WRc
          have hsh1 := HSP.out.sh ha2 hc4
          have hsh2 := HSP.out.wr ha2 hc4 HDS.out
          have hw1 := HW.out.sh HSP.out ha2 hc4
          have hw2 := HW.out.wr HSP.out ha2 hc4 HDS.out
          have hwl := HW.out.len
          obtain ⟨Q1, hq1⟩ : ∃ Q, P.sh a c = Q := ⟨_, rfl⟩
          obtain ⟨Q2, hq2⟩ : ∃ Q, P.wr a c d = Q := ⟨_, rfl⟩
          obtain ⟨t1, ht1⟩ : ∃ t, P.sok a c = t := ⟨_, rfl⟩
          rw [hq1] at SHc hsh1 hw1
          rw [hq2] at WRc hsh2 hw2
          rw [ht1] at SHc
          clear hq1 hq2 ht1
          have HSHc := Lib.hid SHc; clear SHc
          have HWRc := Lib.hid WRc; clear WRc
          have HQ1 := Lib.hid hsh1; clear hsh1
          have HQ2 := Lib.hid hsh2; clear hsh2
          have HV1 := Lib.hid hw1; clear hw1
          have HV2 := Lib.hid hw2; clear hw2
          obtain ⟨D0_c, D0_f, D0_z⟩ := D0.all
          obtain ⟨DW_c, DW_f, DW_z⟩ := DW.all
          go_upto_if 63 with (fail)
          clear D0_c D0_f D0_z
          clear DW_c DW_f DW_z
          go_cut [11, 12] from 63 to 96 (fun v v2 wx => ∃ (Q : Pl) (U : List ByteArray) (of or' om : Option Addr) (n r m kf kr km : Nat) (us : List Value), Hid (Shape 8 Q) ∧ Hid (Wants Q U) ∧ HasBlock wx B0 #[.slice of n kf, .slice or' r kr, .slice om m km] 26 ∧ HasBlock wx (B0 + 1) (wantA U) 36 ∧ OwnP 0 wx (.slice of n kf) (.slice or' r kr) (.slice om m km) us Q ∧ Below w.heap.size w wx)
          case first =>
            by_cases hs0 : s = 0
            · have e1 : (s == 0) = true := by rw [beq_iff_eq]; exact hs0
              have e2 : ((s : Int) == 0) = true := by rw [beq_iff_eq]; omega
              clear hs0
              obtain ⟨D0_c, D0_f, D0_z⟩ := D0.all
              obtain ⟨DW_c, DW_f, DW_z⟩ := DW.all
              go_wp2_with fail
              clear D0_c D0_f D0_z
              clear DW_c DW_f DW_z
              with_reducible refine (HSHc.out _ _ O3.row).mono ?_
              rintro e w9 ⟨of4, or4, om4, kf4, kr4, km4, us4, rfl, O4, hbk⟩
              replace D0 := D0.below hbk
              replace DW := DW.below hbk
              replace hbw := hbw.trans (hbk.mono hbw.size)
              clear hbk
              clear O3 e1 e2
              obtain ⟨n4, hgn⟩ : ∃ n, (Pl.F Q1).length = n := ⟨_, rfl⟩
              obtain ⟨r4, hgr⟩ : ∃ n, (Pl.R Q1).length = n := ⟨_, rfl⟩
              obtain ⟨m4, hgm⟩ : ∃ n, (Pl.M Q1).length = n := ⟨_, rfl⟩
              rw [hgn, hgr, hgm] at O4 ⊢
              clear hgn hgr hgm
              obtain ⟨D0_c, D0_f, D0_z⟩ := D0.all
              obtain ⟨DW_c, DW_f, DW_z⟩ := DW.all
              go_wp2_with fail
              clear D0_c D0_f D0_z
              clear DW_c DW_f DW_z
              go_meet
              exact ⟨Q1, W, _, _, _, _, _, _, _, _, _, _, HQ1, HV1, D0.fill _ _ _, DW.fill_ne (by omega) _ _ _, O4.fill D0 (by decide) (by decide) (by decide) _ _ _, ((hbw.setCell (by dsimp only; omega) _).setCell (by dsimp only; omega) _).setCell (by dsimp only; omega) _⟩
            · have e1 : (s == 0) = false := by rw [beq_eq_false_iff_ne]; exact hs0
              have e2 : ((s : Int) == 0) = false := by rw [beq_eq_false_iff_ne]; omega
              clear hs0
              have cx := (hbw.cell (p := ⟨b, off + i, none⟩) hbs).trans hcx
              have hbs2 : b < w8.heap.size := by have := hbw.size; omega
              obtain ⟨D0_c, D0_f, D0_z⟩ := D0.all
              obtain ⟨DW_c, DW_f, DW_z⟩ := DW.all
              go_wp2_with fail
              clear D0_c D0_f D0_z
              clear DW_c DW_f DW_z
              go_cut [11, 12] from 63 to 83 (fun v v2 wx => NewAt2 (fun wx => HasBlock wx B0 #[.slice of3 n3 kf3, .slice or3 r3 kr3, .slice om3 m3 km3] 26 ∧ HasBlock wx (B0 + 1) (wantA W) 36 ∧ Below w.heap.size w wx) Q2 v v2 wx)
              case first =>
                have hw32 := HW32.out
                obtain ⟨D0_c, D0_f, D0_z⟩ := D0.all
                obtain ⟨DW_c, DW_f, DW_z⟩ := DW.all
                have hrule : ∀ w' : World, Below w8.heap.size w8 w' → ∀ b o, b < w8.heap.size → w'.cell? ⟨b, o, none⟩ = w8.cell? ⟨b, o, none⟩ := fun w' h b o hlt => h.cell (p := ⟨b, o, none⟩) hlt
                go_region_held3 (fun w' => Below w8.heap.size w8 w') (repeat (first | with_reducible assumption | with_reducible exact Below.refl _ _ | (with_reducible refine Below.drew ?_) | (with_reducible refine Below.alloc' ?_ (Nat.le_refl _) _) | (with_reducible refine Below.setCell ?_ (by first | exact rfl | exact Nat.le_refl _ | omega | (dsimp only; omega) | (simp only [sizes]; done) | (simp only [sizes]; omega)) _) | (refine Below.trans ?_ (Below.mono (by with_reducible assumption) (by first | exact rfl | exact Nat.le_refl _ | omega | (dsimp only; omega) | (simp only [sizes]; done) | (simp only [sizes]; omega)))))) ((first
                  |
                   (go_at_call 12
                    with_reducible refine (HPG.out _).mono ?_
                    rintro e w15 ⟨rfl, hb15⟩
                    obtain ⟨hc15, hf15⟩ := bcell hb15
                    have hzz15 := bsize hb15
                    (try simp only [sizes1] at hzz15)
                    (try simp only [sizes] at hc15 hf15))
                  |
                   (go_at_call 15
                    with_reducible refine (HWRc.out _ _ (O3.row.below (by (repeat (first | with_reducible assumption | with_reducible exact Below.refl _ _ | (with_reducible refine Below.drew ?_) | (with_reducible refine Below.alloc' ?_ (Nat.le_refl _) _) | (with_reducible refine Below.setCell ?_ (by first | exact rfl | exact Nat.le_refl _ | omega | (dsimp only; omega) | (simp only [sizes]; done) | (simp only [sizes]; omega)) _) | (refine Below.trans ?_ (Below.mono (by with_reducible assumption) (by first | exact rfl | exact Nat.le_refl _ | omega | (dsimp only; omega) | (simp only [sizes]; done) | (simp only [sizes]; omega))))))))).mono ?_
                    rintro e w16 ⟨of6, or6, om6, kf6, kr6, km6, us6, rfl, O6, hb16⟩
                    obtain ⟨n6, hgn⟩ : ∃ n, (Pl.F Q2).length = n := ⟨_, rfl⟩
                    obtain ⟨r6, hgr⟩ : ∃ n, (Pl.R Q2).length = n := ⟨_, rfl⟩
                    obtain ⟨m6, hgm⟩ : ∃ n, (Pl.M Q2).length = n := ⟨_, rfl⟩
                    rw [hgn, hgr, hgm] at O6 ⊢
                    clear hgn hgr hgm
                    obtain ⟨hc16, hf16⟩ := bcell hb16
                    have hzz16 := bsize hb16
                    (try simp only [sizes1] at hzz16)
                    (try simp only [sizes] at hc16 hf16))))
                all_goals
                  clear hw32
                  go_wp2_with fail
                  go_meet
                  refine ⟨_, of6, or6, om6, n6, r6, m6, kf6, kr6, km6, us6, rfl, rfl, ?h1, ?h2, ?h3, ?h4, ?h5⟩
                  case h1 => (repeat' (first | with_reducible assumption | (with_reducible refine HasBlock.drew ?_) | (with_reducible refine HasBlock.made' (by first | exact rfl | exact Nat.le_refl _ | omega | (dsimp only; omega) | (simp only [sizes]; done) | (simp only [sizes]; omega))) | (with_reducible refine HasBlock.alloc ?_ _) | (with_reducible refine HasBlock.fill3 ?_) | (with_reducible refine HasBlock.fill_ne ?_ (by first | exact rfl | exact Nat.le_refl _ | omega | (dsimp only; omega) | (simp only [sizes]; done) | (simp only [sizes]; omega)) _ _ _) | (with_reducible refine HasBlock.below ?_ hb16) | (with_reducible refine HasBlock.below ?_ hb15)))
                  case h2 => (repeat' (first | with_reducible assumption | (with_reducible refine OwnP.drew ?_) | (with_reducible refine OwnP.alloc ?_ _) | (with_reducible refine OwnP.fill (x0 := .slice none 0 0) (x1 := .slice none 0 0) (x2 := .slice none 0 0) (T := 26) ?_ ?_ (by decide) (by decide) (by decide) _ _ _) | (with_reducible refine OwnP.below ?_ hb16) | (with_reducible refine OwnP.below ?_ hb15) | (with_reducible refine HasBlock.drew ?_) | (with_reducible refine HasBlock.made' (by first | exact rfl | exact Nat.le_refl _ | omega | (dsimp only; omega) | (simp only [sizes]; done) | (simp only [sizes]; omega))) | (with_reducible refine HasBlock.alloc ?_ _) | (with_reducible refine HasBlock.below ?_ hb16) | (with_reducible refine HasBlock.below ?_ hb15)))
                  case h3 => (repeat' (first | with_reducible assumption | (with_reducible refine HasBlock.drew ?_) | (with_reducible refine HasBlock.made' (by first | exact rfl | exact Nat.le_refl _ | omega | (dsimp only; omega) | (simp only [sizes]; done) | (simp only [sizes]; omega))) | (with_reducible refine HasBlock.alloc ?_ _) | (with_reducible refine HasBlock.fill3 ?_) | (with_reducible refine HasBlock.fill_ne ?_ (by first | exact rfl | exact Nat.le_refl _ | omega | (dsimp only; omega) | (simp only [sizes]; done) | (simp only [sizes]; omega)) _ _ _) | (with_reducible refine HasBlock.below ?_ hb16) | (with_reducible refine HasBlock.below ?_ hb15)))
                  case h4 => (repeat' (first | with_reducible assumption | (with_reducible refine HasBlock.drew ?_) | (with_reducible refine HasBlock.made' (by first | exact rfl | exact Nat.le_refl _ | omega | (dsimp only; omega) | (simp only [sizes]; done) | (simp only [sizes]; omega))) | (with_reducible refine HasBlock.alloc ?_ _) | (with_reducible refine HasBlock.fill3 ?_) | (with_reducible refine HasBlock.fill_ne ?_ (by first | exact rfl | exact Nat.le_refl _ | omega | (dsimp only; omega) | (simp only [sizes]; done) | (simp only [sizes]; omega)) _ _ _) | (with_reducible refine HasBlock.below ?_ hb16) | (with_reducible refine HasBlock.below ?_ hb15)))
                  case h5 => exact hbw.trans (Below.mono (by (repeat (first | with_reducible assumption | with_reducible exact Below.refl _ _ | (with_reducible refine Below.drew ?_) | (with_reducible refine Below.alloc' ?_ (Nat.le_refl _) _) | (with_reducible refine Below.setCell ?_ (by first | exact rfl | exact Nat.le_refl _ | omega | (dsimp only; omega) | (simp only [sizes]; done) | (simp only [sizes]; omega)) _) | (refine Below.trans ?_ (Below.mono (by with_reducible assumption) (by first | exact rfl | exact Nat.le_refl _ | omega | (dsimp only; omega) | (simp only [sizes]; done) | (simp only [sizes]; omega))))))) hbw.size)
              case rest =>
                clear hbw D0 DW O3 cx
                obtain ⟨B2, of4, or4, om4, n4, r4, m4, kf4, kr4, km4, us4, rfl, rfl, D2, O4, D0, DW, hbw⟩ := hcut
                have cx := (hbw.cell (p := ⟨b, off + i, none⟩) hbs).trans hcx
                obtain ⟨D0_c, D0_f, D0_z⟩ := D0.all
                obtain ⟨DW_c, DW_f, DW_z⟩ := DW.all
                obtain ⟨D2_c, D2_f, D2_z⟩ := D2.all
                go_wp2_with fail
                clear D0_c D0_f D0_z
                clear DW_c DW_f DW_z
                clear D2_c D2_f D2_z
                clear D2 cx
                replace O4 := O4.fill D0 (by decide) (by decide) (by decide) (.slice of4 n4 kf4) (.slice or4 r4 kr4) (.slice om4 m4 km4)
                replace DW := DW.fill_ne (b' := B0) (by omega) (.slice of4 n4 kf4) (.slice or4 r4 kr4) (.slice om4 m4 km4)
                replace D0 := D0.fill (.slice of4 n4 kf4) (.slice or4 r4 kr4) (.slice om4 m4 km4)
                replace hbw := ((hbw.setCell (p := ⟨B0, 0, none⟩) (by dsimp only; omega) (.slice of4 n4 kf4)).setCell (p := ⟨B0, 1, none⟩) (by dsimp only; omega) (.slice or4 r4 kr4)).setCell (p := ⟨B0, 2, none⟩) (by dsimp only; omega) (.slice om4 m4 km4)
                generalize hW : ((World.setCell wc ⟨B0, 0, none⟩ (.slice of4 n4 kf4)).setCell ⟨B0, 1, none⟩ (.slice or4 r4 kr4)).setCell ⟨B0, 2, none⟩ (.slice om4 m4 km4) = w17 at D0 DW O4 hbw ⊢
                clear hW
                have cx := (hbw.cell (p := ⟨b, off + i, none⟩) hbs).trans hcx
                have hbs3 : b < w17.heap.size := by have := hbw.size; omega
                have hw32 := HW32.out
                obtain ⟨t, ht⟩ := get_lt (xs := W) (k := a * 4 + c) (by rw [hwl]; omega)
                have hwg : (wantA W)[a * 4 + c]? = some (.string t) := by rw [wantA_get, ht]; rfl
                clear ht
                obtain ⟨D0_c, D0_f, D0_z⟩ := D0.all
                obtain ⟨DW_c, DW_f, DW_z⟩ := DW.all
                refine wp_region_tail_below 10 (by kernel_rfl) (by kernel_rfl) ?_
                simp only [List.take_succ_cons, List.take_zero, List.drop_succ_cons, List.drop_zero]
                repeat (go_big_quiet_step (first | fail | (go_at_call 12; with_reducible exact quiet_ret (HPG.out _))))
                refine wpQuiet_nil ?_
                intro w18 hw18
                have hb18 := below_of_regrown hw18
                clear hw18
                obtain ⟨hc18, hf18⟩ := bcell hb18
                have hz18 := bsize hb18
                try simp only [sizes1] at hz18
                try simp only [sizes] at hc18 hf18
                clear hc18 hf18 hz18 cx hw32 hbs3
                clear D0_c D0_f D0_z
                clear DW_c DW_f DW_z
                replace D0 := D0.below hb18
                replace DW := DW.below hb18
                replace O4 := O4.below hb18
                replace hbw := hbw.trans (hb18.mono hbw.size)
                clear hb18
                obtain ⟨D0_c, D0_f, D0_z⟩ := D0.all
                obtain ⟨DW_c, DW_f, DW_z⟩ := DW.all
                go_wp2_with fail
                clear D0_c D0_f D0_z
                clear DW_c DW_f DW_z
                go_meet
                exact ⟨Q2, W.set (a * 4 + c) d, _, _, _, _, _, _, _, _, _, _, HQ2, HV2, D0.set_ne (by omega) _, DW.put_want _ _, O4.setbox DW (by decide) (by decide) (by decide) _, hbw.setCell (by dsimp only; omega) _⟩
          case rest =>
            clear hbw D0 DW O3 HSP HW HQ1 HQ2 HV1 HV2 HSHc HWRc HPG HDS hwl
            obtain ⟨Q, U, of5, or5, om5, n5, r5, m5, kf5, kr5, km5, us5, HSQ, HU, D0, DW, O5, hbw⟩ := hcut
            have VL := fun v w h => valid_pl v Q w h HSQ.out.ok.fit
            rw [Pl.ok_iff.2 HSQ.out.ok] at VL
            have HVL := Lib.hid VL; clear VL
            have RD : ∀ (g p : Nat), g < 2 → p < 4 → ∀ v w, PlRow w v Q → Calls Try.prog 17 #[v, .int .i64 g, .int .i64 p] w (Ret w (.tuple #[.string (Q.text g p), .bool true])) := fun g p hg hp v w h => by
              have zat := (HSQ.out.at' g p).2 ⟨hg, hp⟩
              have RZ := pread_any v Q g p w h HSQ.out.ok.fit
              rwa [Pl.read_eq HSQ.out.ok zat, Pl.at_has HSQ.out.ok zat] at RZ
            have HRD := Lib.hid RD; clear RD
            obtain ⟨D0_c, D0_f, D0_z⟩ := D0.all
            obtain ⟨DW_c, DW_f, DW_z⟩ := DW.all
            go_wp2_with fail
            clear D0_c D0_f D0_z
            clear DW_c DW_f DW_z
            with_reducible refine (HVL.out _ _ O5.row).mono ?_
            rintro e w20 ⟨rfl, hbk⟩
            replace D0 := D0.below hbk
            replace DW := DW.below hbk
            replace O5 := O5.below hbk
            replace hbw := hbw.trans (hbk.mono hbw.size)
            clear hbk
            obtain ⟨D0_c, D0_f, D0_z⟩ := D0.all
            obtain ⟨DW_c, DW_f, DW_z⟩ := DW.all
            go_wp2_with fail
            clear D0_c D0_f D0_z
            clear DW_c DW_f DW_z
            go_loopw [13] (fun iv wr => ∃ (g : Nat), g ≤ 2 ∧ iv = .int .i64 g ∧ HasBlock wr B0 #[.slice of5 n5 kf5, .slice or5 r5 kr5, .slice om5 m5 km5] 26 ∧ HasBlock wr (B0 + 1) (wantA U) 36 ∧ OwnP 0 wr (.slice of5 n5 kf5) (.slice or5 r5 kr5) (.slice om5 m5 km5) us5 Q ∧ Below w.heap.size w wr) (fun iv _ => 2 - (intOf iv).toNat)
            case atStart => exact ⟨0, by omega, rfl, D0, DW, O5, hbw⟩
            case round =>
              clear D0 DW O5 hbw
              obtain ⟨g, hg, rfl, D0, DW, O5, hbw⟩ := hrel
              by_cases hgt : g < 2
              · have g2 : (g : Int) < 2 := by omega
                go_wp2_with fail
                go_loopw [14] (fun iv wr => ∃ (k : Nat), k ≤ 4 ∧ iv = .int .i64 k ∧ HasBlock wr B0 #[.slice of5 n5 kf5, .slice or5 r5 kr5, .slice om5 m5 km5] 26 ∧ HasBlock wr (B0 + 1) (wantA U) 36 ∧ OwnP 0 wr (.slice of5 n5 kf5) (.slice or5 r5 kr5) (.slice om5 m5 km5) us5 Q ∧ Below w.heap.size w wr) (fun iv _ => 4 - (intOf iv).toNat)
                case atStart => exact ⟨0, by omega, rfl, D0, DW, O5, hbw⟩
                case round =>
                  clear D0 DW O5 hbw
                  obtain ⟨k, hk, rfl, D0, DW, O5, hbw⟩ := hrel
                  by_cases hkt : k < 4
                  · have g0 : (0 : Int) ≤ (g : Int) := by omega
                    have k0 : (0 : Int) ≤ (k : Int) := by omega
                    have k4 : (k : Int) < 4 := by omega
                    have RD := fun v w h => HRD.out g k hgt hkt v w h
                    have hwg : (wantA U)[g * 4 + k]? = some (.string (Q.text g k)) := by rw [wantA_get, HU.out.txt g k hgt hkt]; rfl
                    obtain ⟨t, ht⟩ : ∃ t, Q.text g k = t := ⟨_, rfl⟩
                    rw [ht] at RD hwg
                    have HRT := Lib.hid RD; clear RD ht
                    have e1 : (t.toList == t.toList) = true := by simp
                    have e2 : (t.toList != t.toList) = false := by simp
                    obtain ⟨D0_c, D0_f, D0_z⟩ := D0.all
                    obtain ⟨DW_c, DW_f, DW_z⟩ := DW.all
                    go_wp2_with fail
                    clear D0_c D0_f D0_z
                    clear DW_c DW_f DW_z
                    with_reducible refine (HRT.out _ _ O5.row).mono ?_
                    rintro e w21 ⟨rfl, hbk⟩
                    replace D0 := D0.below hbk
                    replace DW := DW.below hbk
                    replace O5 := O5.below hbk
                    replace hbw := hbw.trans (hbk.mono hbw.size)
                    clear hbk
                    obtain ⟨D0_c, D0_f, D0_z⟩ := D0.all
                    obtain ⟨DW_c, DW_f, DW_z⟩ := DW.all
                    go_wp2_with fail
                    clear D0_c D0_f D0_z
                    clear DW_c DW_f DW_z
                    go_roundw
                    case rel => exact ⟨k + 1, by omega, by go_num, D0, DW, O5, hbw⟩
                    case measure => simp [intOf]; omega
                  · obtain rfl : k = 4 := by omega
                    go_wp2_with fail
                    go_roundw
                    case rel => exact ⟨g + 1, by omega, by go_num, D0, DW, O5, hbw⟩
                    case measure => simp [intOf]; omega
              · obtain rfl : g = 2 := by omega
                go_wp2_with fail
                go_roundw
                case rel => exact ⟨i + 1, Q, U, _, _, _, _, _, _, _, _, _, _, by omega, by go_num, HSQ, HU, D0, DW, O5, hbw⟩
                case measure => simp [intOf]; omega
        · obtain rfl : i = N := by omega
          go_wp2_with fail
          with_reducible refine (awake_any _).mono ?_
          rintro e w30 ⟨rfl, hb30⟩
          replace hbw := hbw.trans (hb30.mono hbw.size)
          go_wp2_with fail
          go_ret
          exact Ret.mk hbw
end Go.Proofs.Ytjoopjgpjkmmhaa
