/-
  The law on what is kept while a disk is copied, walked.
-/
import Derived.Test.YtfomfokgibijjaaMirParts
import Derived.Deep.RegionHeld3
namespace Go.Proofs.Ytfomfokgibijjaa
open Go.RowKit

theorem keep_copy {L T : List ByteArray} {cn : Nat} (hl : L.length = 4) (hv : validB L T cn = true) : cpC L T cn 1 = ((if cn < 4 then cn + 1 else 4 : Nat) : Int) := by
  rw [cpC_eq hv (by omega), hl]
  have := (validB_iff.1 hv).1.2.2.2.2
  rw [hl] at this
  split <;> omega
theorem keep_end {L T : List ByteArray} {cn : Nat} (hl : L.length = 4) (hv : validB L T cn = true) : cpC L T cn 4 = 4 ∧ validB L (cpT L T cn 4) 4 = true := by
  have h5 := (validB_iff.1 hv).1.2.2.2
  rw [hl] at h5
  have e : cpC L T cn 4 = 4 := by
    rw [cpC_eq hv (by omega), hl]
    omega
  have h := copy_valid (q := 4) hv
  rw [e] at h
  exact ⟨e, h⟩
theorem keep_done {L T : List ByteArray} {cn : Nat} (hl : L.length = 4) (hv : validB L T cn = true) : doneB L T cn = decide (cn = 4) := by
  unfold doneB
  rw [hv, hl, Bool.true_and, Bool.eq_iff_iff, decide_eq_true_eq, decide_eq_true_eq]
  omega
theorem keep_write {L T : List ByteArray} {cn p : Nat} {d : ByteArray} (hl : L.length = 4) (hv : validB L T cn = true) (hp : p < 4) (hd : d.size = 128) : goodW L T cn p d = true ∧ wS L T cn p d = L.set p d := by
  have hg : goodW L T cn p d = true := by
    unfold goodW
    rw [hv, hl, Bool.true_and]
    exact decide_eq_true ⟨by omega, by omega, hd⟩
  exact ⟨hg, by unfold wS; rw [if_pos hg]; rfl⟩
/-- What a mirror's function hands back: four blocks on either side, in memory of its own. -/
def Own4 (S T : List ByteArray) (c : Int) (ok : Bool) (w : World) (e : Ending) (w' : World) : Prop := ∃ (ao bo : Option Addr) (ca cb : Nat), e = .returned (.tuple #[.agg #[.slice ao 4 ca, .slice bo 4 cb, .int .i64 c], .bool ok]) ∧ OwnStr w.heap.size w' (.slice ao 4 ca) S ∧ OwnStr w.heap.size w' (.slice bo 4 cb) T ∧ Below w.heap.size w w'
def Own4' (S T : List ByteArray) (c : Int) (w : World) (e : Ending) (w' : World) : Prop := ∃ (ao bo : Option Addr) (ca cb : Nat), e = .returned (.agg #[.slice ao 4 ca, .slice bo 4 cb, .int .i64 c]) ∧ OwnStr w.heap.size w' (.slice ao 4 ca) S ∧ OwnStr w.heap.size w' (.slice bo 4 cb) T ∧ Below w.heap.size w w'
theorem own4 {S T : List ByteArray} {c : Int} {ok : Bool} {w w' : World} {e : Ending} (h : RetOwnM2 S T c ok w e w') (hs : S.length = 4) (ht : T.length = 4) : Own4 S T c ok w e w' := by
  obtain ⟨vs, vt, rfl, h1, h2, hb⟩ := h
  obtain ⟨ao, ca, rfl, _, _⟩ := h1.formN hs
  obtain ⟨bo, cb, rfl, _, _⟩ := h2.formN ht
  exact ⟨ao, bo, ca, cb, rfl, h1, h2, hb⟩
theorem own4' {S T : List ByteArray} {c : Int} {w w' : World} {e : Ending} (h : RetOwnM S T c w e w') (hs : S.length = 4) (ht : T.length = 4) : Own4' S T c w e w' := by
  obtain ⟨vs, vt, rfl, h1, h2, hb⟩ := h
  obtain ⟨ao, ca, rfl, _, _⟩ := h1.formN hs
  obtain ⟨bo, cb, rfl, _, _⟩ := h2.formN ht
  exact ⟨ao, bo, ca, cb, rfl, h1, h2, hb⟩
theorem kbegin (S : List ByteArray) (hl : S.length = 4) (hb : begB S = true) (va : Value) (w : World) (h : StrRow w va S) : Calls Try.prog 8 #[va] w (Own4 S Z4 0 true w) := by
  have hh := begin_own va S w h (by rw [hl]; omega)
  rw [show begS S = S by unfold begS; rw [if_pos hb], show begT S = Z4 by unfold begT; rw [if_pos hb, hl]; rfl, hb] at hh
  exact hh.mono fun _ _ h => own4 h hl Z4_len
theorem kcopy (L T : List ByteArray) (cn : Nat) (q : Int) (hs : L.length = 4) (ht : T.length = 4) (hv : validB L T cn = true) (hq : -9223372036854775808 ≤ q ∧ q ≤ 9223372036854775807) (vs vt : Value) (w : World) (h1 : StrRow w vs L) (h2 : StrRow w vt T) : Calls Try.prog 17 #[.agg #[vs, vt, .int .i64 cn], .int .i64 q] w (Own4' L (cpT L T cn q) (cpC L T cn q) w) := by
  have h5 := (validB_iff.1 hv).1.2.2.2
  have hb := copy_own vs vt L T cn q w h1 h2 (by omega) (by omega) (by omega) hq
  exact hb.mono fun _ _ h => own4' h hs ((cpT_len _ _ _ _).trans ht)
theorem kwrite (L T : List ByteArray) (cn p : Nat) (d : ByteArray) (hs : L.length = 4) (ht : T.length = 4) (hv : validB L T cn = true) (hp : p < 4) (hd : d.size = 128) (vs vt : Value) (w : World) (h1 : StrRow w vs L) (h2 : StrRow w vt T) : Calls Try.prog 10 #[.agg #[vs, vt, .int .i64 cn], .int .i64 p, .string d] w (Own4 (L.set p d) (wT L T cn p d) cn true w) := by
  have h5 := (validB_iff.1 hv).1.2.2.2
  have hb := write_own vs vt L T cn p d w h1 h2 (by omega) (by omega) (by omega)
  obtain ⟨e1, e2⟩ := keep_write hs hv hp hd
  rw [e1, e2] at hb
  exact hb.mono fun _ _ h => own4 h (by rw [List.length_set]; exact hs) ((wT_len _ _ _ _ _).trans ht)
theorem kvalid (L T : List ByteArray) (cn : Nat) (hv : validB L T cn = true) (vs vt : Value) (w : World) (h1 : StrRow w vs L) (h2 : StrRow w vt T) : Calls Try.prog 14 #[.agg #[vs, vt, .int .i64 cn]] w (Ret w (.bool true)) := by
  have h5 := (validB_iff.1 hv).1
  have hb := valid_any vs vt L T cn w h1 h2 (by have := h5.2.1; have := h5.2.2.2; omega)
  rwa [hv] at hb
def RetLst (n : Nat) (T : List ByteArray) (ok : Bool) (w : World) (e : Ending) (w' : World) : Prop := ∃ (ao : Option Addr) (ca : Nat), e = .returned (.tuple #[.slice ao n ca, .bool ok]) ∧ StrRow w' (.slice ao n ca) T ∧ Below w.heap.size w w'
theorem kswitch_no (L T : List ByteArray) (cn : Nat) (hs : L.length = 4) (hv : validB L T cn = true) (hc : cn < 4) (vs vt : Value) (w : World) (h1 : StrRow w vs L) (h2 : StrRow w vt T) : Calls Try.prog 12 #[.agg #[vs, vt, .int .i64 cn]] w (RetLst 0 [] false w) := by
  have hb := switch_any vs vt L T cn w h1 h2 (by omega)
  rw [keep_done hs hv, decide_eq_false (by omega)] at hb
  refine hb.mono fun _ _ h => ?_
  obtain ⟨v, rfl, hr, hb⟩ := h
  obtain ⟨ao, ca, rfl, _⟩ := hr.out
  exact ⟨ao, ca, rfl, hr, hb⟩
theorem kswitch_yes (L T : List ByteArray) (hs : L.length = 4) (hv : validB L T 4 = true) (vs vt : Value) (w : World) (h1 : StrRow w vs L) (h2 : StrRow w vt T) : Calls Try.prog 12 #[.agg #[vs, vt, .int .i64 4]] w (RetLst 4 L true w) := by
  have hdn : doneB L T 4 = true := keep_done (cn := 4) hs hv
  have hb := switch_any vs vt L T 4 w h1 h2 (by omega)
  rw [hdn] at hb
  refine hb.mono fun _ _ h => ?_
  obtain ⟨v, rfl, hr, hb⟩ := h
  rw [if_pos rfl, done_eq hdn] at hr
  obtain ⟨ao, ca, rfl, _⟩ := hr.out
  rw [hs] at hr ⊢
  exact ⟨ao, ca, rfl, hr, hb⟩
theorem kswitch_all (L T : List ByteArray) (cn : Nat) (hs : L.length = 4) (hv : validB L T cn = true) (hc : cn = 4) (vs vt : Value) (w : World) (h1 : StrRow w vs L) (h2 : StrRow w vt T) : Calls Try.prog 12 #[.agg #[vs, vt, .int .i64 cn]] w (RetLst 4 L true w) := by
  subst hc
  exact kswitch_yes L T hs hv vs vt w h1 h2
theorem own_off {α : Type} {enc : α → Value} {e : TypeId} {base B : Nat} {w : World} {v : Value} {xs : List α} {cs : Array Value} {T : TypeId} (h : OwnEnc enc e base w v xs) (hB : HasBlock w B cs T) (hne : T ≠ e) : v.ownBlock ≠ some B := by
  intro hv
  rcases h.2 with ⟨rfl, _⟩ | ⟨g, cap, cur, rfl, _, hg, _⟩
  · cases hv
  · injection hv with hv
    subst hv
    unfold HasBlock at hB
    rw [hB] at hg
    injection hg with hg
    injection hg with _ hg
    exact hne hg
theorem own_store3 {α : Type} {enc : α → Value} {e : TypeId} {base B : Nat} {w : World} {v : Value} {xs : List α} {cs : Array Value} {T : TypeId} (h : OwnEnc enc e base w v xs) (hB : HasBlock w B cs T) (hne : T ≠ e) (x y z : Value) : OwnEnc enc e base (((w.setCell ⟨B, 0, none⟩ x).setCell ⟨B, 1, none⟩ y).setCell ⟨B, 2, none⟩ z) v xs :=
  ((h.setne (own_off h hB hne) x).setne (own_off h hB hne) y).setne (own_off h hB hne) z
theorem Below.step {w0 w w' : World} (h : Below w0.heap.size w0 w) (hb : Below w.heap.size w w') : Below w0.heap.size w0 w' := h.trans (hb.mono h.size)
theorem Below.alloc' {w0 w : World} (h : Below w0.heap.size w0 w) (o : Obj) : Below w0.heap.size w0 (w.alloc o) := h.alloc h.size o
theorem wp_gen {P : Program} {code : Code} {Q : Exit → Act → World → Prop} {act : Act} {W : World} (F : World → Prop) (h : F W) (k : ∀ W', F W' → code.wp P Q act W') : code.wp P Q act W := k W h
theorem tdiv_bd {x : Int} (h : -9223372036854775808 ≤ x ∧ x ≤ 9223372036854775807) : -9223372036854775808 ≤ x.tdiv 3 ∧ x.tdiv 3 ≤ 9223372036854775807 := by
  have h1 := Int.mul_tdiv_add_tmod x 3
  have h2 := Int.tmod_lt_of_pos x (show (0 : Int) < 3 by omega)
  have h3 := Int.lt_tmod_of_pos x (show (0 : Int) < 3 by omega)
  generalize x.tdiv 3 = a at h1 ⊢
  generalize x.tmod 3 = b at h1 h2 h3
  omega
set_option maxRecDepth 100000 in
set_option maxHeartbeats 8000000 in
theorem keeps_in (n : Int) (va : Value) (ls : List Int) (w : World) (ha : IntRow w va ls) (h : ls.length ≤ 60) (hb : ∀ x ∈ ls, -9223372036854775808 ≤ x ∧ x ≤ 9223372036854775807) : Calls Try.prog 4 #[.int .i64 n, va] w (Ret w (.bool true)) := by
  obtain ⟨ao, ca, rfl, a1, a2, a3⟩ := ha.out
  unfold maxLen at a2
  clear ha
  obtain ⟨N, hN⟩ : ∃ n, ls.length = n := ⟨_, rfl⟩
  rw [hN] at h a1 a3 ⊢
  have HN := Lib.hid hN; clear hN
  have HB := Lib.hid hb; clear hb
  have BK := fun w => blocks_any n w
  have hbeg := blocks_beg n
  have hlen := blocksL_len n 4
  obtain ⟨S, hS⟩ : ∃ S, blocksL n 4 = S := ⟨_, rfl⟩
  rw [hS] at BK hbeg hlen
  clear hS
  have hval := beg_valid hlen hbeg
  have BG := fun va w h => kbegin S hlen hbeg va w h
  have HBK := Lib.hid BK; clear BK
  have HL := Lib.hid hlen; clear hlen hbeg
  have hzl := Z4_len
  obtain ⟨Z, hZ⟩ : ∃ Z, Z4 = Z := ⟨_, rfl⟩
  rw [hZ] at BG hval hzl
  have HBG := Lib.hid BG; clear BG
  have HVAL := Lib.hid hval; clear hval
  have HZL := Lib.hid hzl; clear hzl hZ
  go_enter Try.func4, Try.ntmps4
  go_wp2_with fail
  refine (HBK.out _).mono ?_
  rintro e w1 ⟨v1, rfl, ho1, hb1⟩
  have HR1 := Lib.hid ho1.row
  obtain ⟨q1, kk1, rfl, kq1, kq2⟩ := ho1.formN HL.out
  obtain ⟨g, rfl, hg1, hg2⟩ := ho1.addr HL.out (by omega)
  have HO1 := Lib.hid ho1; clear ho1
  have hz1 := hb1.size
  go_wp2_with fail
  with_reducible refine (HBG.out _ _ HR1.out).mono ?_
  rintro e w2 ⟨bo, co, cb, cc, rfl, r1, r2, hb2⟩
  have hbw2 : Below w.heap.size w w2 := hb1.trans (hb2.mono hb1.size)
  have o2 := HO1.out.below hb2
  have hz2 := hb2.size
  clear hb1 HR1 HO1
  go_wp2_with fail
  have D1 := HasBlock.made w2 #[.slice bo 4 cb, .slice co 4 cc, .int .i64 0] 24
  have o3 := o2.alloc (.cells #[.slice bo 4 cb, .slice co 4 cc, .int .i64 0] 24)
  have s1 := OwnEnc.lower (base' := g + 1) (r1.alloc (.cells #[.slice bo 4 cb, .slice co 4 cc, .int .i64 0] 24)) (by omega)
  have s2 := OwnEnc.lower (base' := g + 1) (r2.alloc (.cells #[.slice bo 4 cb, .slice co 4 cc, .int .i64 0] 24)) (by omega)
  have hbw3 : Below w.heap.size w (w2.alloc (.cells #[.slice bo 4 cb, .slice co 4 cc, .int .i64 0] 24)) := (by repeat (first | with_reducible exact Below.refl _ _ | with_reducible refine Below.drew ?_ | (with_reducible refine Below.alloc ?_ (by first | exact Nat.le_refl _ | omega | (simp only [sizes]; omega)) _) | (with_reducible refine Below.setCell ?_ (by first | exact Nat.le_refl _ | omega | (simp only [sizes]; omega)) _) | (refine Below.trans ?_ (Below.mono (by with_reducible assumption) (by first | exact Nat.le_refl _ | omega | (simp only [sizes]; omega))))))
  clear o2 r1 r2 hbw2 hb2
  obtain ⟨B, hB⟩ : ∃ B, w2.heap.size = B := ⟨_, rfl⟩
  have hBg : g < B := by omega
  rw [hB] at D1 hz2 ⊢
  clear hB
  generalize hW : w2.alloc (.cells #[.slice bo 4 cb, .slice co 4 cc, .int .i64 0] 24) = w3 at D1 o3 s1 s2 hbw3 ⊢
  clear hW
  have O3 := Lib.hid o3; clear o3
  have S1' := Lib.hid s1; clear s1
  have S2' := Lib.hid s2; clear s2
  go_loopw [8, 9] (fun cv i wr => ∃ (k cn : Nat) (L T : List ByteArray) (eo fo : Option Addr) (ec fc : Nat), k ≤ N ∧ cn ≤ 4 ∧ i = .int .i64 k ∧ cv = .int .i64 cn ∧ Hid (L.length = 4) ∧ Hid (T.length = 4) ∧ Hid (validB L T cn = true) ∧ HasBlock wr B #[.slice eo 4 ec, .slice fo 4 fc, .int .i64 cn] 24 ∧ OwnStr w.heap.size wr (.slice (some ⟨g, 0, none⟩) 4 kk1) L ∧ OwnStr (g + 1) wr (.slice eo 4 ec) L ∧ OwnStr (g + 1) wr (.slice fo 4 fc) T ∧ Below w.heap.size w wr) (fun _ i _ => N - (intOf i).toNat)
  case atStart => exact ⟨0, 0, S, Z, bo, co, cb, cc, Nat.zero_le _, by omega, rfl, rfl, HL.out, HZL.out, HVAL.out, D1, O3.out, S1'.out, S2'.out, hbw3⟩
  case round =>
    obtain ⟨k, cn, L, T, eo, fo, ec, fc, hk, hcn, rfl, rfl, HLL, HTL, HV, E1, t1, t2, t3, hbw⟩ := hrel
    clear D1 O3 S1' S2' hbw3 HL HZL HVAL
    have hsz0 := hbw.size
    have T1 := Lib.hid t1; clear t1
    have T2 := Lib.hid t2; clear t2
    have T3 := Lib.hid t3; clear t3
    have x0 := (E1.cell 0).trans rfl
    have x1 := (E1.cell 1).trans rfl
    have x2 := (E1.cell 2).trans rfl
    have xf := E1.free
    have xz := E1.lt
    by_cases hlt : k < N
    · obtain ⟨x, hx⟩ := get_lt (xs := ls) (k := k) (by rw [HN.out]; exact hlt)
      have hxb := HB.out x (List.mem_of_getElem? hx)
      obtain ⟨b, off, rfl, hbs, hbc⟩ := a3.resolve_left (by omega)
      have hcx := (hbw.cell (p := ⟨b, off + k, none⟩) hbs).trans (hbc k x hx)
      clear hx hbc a3
      have v1 := Int.emod_nonneg x (show (3 : Int) ≠ 0 by omega)
      have v2 := Int.emod_lt_of_pos x (show (0 : Int) < 3 by omega)
      have R := fun w => round_any x 3 w hxb (by omega) (by omega)
      obtain ⟨p, hp⟩ : ∃ v : Nat, x % 3 = v := ⟨(x % 3).toNat, by omega⟩
      rw [hp] at R v1 v2
      have HR := Lib.hid R; clear R hp
      go_wp2_with fail
      refine (HR.out _).mono ?_
      rintro e w4 ⟨rfl, hb4⟩
      have F1 := E1.below hb4
      have hbw4 := hbw.trans (hb4.mono hbw.size)
      have hcx4 := (hb4.cell (p := ⟨b, off + k, none⟩) (show b < wr.heap.size by omega)).trans hcx
      have u1 := Lib.hid (T1.out.below hb4)
      have u2 := Lib.hid (T2.out.below hb4)
      have u3 := Lib.hid (T3.out.below hb4)
      have hz4 := hbw4.size
      clear x0 x1 x2 xf xz
      clear E1 hb4 hbw T1 T2 T3 hcx
      have x0 := (F1.cell 0).trans rfl
      have x1 := (F1.cell 1).trans rfl
      have x2 := (F1.cell 2).trans rfl
      have xf := F1.free
      have xz := F1.lt
      by_cases hp0 : p = 0
      · subst hp0
        have hcp := keep_copy HLL.out HV.out
        have hvv := copy_valid (q := 1) HV.out
        have htt := (cpT_len L T cn 1).trans HTL.out
        have CP := fun vs vt w h1 h2 => kcopy L T cn 1 HLL.out HTL.out HV.out (by omega) vs vt w h1 h2
        obtain ⟨T', hT'⟩ : ∃ T', cpT L T cn 1 = T' := ⟨_, rfl⟩
        obtain ⟨c', hc'⟩ : ∃ c', (if cn < 4 then cn + 1 else 4) = c' := ⟨_, rfl⟩
        rw [hc'] at hcp
        rw [hT', hcp] at hvv CP
        rw [hT'] at htt
        have hc4 : c' ≤ 4 := by rw [← hc']; split <;> omega
        have hmin : c' = min (cn + 1) 4 := by rw [← hc']; split <;> omega
        have HMIN := Lib.hid hmin
        have HCP := Lib.hid CP; clear CP
        have HVV := Lib.hid hvv; clear hvv
        have HTT := Lib.hid htt; clear htt
        clear hT' hcp hmin hc'
        go_wp2_with fail
        with_reducible refine (HCP.out _ _ _ u2.out.row u3.out.row).mono ?_
        rintro e w5 ⟨go', ho, gc, hc, rfl, r1, r2, hb5⟩
        have E1 := F1.below hb5
        have hbw5 := hbw4.trans (hb5.mono hbw4.size)
        have t1 := Lib.hid (u1.out.below hb5)
        have hgs := (World.ownsRow.lt u1.out.raw g rfl).2
        have t2 := Lib.hid (OwnEnc.lower (base' := g + 1) r1 (by omega))
        have t3 := Lib.hid (OwnEnc.lower (base' := g + 1) r2 (by omega))
        clear x0 x1 x2 xf xz
        clear F1 hb5 hbw4 u1 u2 u3 r1 r2
        have x0 := (E1.cell 0).trans rfl
        have x1 := (E1.cell 1).trans rfl
        have x2 := (E1.cell 2).trans rfl
        have xf := E1.free
        have xz := E1.lt
        have hst : Below w.heap.size w (((w5.setCell ⟨B, 0, none⟩ (.slice go' 4 gc)).setCell ⟨B, 1, none⟩ (.slice ho 4 hc)).setCell ⟨B, 2, none⟩ (.int .i64 c')) := (by repeat (first | with_reducible exact Below.refl _ _ | with_reducible refine Below.drew ?_ | (with_reducible refine Below.alloc ?_ (by first | exact Nat.le_refl _ | omega | (dsimp only; omega) | (simp only [sizes]; omega)) _) | (with_reducible refine Below.setCell ?_ (by first | exact Nat.le_refl _ | omega | (dsimp only; omega) | (simp only [sizes]; omega)) _) | (refine Below.trans ?_ (Below.mono (by with_reducible assumption) (by first | exact Nat.le_refl _ | omega | (dsimp only; omega) | (simp only [sizes]; omega))))))
        go_upto_region 20 with (fail)
        have hmm : min ((cn : Int) + 1) 4 = (c' : Int) := by have := HMIN.out; omega
        rw [hmm]
        clear hmm hcx4
        have F1 := HasBlock.store3 (y0 := .slice go' 4 gc) (y1 := .slice ho 4 hc) (y2 := .int .i64 (c' : Int)) E1
        have u1 := Lib.hid (own_store3 t1.out E1 (by decide) (.slice go' 4 gc) (.slice ho 4 hc) (.int .i64 (c' : Int)))
        have u2 := Lib.hid (own_store3 t2.out E1 (by decide) (.slice go' 4 gc) (.slice ho 4 hc) (.int .i64 (c' : Int)))
        have u3 := Lib.hid (own_store3 t3.out E1 (by decide) (.slice go' 4 gc) (.slice ho 4 hc) (.int .i64 (c' : Int)))
        clear x0 x1 x2 xf xz
        clear E1 t1 t2 t3 hbw5
        generalize hW : ((w5.setCell ⟨B, 0, none⟩ (.slice go' 4 gc)).setCell ⟨B, 1, none⟩ (.slice ho 4 hc)).setCell ⟨B, 2, none⟩ (.int .i64 (c' : Int)) = w6 at F1 u1 u2 u3 hst ⊢
        clear hW
        have hbw6 := hst
        clear hst
        by_cases h4 : c' = 4
        · have e1 : ((c' : Int) == 4) = true := by rw [beq_iff_eq]; omega
          have e2 : (c' == 4) = true := by rw [beq_iff_eq]; omega
          have SW := fun vs vt w h1 h2 => kswitch_all L T' c' HLL.out HVV.out h4 vs vt w h1 h2
          have HSW := Lib.hid SW; clear SW h4
          have x0 := (F1.cell 0).trans rfl
          have x1 := (F1.cell 1).trans rfl
          have x2 := (F1.cell 2).trans rfl
          have xf := F1.free
          have xz := F1.lt
          go_wp2_with fail
          with_reducible refine (kvalid L T' c' HVV.out _ _ _ u2.out.row u3.out.row).mono ?_
          rintro e w7 ⟨rfl, hb7⟩
          replace F1 := F1.below hb7
          have y1 := Lib.hid (u1.out.below hb7)
          have y2 := Lib.hid (u2.out.below hb7)
          have y3 := Lib.hid (u3.out.below hb7)
          have hbw7 := hbw6.trans (hb7.mono hbw6.size)
          clear x0 x1 x2 xf xz
          clear hb7 hbw6 u1 u2 u3
          have u1 := y1
          have u2 := y2
          have u3 := y3
          clear y1 y2 y3
          have x0 := (F1.cell 0).trans rfl
          have x1 := (F1.cell 1).trans rfl
          have x2 := (F1.cell 2).trans rfl
          have xf := F1.free
          have xz := F1.lt
          go_wp2_with fail
          with_reducible refine (same_row _ _ L _ u2.out.row u1.out.row).mono ?_
          rintro e w8 ⟨rfl, hb8⟩
          replace F1 := F1.below hb8
          have y1 := Lib.hid (u1.out.below hb8)
          have y2 := Lib.hid (u2.out.below hb8)
          have y3 := Lib.hid (u3.out.below hb8)
          have hbw8 := hbw7.trans (hb8.mono hbw7.size)
          clear x0 x1 x2 xf xz
          clear hb8 hbw7 u1 u2 u3
          have u1 := y1
          have u2 := y2
          have u3 := y3
          clear y1 y2 y3
          have x0 := (F1.cell 0).trans rfl
          have x1 := (F1.cell 1).trans rfl
          have x2 := (F1.cell 2).trans rfl
          have xf := F1.free
          have xz := F1.lt
          go_wp2_with fail
          with_reducible refine (HSW.out _ _ _ u2.out.row u3.out.row).mono ?_
          rintro e w9 ⟨po, pc, rfl, hrow, hb9⟩
          replace F1 := F1.below hb9
          have y1 := Lib.hid (u1.out.below hb9)
          have y2 := Lib.hid (u2.out.below hb9)
          have y3 := Lib.hid (u3.out.below hb9)
          have hbw9 := hbw8.trans (hb9.mono hbw8.size)
          clear x0 x1 x2 xf xz
          clear hb9 hbw8 u1 u2 u3
          have u1 := y1
          have u2 := y2
          have u3 := y3
          clear y1 y2 y3
          have x0 := (F1.cell 0).trans rfl
          have x1 := (F1.cell 1).trans rfl
          have x2 := (F1.cell 2).trans rfl
          have xf := F1.free
          have xz := F1.lt
          go_wp2_with fail
          with_reducible refine (same_row _ _ L _ hrow u1.out.row).mono ?_
          rintro e w10 ⟨rfl, hb10⟩
          clear hrow
          replace F1 := F1.below hb10
          have y1 := Lib.hid (u1.out.below hb10)
          have y2 := Lib.hid (u2.out.below hb10)
          have y3 := Lib.hid (u3.out.below hb10)
          have hbw10 := hbw9.trans (hb10.mono hbw9.size)
          clear x0 x1 x2 xf xz
          clear hb10 hbw9 u1 u2 u3
          have u1 := y1
          have u2 := y2
          have u3 := y3
          clear y1 y2 y3
          have x0 := (F1.cell 0).trans rfl
          have x1 := (F1.cell 1).trans rfl
          have x2 := (F1.cell 2).trans rfl
          have xf := F1.free
          have xz := F1.lt
          go_wp2_with fail
          go_roundw
          case rel => exact ⟨k + 1, c', L, T', _, _, _, _, by omega, by omega, by go_num, rfl, HLL.out, HTT.out, HVV.out, F1, u1.out, u2.out, u3.out, (by repeat (first | with_reducible exact Below.refl _ _ | with_reducible refine Below.drew ?_ | (with_reducible refine Below.alloc ?_ (by first | exact Nat.le_refl _ | omega | (dsimp only; omega) | (simp only [sizes]; omega)) _) | (with_reducible refine Below.setCell ?_ (by first | exact Nat.le_refl _ | omega | (dsimp only; omega) | (simp only [sizes]; omega)) _) | (refine Below.trans ?_ (Below.mono (by with_reducible assumption) (by first | exact Nat.le_refl _ | omega | (dsimp only; omega) | (simp only [sizes]; omega))))))⟩
          case measure => simp [intOf]; omega
        · have e1 : ((c' : Int) == 4) = false := by rw [beq_eq_false_iff_ne]; omega
          have e2 : (c' == 4) = false := by rw [beq_eq_false_iff_ne]; omega
          have SW := fun vs vt w h1 h2 => kswitch_no L T' c' HLL.out HVV.out (by omega) vs vt w h1 h2
          have HSW := Lib.hid SW; clear SW
          have x0 := (F1.cell 0).trans rfl
          have x1 := (F1.cell 1).trans rfl
          have x2 := (F1.cell 2).trans rfl
          have xf := F1.free
          have xz := F1.lt
          go_wp2_with fail
          with_reducible refine (kvalid L T' c' HVV.out _ _ _ u2.out.row u3.out.row).mono ?_
          rintro e w7 ⟨rfl, hb7⟩
          replace F1 := F1.below hb7
          have y1 := Lib.hid (u1.out.below hb7)
          have y2 := Lib.hid (u2.out.below hb7)
          have y3 := Lib.hid (u3.out.below hb7)
          have hbw7 := hbw6.trans (hb7.mono hbw6.size)
          clear x0 x1 x2 xf xz
          clear hb7 hbw6 u1 u2 u3
          have u1 := y1
          have u2 := y2
          have u3 := y3
          clear y1 y2 y3
          have x0 := (F1.cell 0).trans rfl
          have x1 := (F1.cell 1).trans rfl
          have x2 := (F1.cell 2).trans rfl
          have xf := F1.free
          have xz := F1.lt
          go_wp2_with fail
          with_reducible refine (same_row _ _ L _ u2.out.row u1.out.row).mono ?_
          rintro e w8 ⟨rfl, hb8⟩
          replace F1 := F1.below hb8
          have y1 := Lib.hid (u1.out.below hb8)
          have y2 := Lib.hid (u2.out.below hb8)
          have y3 := Lib.hid (u3.out.below hb8)
          have hbw8 := hbw7.trans (hb8.mono hbw7.size)
          clear x0 x1 x2 xf xz
          clear hb8 hbw7 u1 u2 u3
          have u1 := y1
          have u2 := y2
          have u3 := y3
          clear y1 y2 y3
          have x0 := (F1.cell 0).trans rfl
          have x1 := (F1.cell 1).trans rfl
          have x2 := (F1.cell 2).trans rfl
          have xf := F1.free
          have xz := F1.lt
          go_wp2_with fail
          with_reducible refine (HSW.out _ _ _ u2.out.row u3.out.row).mono ?_
          rintro e w9 ⟨po, pc, rfl, hrow, hb9⟩
          replace F1 := F1.below hb9
          have y1 := Lib.hid (u1.out.below hb9)
          have y2 := Lib.hid (u2.out.below hb9)
          have y3 := Lib.hid (u3.out.below hb9)
          have hbw9 := hbw8.trans (hb9.mono hbw8.size)
          clear x0 x1 x2 xf xz
          clear hb9 hbw8 u1 u2 u3
          have u1 := y1
          have u2 := y2
          have u3 := y3
          clear y1 y2 y3
          have x0 := (F1.cell 0).trans rfl
          have x1 := (F1.cell 1).trans rfl
          have x2 := (F1.cell 2).trans rfl
          have xf := F1.free
          have xz := F1.lt
          clear hrow
          go_wp2_with fail
          go_roundw
          case rel => exact ⟨k + 1, c', L, T', _, _, _, _, by omega, by omega, by go_num, rfl, HLL.out, HTT.out, HVV.out, F1, u1.out, u2.out, u3.out, (by repeat (first | with_reducible exact Below.refl _ _ | with_reducible refine Below.drew ?_ | (with_reducible refine Below.alloc ?_ (by first | exact Nat.le_refl _ | omega | (dsimp only; omega) | (simp only [sizes]; omega)) _) | (with_reducible refine Below.setCell ?_ (by first | exact Nat.le_refl _ | omega | (dsimp only; omega) | (simp only [sizes]; omega)) _) | (refine Below.trans ?_ (Below.mono (by with_reducible assumption) (by first | exact Nat.le_refl _ | omega | (dsimp only; omega) | (simp only [sizes]; omega))))))⟩
          case measure => simp [intOf]; omega
      · have hpe : ((p : Int) == 0) = false := by rw [beq_eq_false_iff_ne]; omega
        have hpe2 : (p == 0) = false := by rw [beq_eq_false_iff_ne]; omega
        have hx3 := tdiv_bd hxb
        have w1' := Int.emod_nonneg (x.tdiv 3) (show (4 : Int) ≠ 0 by omega)
        have w2' := Int.emod_lt_of_pos (x.tdiv 3) (show (0 : Int) < 4 by omega)
        have R2 := fun w => round_any (x.tdiv 3) 4 w hx3 (by omega) (by omega)
        obtain ⟨j, hj⟩ : ∃ v : Nat, x.tdiv 3 % 4 = v := ⟨(x.tdiv 3 % 4).toNat, by omega⟩
        rw [hj] at R2 w1' w2'
        have hj4 : j < 4 := by omega
        have HR2 := Lib.hid R2; clear R2 hj w1' w2' hx3
        have DT : ∀ w, Calls Try.prog 23 #[.int .i64 x, .int .i64 128] w (Ret w (.string (dataS x 128))) := fun w => data_any x 128 w (by omega) (by omega)
        have hds := dataS_size x 128
        obtain ⟨d, hd⟩ : ∃ d, dataS x 128 = d := ⟨_, rfl⟩
        rw [hd] at DT hds
        have HDT := Lib.hid DT; clear DT hd
        have hvv := write_valid (b := (j : Int)) (d := d) HV.out
        rw [(keep_write HLL.out HV.out hj4 hds).2] at hvv
        have htt := (wT_len L T cn j d).trans HTL.out
        have KW := fun vs vt w h1 h2 => kwrite L T cn j d HLL.out HTL.out HV.out hj4 hds vs vt w h1 h2
        obtain ⟨T', hT'⟩ : ∃ T', wT L T cn j d = T' := ⟨_, rfl⟩
        rw [hT'] at hvv htt KW
        have hll : (L.set j d).length = 4 := (List.length_set ..).trans HLL.out
        have HKW := Lib.hid KW; clear KW
        have HVV := Lib.hid hvv; clear hvv
        have HTT := Lib.hid htt; clear htt
        have HL2 := Lib.hid hll; clear hll
        clear hT' hds
        go_wp2_with fail
        refine (HR2.out _).mono ?_
        rintro e w5 ⟨rfl, hb5⟩
        have hcx5 := (hb5.cell (p := ⟨b, off + k, none⟩) (show b < w4.heap.size by omega)).trans hcx4
        replace F1 := F1.below hb5
        have y1 := Lib.hid (u1.out.below hb5)
        have y2 := Lib.hid (u2.out.below hb5)
        have y3 := Lib.hid (u3.out.below hb5)
        have hbw5 := hbw4.trans (hb5.mono hbw4.size)
        clear x0 x1 x2 xf xz
        clear hb5 hbw4 u1 u2 u3
        have u1 := y1
        have u2 := y2
        have u3 := y3
        clear y1 y2 y3
        have x0 := (F1.cell 0).trans rfl
        have x1 := (F1.cell 1).trans rfl
        have x2 := (F1.cell 2).trans rfl
        have xf := F1.free
        have xz := F1.lt
        clear hcx4
        have hz5 := hbw5.size
        go_wp2_with fail
        refine (HDT.out _).mono ?_
        rintro e w6 ⟨rfl, hb6⟩
        replace F1 := F1.below hb6
        have y1 := Lib.hid (u1.out.below hb6)
        have y2 := Lib.hid (u2.out.below hb6)
        have y3 := Lib.hid (u3.out.below hb6)
        have hbw6 := hbw5.trans (hb6.mono hbw5.size)
        clear x0 x1 x2 xf xz
        clear hb6 hbw5 u1 u2 u3
        have u1 := y1
        have u2 := y2
        have u3 := y3
        clear y1 y2 y3
        have x0 := (F1.cell 0).trans rfl
        have x1 := (F1.cell 1).trans rfl
        have x2 := (F1.cell 2).trans rfl
        have xf := F1.free
        have xz := F1.lt
        obtain ⟨y, hy⟩ := get_lt (xs := L) (k := j) (by rw [HLL.out]; exact hj4)
        obtain ⟨c1, c2⟩ := u1.out.at hy
        have hgs := (World.ownsRow.lt u1.out.raw g rfl).2
        clear hy hcx5
        go_upto_region 16 with (fail)
        have y1 := Lib.hid (u1.out.put j d)
        have y2 := Lib.hid (u2.out.setne (fun e => absurd (World.ownsRow.lt u2.out.raw g e).1 (by omega)) (b := g) (j := j) (.string d))
        have y3 := Lib.hid (u3.out.setne (fun e => absurd (World.ownsRow.lt u3.out.raw g e).1 (by omega)) (b := g) (j := j) (.string d))
        have E1 := F1.set_ne (b' := g) (j := j) (by omega) (.string d)
        have hbw7 : Below w.heap.size w (w6.setCell ⟨g, j, none⟩ (.string d)) := (by repeat (first | with_reducible exact Below.refl _ _ | with_reducible refine Below.drew ?_ | (with_reducible refine Below.alloc ?_ (by first | exact Nat.le_refl _ | omega | (dsimp only; omega) | (simp only [sizes]; omega)) _) | (with_reducible refine Below.setCell ?_ (by first | exact Nat.le_refl _ | omega | (dsimp only; omega) | (simp only [sizes]; omega)) _) | (refine Below.trans ?_ (Below.mono (by with_reducible assumption) (by first | exact Nat.le_refl _ | omega | (dsimp only; omega) | (simp only [sizes]; omega))))))
        clear x0 x1 x2 xf xz
        clear F1 u1 u2 u3 hbw6 c1 c2
        generalize hW : w6.setCell ⟨g, j, none⟩ (.string d) = w7 at y1 y2 y3 E1 hbw7 ⊢
        have hgs7 : g < w7.heap.size := by rw [← hW, World.size_setCell]; exact hgs
        clear hW hgs
        have hyd : (L.set j d)[j]? = some d := by rw [List.getElem?_set, if_pos rfl, if_pos (by rw [HLL.out]; exact hj4)]
        obtain ⟨c1, c2⟩ := y1.out.at hyd
        clear hyd
        have x0 := (E1.cell 0).trans rfl
        have x1 := (E1.cell 1).trans rfl
        have x2 := (E1.cell 2).trans rfl
        have xf := E1.free
        have xz := E1.lt
        have hj0 : (0 : Int) ≤ (j : Int) := by omega
        have hjb : (j : Int) < 4 := by omega
        have hrule : ∀ w' : World, Below w7.heap.size w7 w' → ∀ b o, b < w7.heap.size → w'.cell? ⟨b, o, none⟩ = w7.cell? ⟨b, o, none⟩ := fun w' h b o hlt => h.cell (p := ⟨b, o, none⟩) hlt
        go_region_held3 (fun w' => Below w7.heap.size w7 w') (repeat (first | with_reducible assumption | with_reducible exact Below.refl _ _ | (with_reducible refine Below.drew ?_) | (with_reducible refine Below.alloc' ?_ _) | (with_reducible refine Below.setCell ?_ (by first | exact Nat.le_refl _ | omega) _) | (refine Below.step ?_ (by with_reducible assumption)))) ((go_at_call 10; refine (HKW.out _ _ _ (y2.out.row.below (by first | with_reducible assumption | exact Below.drew (Below.refl _ _) | exact Below.refl _ _)) (y3.out.row.below (by first | with_reducible assumption | exact Below.drew (Below.refl _ _) | exact Below.refl _ _))).mono ?_; rintro e w8 ⟨go', ho, gc, hc, rfl, r1, r2, hb8⟩; obtain ⟨hc8, hf8⟩ := bcell hb8; have hz8 := bsize hb8; (try simp only [sizes1] at hz8); try simp only [sizes] at hc8 hf8))
        all_goals
          clear hrule
          have xz2 : B < w7.heap.size + 1 := by omega
          have xz8 : B < w8.heap.size := by omega
          go_upto_region 20 with (fail)
          refine wp_gen (fun wx => HasBlock wx B #[.slice go' 4 gc, .slice ho 4 hc, .int .i64 (cn : Int)] 24 ∧ OwnStr w.heap.size wx (.slice (some ⟨g, 0, none⟩) 4 kk1) (L.set j d) ∧ OwnStr (g + 1) wx (.slice go' 4 gc) (L.set j d) ∧ OwnStr (g + 1) wx (.slice ho 4 hc) T' ∧ Below w.heap.size w wx) ?_ ?_
          · have z1 := y1.out
            have z2 := y2.out
            have z3 := y3.out
            refine ⟨?_, ?_, ?_, ?_, ?_⟩
            · repeat (first | with_reducible assumption | (with_reducible refine HasBlock.drew ?_) | (with_reducible refine HasBlock.alloc ?_ _) | (with_reducible refine HasBlock.store3 (x0 := .slice eo 4 ec) (x1 := .slice fo 4 fc) (x2 := .int .i64 (cn : Int)) ?_) | (with_reducible refine HasBlock.set_ne ?_ (by omega) _) | (with_reducible refine HasBlock.below ?_ hb8))
            · repeat (first | with_reducible assumption | (with_reducible refine OwnEnc.drew ?_) | (with_reducible refine OwnEnc.alloc ?_ _) | (with_reducible refine OwnEnc.setne ?_ (own_ne (by omega)) _) | (with_reducible refine OwnEnc.below ?_ hb8))
            · have hg8 : g + 1 ≤ w7.heap.size := hgs7
              have r1' := OwnEnc.lower (base' := w7.heap.size) r1 (by first | exact Nat.le_refl _ | (simp only [sizes]; omega))
              refine OwnEnc.lower (base := w7.heap.size) ?_ hg8
              repeat (first | with_reducible assumption | (with_reducible refine OwnEnc.alloc ?_ _) | (with_reducible refine OwnEnc.setne ?_ (own_gt (OwnEnc.raw r1) (by first | omega | (simp only [sizes]; omega))) _))
            · have hg8 : g + 1 ≤ w7.heap.size := hgs7
              have r2' := OwnEnc.lower (base' := w7.heap.size) r2 (by first | exact Nat.le_refl _ | (simp only [sizes]; omega))
              refine OwnEnc.lower (base := w7.heap.size) ?_ hg8
              repeat (first | with_reducible assumption | (with_reducible refine OwnEnc.alloc ?_ _) | (with_reducible refine OwnEnc.setne ?_ (own_gt (OwnEnc.raw r2) (by first | omega | (simp only [sizes]; omega))) _))
            · have hz7 := hbw7.size
              exact (by repeat (first | with_reducible exact Below.refl _ _ | with_reducible refine Below.drew ?_ | (with_reducible refine Below.alloc ?_ (by first | exact Nat.le_refl _ | omega | (dsimp only; omega) | (simp only [sizes]; omega)) _) | (with_reducible refine Below.setCell ?_ (by first | exact Nat.le_refl _ | omega | (dsimp only; omega) | (simp only [sizes]; omega)) _) | (refine Below.trans ?_ (Below.mono (by with_reducible assumption) (by first | exact Nat.le_refl _ | omega | (dsimp only; omega) | (simp only [sizes]; omega))))))
          rintro w6 ⟨F1, q1, q2, q3, hbw6⟩
          have u1 := Lib.hid q1
          have u2 := Lib.hid q2
          have u3 := Lib.hid q3
          clear q1 q2 q3 y1 y2 y3 r1 r2 E1 hb8 hc8 hf8 hz8 hbw7 c1 c2 hgs7
          clear x0 x1 x2 xf xz
          by_cases h4 : cn = 4
          · have e1 : ((cn : Int) == 4) = true := by rw [beq_iff_eq]; omega
            have e2 : (cn == 4) = true := by rw [beq_iff_eq]; omega
            have SW := fun vs vt w h1 h2 => kswitch_all (L.set j d) T' cn HL2.out HVV.out h4 vs vt w h1 h2
            have HSW := Lib.hid SW; clear SW h4
            have x0 := (F1.cell 0).trans rfl
            have x1 := (F1.cell 1).trans rfl
            have x2 := (F1.cell 2).trans rfl
            have xf := F1.free
            have xz := F1.lt
            go_wp2_with fail
            with_reducible refine (kvalid (L.set j d) T' cn HVV.out _ _ _ u2.out.row u3.out.row).mono ?_
            rintro e w7 ⟨rfl, hb7⟩
            replace F1 := F1.below hb7
            have y1 := Lib.hid (u1.out.below hb7)
            have y2 := Lib.hid (u2.out.below hb7)
            have y3 := Lib.hid (u3.out.below hb7)
            have hbw7 := hbw6.trans (hb7.mono hbw6.size)
            clear x0 x1 x2 xf xz
            clear hb7 hbw6 u1 u2 u3
            have u1 := y1
            have u2 := y2
            have u3 := y3
            clear y1 y2 y3
            have x0 := (F1.cell 0).trans rfl
            have x1 := (F1.cell 1).trans rfl
            have x2 := (F1.cell 2).trans rfl
            have xf := F1.free
            have xz := F1.lt
            go_wp2_with fail
            with_reducible refine (same_row _ _ (L.set j d) _ u2.out.row u1.out.row).mono ?_
            rintro e w8 ⟨rfl, hb8⟩
            replace F1 := F1.below hb8
            have y1 := Lib.hid (u1.out.below hb8)
            have y2 := Lib.hid (u2.out.below hb8)
            have y3 := Lib.hid (u3.out.below hb8)
            have hbw8 := hbw7.trans (hb8.mono hbw7.size)
            clear x0 x1 x2 xf xz
            clear hb8 hbw7 u1 u2 u3
            have u1 := y1
            have u2 := y2
            have u3 := y3
            clear y1 y2 y3
            have x0 := (F1.cell 0).trans rfl
            have x1 := (F1.cell 1).trans rfl
            have x2 := (F1.cell 2).trans rfl
            have xf := F1.free
            have xz := F1.lt
            go_wp2_with fail
            with_reducible refine (HSW.out _ _ _ u2.out.row u3.out.row).mono ?_
            rintro e w9 ⟨po, pc, rfl, hrow, hb9⟩
            replace F1 := F1.below hb9
            have y1 := Lib.hid (u1.out.below hb9)
            have y2 := Lib.hid (u2.out.below hb9)
            have y3 := Lib.hid (u3.out.below hb9)
            have hbw9 := hbw8.trans (hb9.mono hbw8.size)
            clear x0 x1 x2 xf xz
            clear hb9 hbw8 u1 u2 u3
            have u1 := y1
            have u2 := y2
            have u3 := y3
            clear y1 y2 y3
            have x0 := (F1.cell 0).trans rfl
            have x1 := (F1.cell 1).trans rfl
            have x2 := (F1.cell 2).trans rfl
            have xf := F1.free
            have xz := F1.lt
            go_wp2_with fail
            with_reducible refine (same_row _ _ (L.set j d) _ hrow u1.out.row).mono ?_
            rintro e w10 ⟨rfl, hb10⟩
            clear hrow
            replace F1 := F1.below hb10
            have y1 := Lib.hid (u1.out.below hb10)
            have y2 := Lib.hid (u2.out.below hb10)
            have y3 := Lib.hid (u3.out.below hb10)
            have hbw10 := hbw9.trans (hb10.mono hbw9.size)
            clear x0 x1 x2 xf xz
            clear hb10 hbw9 u1 u2 u3
            have u1 := y1
            have u2 := y2
            have u3 := y3
            clear y1 y2 y3
            have x0 := (F1.cell 0).trans rfl
            have x1 := (F1.cell 1).trans rfl
            have x2 := (F1.cell 2).trans rfl
            have xf := F1.free
            have xz := F1.lt
            go_wp2_with fail
            go_roundw
            case rel => exact ⟨k + 1, cn, (L.set j d), T', _, _, _, _, by omega, by omega, by go_num, rfl, HL2.out, HTT.out, HVV.out, F1, u1.out, u2.out, u3.out, (by repeat (first | with_reducible exact Below.refl _ _ | with_reducible refine Below.drew ?_ | (with_reducible refine Below.alloc ?_ (by first | exact Nat.le_refl _ | omega | (dsimp only; omega) | (simp only [sizes]; omega)) _) | (with_reducible refine Below.setCell ?_ (by first | exact Nat.le_refl _ | omega | (dsimp only; omega) | (simp only [sizes]; omega)) _) | (refine Below.trans ?_ (Below.mono (by with_reducible assumption) (by first | exact Nat.le_refl _ | omega | (dsimp only; omega) | (simp only [sizes]; omega))))))⟩
            case measure => simp [intOf]; omega
          · have e1 : ((cn : Int) == 4) = false := by rw [beq_eq_false_iff_ne]; omega
            have e2 : (cn == 4) = false := by rw [beq_eq_false_iff_ne]; omega
            have SW := fun vs vt w h1 h2 => kswitch_no (L.set j d) T' cn HL2.out HVV.out (by omega) vs vt w h1 h2
            have HSW := Lib.hid SW; clear SW
            have x0 := (F1.cell 0).trans rfl
            have x1 := (F1.cell 1).trans rfl
            have x2 := (F1.cell 2).trans rfl
            have xf := F1.free
            have xz := F1.lt
            go_wp2_with fail
            with_reducible refine (kvalid (L.set j d) T' cn HVV.out _ _ _ u2.out.row u3.out.row).mono ?_
            rintro e w7 ⟨rfl, hb7⟩
            replace F1 := F1.below hb7
            have y1 := Lib.hid (u1.out.below hb7)
            have y2 := Lib.hid (u2.out.below hb7)
            have y3 := Lib.hid (u3.out.below hb7)
            have hbw7 := hbw6.trans (hb7.mono hbw6.size)
            clear x0 x1 x2 xf xz
            clear hb7 hbw6 u1 u2 u3
            have u1 := y1
            have u2 := y2
            have u3 := y3
            clear y1 y2 y3
            have x0 := (F1.cell 0).trans rfl
            have x1 := (F1.cell 1).trans rfl
            have x2 := (F1.cell 2).trans rfl
            have xf := F1.free
            have xz := F1.lt
            go_wp2_with fail
            with_reducible refine (same_row _ _ (L.set j d) _ u2.out.row u1.out.row).mono ?_
            rintro e w8 ⟨rfl, hb8⟩
            replace F1 := F1.below hb8
            have y1 := Lib.hid (u1.out.below hb8)
            have y2 := Lib.hid (u2.out.below hb8)
            have y3 := Lib.hid (u3.out.below hb8)
            have hbw8 := hbw7.trans (hb8.mono hbw7.size)
            clear x0 x1 x2 xf xz
            clear hb8 hbw7 u1 u2 u3
            have u1 := y1
            have u2 := y2
            have u3 := y3
            clear y1 y2 y3
            have x0 := (F1.cell 0).trans rfl
            have x1 := (F1.cell 1).trans rfl
            have x2 := (F1.cell 2).trans rfl
            have xf := F1.free
            have xz := F1.lt
            go_wp2_with fail
            with_reducible refine (HSW.out _ _ _ u2.out.row u3.out.row).mono ?_
            rintro e w9 ⟨po, pc, rfl, hrow, hb9⟩
            replace F1 := F1.below hb9
            have y1 := Lib.hid (u1.out.below hb9)
            have y2 := Lib.hid (u2.out.below hb9)
            have y3 := Lib.hid (u3.out.below hb9)
            have hbw9 := hbw8.trans (hb9.mono hbw8.size)
            clear x0 x1 x2 xf xz
            clear hb9 hbw8 u1 u2 u3
            have u1 := y1
            have u2 := y2
            have u3 := y3
            clear y1 y2 y3
            have x0 := (F1.cell 0).trans rfl
            have x1 := (F1.cell 1).trans rfl
            have x2 := (F1.cell 2).trans rfl
            have xf := F1.free
            have xz := F1.lt
            clear hrow
            go_wp2_with fail
            go_roundw
            case rel => exact ⟨k + 1, cn, (L.set j d), T', _, _, _, _, by omega, by omega, by go_num, rfl, HL2.out, HTT.out, HVV.out, F1, u1.out, u2.out, u3.out, (by repeat (first | with_reducible exact Below.refl _ _ | with_reducible refine Below.drew ?_ | (with_reducible refine Below.alloc ?_ (by first | exact Nat.le_refl _ | omega | (dsimp only; omega) | (simp only [sizes]; omega)) _) | (with_reducible refine Below.setCell ?_ (by first | exact Nat.le_refl _ | omega | (dsimp only; omega) | (simp only [sizes]; omega)) _) | (refine Below.trans ?_ (Below.mono (by with_reducible assumption) (by first | exact Nat.le_refl _ | omega | (dsimp only; omega) | (simp only [sizes]; omega))))))⟩
            case measure => simp [intOf]; omega
    · obtain rfl : k = N := by omega
      obtain ⟨hce, hve⟩ := keep_end HLL.out HV.out
      have CP := fun vs vt w h1 h2 => kcopy L T cn 4 HLL.out HTL.out HV.out (by omega) vs vt w h1 h2
      rw [hce] at CP
      have SW := fun vs vt w h1 h2 => kswitch_yes L (cpT L T cn 4) HLL.out hve vs vt w h1 h2
      obtain ⟨T', hT'⟩ : ∃ T', cpT L T cn 4 = T' := ⟨_, rfl⟩
      rw [hT'] at CP SW
      have HCP := Lib.hid CP; clear CP
      have HSW := Lib.hid SW; clear SW hce hve hT'
      go_wp2_with fail
      with_reducible refine (HCP.out _ _ _ T2.out.row T3.out.row).mono ?_
      rintro e w5 ⟨go', ho, gc, hc, rfl, r1, r2, hb5⟩
      have hbw5 := hbw.trans (hb5.mono hbw.size)
      have t1 := T1.out.below hb5
      clear hb5 hbw
      go_wp2_with fail
      with_reducible refine (HSW.out _ _ _ r1.row r2.row).mono ?_
      rintro e w6 ⟨po, pc, rfl, hrow, hb6⟩
      have hbw6 := hbw5.trans (hb6.mono hbw5.size)
      have t2 := t1.below hb6
      clear hb6 hbw5 r1 r2 t1
      go_wp2_with fail
      with_reducible refine (same_row _ _ L _ hrow t2.row).mono ?_
      rintro e w7 ⟨rfl, hb7⟩
      have hbw7 := hbw6.trans (hb7.mono hbw6.size)
      clear hb7 hbw6 hrow t2
      go_wp2_with fail
      refine (awake_any _).mono ?_
      rintro e w8 ⟨rfl, hb8⟩
      go_wp2_with fail
      go_ret
      exact Ret.mk (hbw7.trans (hb8.mono hbw7.size))
end Go.Proofs.Ytfomfokgibijjaa
