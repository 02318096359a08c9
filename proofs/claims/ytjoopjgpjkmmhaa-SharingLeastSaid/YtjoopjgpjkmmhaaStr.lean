/-
  Slices of one-cell elements that a call clones; slices of strings held against one another.
-/
import Derived.Test.YtjoopjgpjkmmhaaRowsAt
import Derived.Laws.CopyOwn
namespace Go.Proofs.Ytjoopjgpjkmmhaa
open Go.RowKit

section
variable {α : Type} (enc : α → Value)
/-- A slice whose elements are written as 'enc' says. -/
def EncRow (w : World) (v : Value) (xs : List α) : Prop := RowAt w v xs.length (xs.map enc)
/-- The same, in memory of the call's own. -/
def OwnEnc (e : TypeId) (base : Nat) (w : World) (v : Value) (xs : List α) : Prop := w.ownsRow base e 1 v xs.length (xs.map enc)
def RetOwn (e : TypeId) (w : World) (xs : List α) (en : Ending) (w' : World) : Prop := ∃ v, en = .returned v ∧ OwnEnc enc e w.heap.size w' v xs ∧ Below w.heap.size w w'
end
theorem EncRow.below {α : Type} {enc : α → Value} {w w' : World} {v : Value} {xs : List α} (h : EncRow enc w v xs) (hb : Below w.heap.size w w') : EncRow enc w' v xs := RowAt.below h hb
theorem OwnEnc.row {α : Type} {enc : α → Value} {e : TypeId} {base : Nat} {w : World} {v : Value} {xs : List α} (h : OwnEnc enc e base w v xs) : EncRow enc w v xs := RowAt.of_owns h
theorem OwnEnc.below {α : Type} {enc : α → Value} {e : TypeId} {base : Nat} {w w' : World} {v : Value} {xs : List α} (h : OwnEnc enc e base w v xs) (hb : Below w.heap.size w w') : OwnEnc enc e base w' v xs := owns_below h hb
theorem owns_lower {w : World} {base base' : Nat} {e : TypeId} {size n : Nat} {v : Value} {xs : List Value} (h : w.ownsRow base e size v n xs) (hb : base' ≤ base) : w.ownsRow base' e size v n xs := by
  obtain ⟨h1, h2⟩ := h
  refine ⟨h1, ?_⟩
  rcases h2 with h2 | ⟨g, cap, cur, e1, e2, h3⟩
  · exact .inl h2
  · exact .inr ⟨g, cap, cur, e1, Nat.le_trans hb e2, h3⟩
theorem OwnEnc.lower {α : Type} {enc : α → Value} {e : TypeId} {base base' : Nat} {w : World} {v : Value} {xs : List α} (h : OwnEnc enc e base w v xs) (hb : base' ≤ base) : OwnEnc enc e base' w v xs := owns_lower h hb
theorem OwnEnc.alloc {α : Type} {enc : α → Value} {e : TypeId} {base : Nat} {w : World} {v : Value} {xs : List α} (h : OwnEnc enc e base w v xs) (o : Obj) : OwnEnc enc e base (w.alloc o) v xs := World.ownsRow.alloc h o
theorem EncRow.out {α : Type} {enc : α → Value} {w : World} {v : Value} {xs : List α} (h : EncRow enc w v xs) : ∃ (ao : Option Addr) (cap : Nat), v = .slice ao xs.length cap ∧ xs.length ≤ cap ∧ cap ≤ maxLen ∧
    (xs.length = 0 ∨ ∃ b off, ao = some ⟨b, off, none⟩ ∧ b < w.heap.size ∧ ∀ (i : Nat) (x : α), xs[i]? = some x → w.cell? ⟨b, off + i, none⟩ = some (enc x)) := by
  obtain ⟨ao, cap, hv, h1, h2, h3⟩ := h
  refine ⟨ao, cap, hv, h1, h2, ?_⟩
  rcases h3 with h3 | ⟨b, off, ha, hlt, hc⟩
  · exact .inl (by simpa using h3)
  · exact .inr ⟨b, off, ha, hlt, fun i x hx => hc i _ (by rw [List.getElem?_map, hx]; rfl)⟩
theorem OwnEnc.raw {α : Type} {enc : α → Value} {e : TypeId} {base : Nat} {w : World} {v : Value} {xs : List α} (h : OwnEnc enc e base w v xs) : w.ownsRow base e 1 v xs.length (xs.map enc) := h
theorem OwnEnc.form {α : Type} {enc : α → Value} {e : TypeId} {base : Nat} {w : World} {v : Value} {xs : List α} (h : OwnEnc enc e base w v xs) : ∃ (ao : Option Addr) (cap : Nat), v = .slice ao xs.length cap ∧ xs.length ≤ cap ∧ cap ≤ 9223372036854775807 := by
  rcases h.2 with ⟨rfl, h0⟩ | ⟨g, cap, cur, rfl, _, _, hn, hm, _⟩
  · have : xs = [] := by simpa using h0
    subst this
    exact ⟨none, 0, rfl, Nat.le_refl _, by omega⟩
  · exact ⟨_, cap, rfl, hn, by unfold maxLen at hm; omega⟩
theorem OwnEnc.addr {α : Type} {enc : α → Value} {e : TypeId} {base n : Nat} {w : World} {ao : Option Addr} {k : Nat} {xs : List α} (h : OwnEnc enc e base w (.slice ao n k) xs) (hn : xs.length = n) (h0 : 0 < n) : ∃ g, ao = some ⟨g, 0, none⟩ ∧ base ≤ g ∧ g < w.heap.size := by
  rcases h.2 with ⟨hv, h0'⟩ | ⟨g, cap, cur, hv, hb, hg, _⟩
  · have : xs = [] := by simpa using h0'
    subst this
    simp at hn
    omega
  · injection hv with hv
    exact ⟨g, hv, hb, (Array.getElem?_eq_some_iff.1 hg).1⟩
theorem OwnEnc.len {α : Type} {enc : α → Value} {e : TypeId} {base n k : Nat} {ao : Option Addr} {w : World} {xs : List α} (h : OwnEnc enc e base w (.slice ao n k) xs) : n = xs.length := by
  obtain ⟨ao', cap, hv, _⟩ := h.form
  injection hv
theorem OwnEnc.at {α : Type} {enc : α → Value} {e : TypeId} {base n g k : Nat} {w : World} {xs : List α} (h : OwnEnc enc e base w (.slice (some ⟨g, 0, none⟩) n k) xs) {j : Nat} {x : α} (hx : xs[j]? = some x) : w.cell? ⟨g, j, none⟩ = some (enc x) ∧ w.frozen? ⟨g, j, none⟩ = false := by
  have hj := lt_of_get hx
  obtain rfl := h.len
  refine ⟨(World.ownsRow.cellAt h j (by omega)).trans (by rw [List.getElem?_map, hx]; rfl), World.ownsRow.frozenAt h j⟩
theorem OwnEnc.put {α : Type} {enc : α → Value} {e : TypeId} {base n g k : Nat} {w : World} {xs : List α} (h : OwnEnc enc e base w (.slice (some ⟨g, 0, none⟩) n k) xs) (j : Nat) (x : α) : OwnEnc enc e base (w.setCell ⟨g, j, none⟩ (enc x)) (.slice (some ⟨g, 0, none⟩) n k) (xs.set j x) := by
  obtain rfl := h.len
  have h5 := (World.ownsRow.stored h j (enc x)).1
  unfold OwnEnc
  rw [List.length_set, List.map_set]
  exact h5
theorem add_of_none (b off j : Nat) : (⟨b, off, none⟩ : Addr).add j = ⟨b, off + j, none⟩ := by unfold Addr.add; split <;> simp_all
theorem RowAt.cells {w : World} {a : Addr} {n cap : Nat} {vals : List Value} (h : RowAt w (.slice (some a) n cap) n vals) : ∀ (j : Nat) (u : Value), vals[j]? = some u → w.cell? (a.add j) = some u := by
  obtain ⟨ao, cap', hv, _, _, h3⟩ := h
  injection hv with e1 _ e2
  subst e1
  intro j u hu
  rcases h3 with h3 | ⟨b, off, ha, _, hc⟩
  · rw [h3] at hu; simp at hu
  · injection ha with ha
    subst ha
    rw [add_of_none]
    exact hc j u hu
theorem EncRow.cells' {α : Type} {enc : α → Value} {w : World} {a : Addr} {n cap : Nat} {xs : List α} (h : EncRow enc w (.slice (some a) n cap) xs) : ∀ (j : Nat) (u : Value), (xs.map enc)[j]? = some u → w.cell? (a.add j) = some u := by
  have hn : n = xs.length := by
    obtain ⟨ao, cap, hv, _⟩ := h.out
    injection hv
  subst hn
  exact RowAt.cells h
theorem info_str : (Try.prog.info? 9).map (fun i => (i.zero, i.size, i.bytes)) = some (some (.string ⟨#[]⟩), 1, 16) := by kernel_rfl
theorem size_str : (Try.prog.info? 9).map (·.size) = some 1 := by kernel_rfl
abbrev StrRow := EncRow Value.string
abbrev OwnStr := OwnEnc Value.string 9
set_option maxHeartbeats 1000000 in
theorem clone_str (va : Value) (xs : List ByteArray) (w : World) (ha : EncRow Value.string w va xs) (hn : xs.length ≤ 1099511627776) : Calls Try.prog 49 #[va] w (RetOwn Value.string 9 w xs) := by
  obtain ⟨ao, cap, rfl, h1, h2, h3⟩ := ha.out
  obtain ⟨n, hn'⟩ : ∃ n, xs.length = n := ⟨_, rfl⟩
  have hrow : RowAt w (.slice ao n cap) n (xs.map Value.string) := by rw [← hn']; exact ha
  rw [hn'] at hn ⊢
  have HN := Lib.hid hn'; clear hn' h1 h2 ha
  have q22 : ∀ (w : World) (a : Option Addr) (n c n' c' : Nat), (binOp .eql 22 (.slice a n c) (.slice none n' c')).run Try.prog w = .ok (.bool a.isNone) w := fun w a n c n' c' => Lib.run_eql_slice_nil w _ _ a n c n' c' Try.underlying22
  cases ao with
  | none =>
    have h0 : xs = [] := by
      rcases h3 with h3 | ⟨b, off, hb, _⟩
      · exact List.eq_nil_of_length_eq_zero h3
      · cases hb
    subst h0
    clear h3 hrow HN
    go_enter Try.func49, Try.ntmps49
    go_wp2_with fail
    go_ret
    exact ⟨_, rfl, World.ownsRow_nil _ _ _ _, (by repeat (first | with_reducible exact Below.refl _ _ | with_reducible refine Below.drew ?_ | (with_reducible refine Below.alloc ?_ (by first | exact Nat.le_refl _ | omega | (simp only [sizes]; omega)) _) | (with_reducible refine Below.setCell ?_ (by first | exact Nat.le_refl _ | omega | (simp only [sizes]; omega)) _) | (refine Below.trans ?_ (Below.mono (by with_reducible assumption) (by first | exact Nat.le_refl _ | omega | (simp only [sizes]; omega))))))⟩
  | some a =>
    clear h3
    have HR := Lib.hid hrow; clear hrow
    obtain ⟨i0, hi, iz0, iz1, iz2⟩ := info_parts info_str
    go_enter Try.func49, Try.ntmps49
    go_wp2_with (at_builtin; refine wpList_append_own _ rfl _ _ 22 rfl w.heap.size 9 i0 (.string ⟨#[]⟩) 1 16 Try.underlying22 hi iz0 iz1 iz2 rfl (by decide) _ _ _ rfl (World.ownsRow_made w #[] 0 (Nat.le_refl _) (Nat.zero_le _) (by simp)) a n cap (xs.map Value.string) rfl ?qc1 ?qc2 ?qc3 ?qc4 ?qc5 ?qc6 ?_)
    case qc1 => rw [List.length_map, HN.out, Nat.mul_one]
    case qc2 => exact fun j u hj => Lib.cell?_alloc_some _ (HR.out.cells j u hj)
    case qc3 => intro u hu; rw [List.mem_map] at hu; obtain ⟨x, _, rfl⟩ := hu; rfl
    case qc4 => unfold maxLen; omega
    case qc5 => omega
    case qc6 => simp
    intro v' w1 hown hgrow _
    have HO := Lib.hid hown; clear hown
    go_wp2_with fail
    go_ret
    refine ⟨v', rfl, ?_, ?_⟩
    · unfold OwnEnc; rw [HN.out]; simpa using HO.out
    · exact ((Below.refl _ w).alloc (Nat.le_refl _) _).grown hgrow (by simp) (by intro k hk; simp [Value.ownBlock] at hk; omega)

theorem take_succ_eq {α : Type} {A B : List α} {k : Nat} {x : α} (h : A.take k = B.take k) (ha : A[k]? = some x) (hb : B[k]? = some x) : A.take (k + 1) = B.take (k + 1) := by
  rw [List.take_add_one, List.take_add_one, h, ha, hb]
theorem toList_inj {x y : ByteArray} (h : x.toList = y.toList) : x = y := by
  rw [ByteArray.toList_eq, ByteArray.toList_eq] at h
  exact ByteArray.ext (Array.toList_inj.1 h)
theorem toList_ne {x y : ByteArray} (h : x ≠ y) : (x.toList == y.toList) = false := by
  rw [beq_eq_false_iff_ne]
  exact fun e => h (toList_inj e)
set_option maxHeartbeats 1000000 in
theorem same_str (va vb : Value) (A B : List ByteArray) (w : World) (ha : StrRow w va A) (hb : StrRow w vb B) : Calls Try.prog 46 #[va, vb] w (Ret w (.bool (decide (A = B)))) := by
  obtain ⟨ao, ca, rfl, a1, a2, a3⟩ := ha.out
  obtain ⟨bo, cb, rfl, b1, b2, b3⟩ := hb.out
  unfold maxLen at a2 b2
  clear ha hb
  obtain ⟨n, hn⟩ : ∃ n, A.length = n := ⟨_, rfl⟩
  obtain ⟨m, hm⟩ : ∃ n, B.length = n := ⟨_, rfl⟩
  rw [hn] at a1 a3 ⊢
  rw [hm] at b1 b3 ⊢
  by_cases hnm : n = m
  · subst hnm
    have HN := Lib.hid hn; clear hn
    have HM := Lib.hid hm; clear hm
    go_enter Try.func46, Try.ntmps46
    go_wp2_with fail
    go_loopw [5] (fun i wr => ∃ k : Nat, k ≤ n ∧ i = .int .i64 k ∧ Hid (A.take k = B.take k) ∧ Below w.heap.size w wr) (fun i _ => n - (intOf i).toNat)
    case atStart => exact ⟨0, Nat.zero_le _, rfl, rfl, (by repeat (first | with_reducible exact Below.refl _ _ | with_reducible refine Below.drew ?_ | (with_reducible refine Below.alloc ?_ (by first | exact Nat.le_refl _ | omega | (simp only [sizes]; omega)) _) | (with_reducible refine Below.setCell ?_ (by first | exact Nat.le_refl _ | omega | (simp only [sizes]; omega)) _) | (refine Below.trans ?_ (Below.mono (by with_reducible assumption) (by first | exact Nat.le_refl _ | omega | (simp only [sizes]; omega))))))⟩
    case round =>
      obtain ⟨k, hk, rfl, hT, hbw⟩ := hrel
      by_cases hlt : k < n
      · obtain ⟨x, hx⟩ := get_lt (xs := A) (k := k) (by rw [HN.out]; exact hlt)
        obtain ⟨y, hy⟩ := get_lt (xs := B) (k := k) (by rw [HM.out]; exact hlt)
        obtain ⟨b, off, rfl, hbs, hbc⟩ := a3.resolve_left (by omega)
        obtain ⟨b', off', rfl, hbs', hbc'⟩ := b3.resolve_left (by omega)
        have c1 := (hbw.cell (p := ⟨b, off + k, none⟩) hbs).trans (hbc k x hx)
        have c2 := (hbw.cell (p := ⟨b', off' + k, none⟩) hbs').trans (hbc' k y hy)
        clear hbc hbc' a3 b3
        have hz0 := hbw.size
        have hbs2 : b < wr.heap.size := by omega
        have hbs2' : b' < wr.heap.size := by omega
        by_cases hxy : x = y
        · subst hxy
          have HX := Lib.hid hx; clear hx
          have HY := Lib.hid hy; clear hy
          go_wp2_with fail
          refine wp_region_quiet_below (by kernel_rfl) (by kernel_rfl) ?_
          repeat (go_big_quiet_step (first | fail | fail))
          refine wpQuiet_nil ?_
          intro w3 hw3
          have hb3 := below_of_regrown hw3
          clear hw3
          obtain ⟨hc3, hf3⟩ := bcell hb3
          have hz3 := bsize hb3
          try simp only [sizes1] at hz3
          try simp only [sizes] at hc3 hf3
          go_wp2_with fail
          go_roundw
          case rel => exact ⟨k + 1, by omega, by go_num, take_succ_eq hT.out HX.out HY.out, (by repeat (first | with_reducible exact Below.refl _ _ | with_reducible refine Below.drew ?_ | (with_reducible refine Below.alloc ?_ (by first | exact Nat.le_refl _ | omega | (simp only [sizes]; omega)) _) | (with_reducible refine Below.setCell ?_ (by first | exact Nat.le_refl _ | omega | (simp only [sizes]; omega)) _) | (refine Below.trans ?_ (Below.mono (by with_reducible assumption) (by first | exact Nat.le_refl _ | omega | (simp only [sizes]; omega))))))⟩
          case measure => simp [intOf]; omega
        · have hne : decide (A = B) = false := by
            refine decide_eq_false (fun e => hxy ?_)
            rw [e, hy] at hx
            injection hx with hx
            exact hx.symm
          have hne2 := toList_ne hxy
          have HNE := Lib.hid hne; clear hne
          have HX := Lib.hid hx; clear hx
          have HY := Lib.hid hy; clear hy
          go_wp2_with fail
          refine wp_region_quiet_below (by kernel_rfl) (by kernel_rfl) ?_
          repeat (go_big_quiet_step (first | fail | fail))
          refine wpQuiet_nil ?_
          intro w3 hw3
          have hb3 := below_of_regrown hw3
          clear hw3
          obtain ⟨hc3, hf3⟩ := bcell hb3
          have hz3 := bsize hb3
          try simp only [sizes1] at hz3
          try simp only [sizes] at hc3 hf3
          go_wp2_with fail
          go_ret
          exact Ret.mk' (by rw [HNE.out]; rfl) (by repeat (first | with_reducible exact Below.refl _ _ | with_reducible refine Below.drew ?_ | (with_reducible refine Below.alloc ?_ (by first | exact Nat.le_refl _ | omega | (simp only [sizes]; omega)) _) | (with_reducible refine Below.setCell ?_ (by first | exact Nat.le_refl _ | omega | (simp only [sizes]; omega)) _) | (refine Below.trans ?_ (Below.mono (by with_reducible assumption) (by first | exact Nat.le_refl _ | omega | (simp only [sizes]; omega))))))
      · obtain rfl : k = n := by omega
        have e : decide (A = B) = true := by
          have h := hT.out
          rw [List.take_of_length_le (by rw [HN.out]; exact Nat.le_refl _), List.take_of_length_le (by rw [HM.out]; exact Nat.le_refl _)] at h
          exact decide_eq_true h
        have HE := Lib.hid e; clear e
        go_wp2_with fail
        go_ret
        exact Ret.mk' (by rw [HE.out]; rfl) (by repeat (first | with_reducible exact Below.refl _ _ | with_reducible refine Below.drew ?_ | (with_reducible refine Below.alloc ?_ (by first | exact Nat.le_refl _ | omega | (simp only [sizes]; omega)) _) | (with_reducible refine Below.setCell ?_ (by first | exact Nat.le_refl _ | omega | (simp only [sizes]; omega)) _) | (refine Below.trans ?_ (Below.mono (by with_reducible assumption) (by first | exact Nat.le_refl _ | omega | (simp only [sizes]; omega))))))
  · have hne : decide (A = B) = false := decide_eq_false (fun e => hnm (by rw [← hn, ← hm, e]))
    have HNE := Lib.hid hne; clear hne hn hm
    have e1 : ((n : Int) != m) = true := by rw [bne_iff_ne]; omega
    have e2 : (n != m) = true := by rw [bne_iff_ne]; omega
    go_enter Try.func46, Try.ntmps46
    go_wp2_with fail
    go_ret
    exact Ret.mk' (by rw [HNE.out]; rfl) (by repeat (first | with_reducible exact Below.refl _ _ | with_reducible refine Below.drew ?_ | (with_reducible refine Below.alloc ?_ (by first | exact Nat.le_refl _ | omega | (simp only [sizes]; omega)) _) | (with_reducible refine Below.setCell ?_ (by first | exact Nat.le_refl _ | omega | (simp only [sizes]; omega)) _) | (refine Below.trans ?_ (Below.mono (by with_reducible assumption) (by first | exact Nat.le_refl _ | omega | (simp only [sizes]; omega))))))
end Go.Proofs.Ytjoopjgpjkmmhaa
