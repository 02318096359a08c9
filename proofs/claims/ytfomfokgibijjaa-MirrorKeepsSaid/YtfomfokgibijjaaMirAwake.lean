/-
  The fixed mirror of the laws, walked; whether blocks are few and small.
-/
import Derived.Test.YtfomfokgibijjaaMirLaws
namespace Go.Proofs.Ytfomfokgibijjaa
open Go.RowKit

theorem dataS9_ne : dataS 9 128 ≠ zeros128 := by decide +kernel
theorem blocksL_at {n : Int} {k i : Nat} (h : i < k) : (blocksL n k)[i]? = some (dataS (wrap64 (n + (i : Int))) 128) := by
  unfold blocksL
  rw [List.getElem?_map, List.getElem?_range h]
  rfl
theorem upB_zero {S : List ByteArray} {z : ByteArray} (hz : z.size = 128) (hs : ∀ (i : Nat) (s : ByteArray), S[i]? = some s → s.size = 128) : ∀ k, k ≤ S.length → upB S (List.replicate S.length z) 0 k = true
  | 0, _ => rfl
  | k + 1, hk => by
    obtain ⟨s, hs'⟩ := get_lt (xs := S) (k := k) (by omega)
    rw [upB, upB_zero hz hs k (by omega), elB_eq hs' (show (List.replicate S.length z)[k]? = some z by rw [List.getElem?_replicate, if_pos (by omega)]), decide_eq_true (hs k s hs'), decide_eq_true hz, decide_eq_true (show (0 : Int) ≤ (k : Int) by omega)]
    rfl
theorem begB_true {S : List ByteArray} (h1 : 1 ≤ S.length) (h2 : S.length ≤ 64) (hs : ∀ (i : Nat) (s : ByteArray), S[i]? = some s → s.size = 128) : begB S = true := by
  unfold begB validB headB
  rw [upB_zero zeros128_size hs _ (Nat.le_refl _), decide_eq_true ⟨h1, h2, List.length_replicate, by omega, by omega⟩]
  rfl
theorem blocks_beg (n : Int) : begB (blocksL n 4) = true := by
  refine begB_true (by rw [blocksL_len]; omega) (by rw [blocksL_len]; omega) (fun i s h => ?_)
  have hi := lt_of_get h
  rw [blocksL_len] at hi
  rw [blocksL_at hi] at h
  injection h with h
  rw [← h, dataS_size]
/-- The answer is yes only where there are at most a hundred. -/
def RetLight (n : Nat) (w : World) (e : Ending) (w' : World) : Prop := ∃ b : Bool, e = .returned (.bool b) ∧ (b = true → n ≤ 100) ∧ Below w.heap.size w w'
set_option maxRecDepth 100000 in
set_option maxHeartbeats 1000000 in
theorem light_any (va : Value) (S : List ByteArray) (w : World) (ha : StrRow w va S) : Calls Try.prog 6 #[va] w (RetLight S.length w) := by
  obtain ⟨ao, ca, rfl, a1, a2, a3⟩ := ha.out
  unfold maxLen at a2
  clear ha
  obtain ⟨n, hn⟩ : ∃ n, S.length = n := ⟨_, rfl⟩
  rw [hn] at a1 a3 ⊢
  have HN := Lib.hid hn; clear hn
  go_enter Try.func6, Try.ntmps6
  go_wp2_with fail
  go_loop [3] (fun i => ∃ k : Nat, k ≤ n ∧ k ≤ 200 ∧ i = .int .i64 k) (fun i => n - (intOf i).toNat)
  case atStart => exact ⟨0, Nat.zero_le _, by omega, rfl⟩
  case round =>
    obtain ⟨k, hk, hk2, rfl⟩ := hrel
    by_cases hgo : k < n ∧ k < 200
    · obtain ⟨hlt, h200⟩ := hgo
      obtain ⟨x, hx⟩ := get_lt (xs := S) (k := k) (by rw [HN.out]; exact hlt)
      obtain ⟨b, off, rfl, hbs, hbc⟩ := a3.resolve_left (by omega)
      have c1 := hbc k x hx
      clear hbc hx a3
      by_cases hs : 300 < x.size
      · go_wp2_with fail
        go_ret
        exact ⟨_, rfl, (fun h => by cases h), (by repeat (first | with_reducible exact Below.refl _ _ | with_reducible refine Below.drew ?_ | (with_reducible refine Below.alloc ?_ (by first | exact Nat.le_refl _ | omega | (dsimp only; omega) | (simp only [sizes]; omega)) _) | (with_reducible refine Below.setCell ?_ (by first | exact Nat.le_refl _ | omega | (dsimp only; omega) | (simp only [sizes]; omega)) _) | (refine Below.trans ?_ (Below.mono (by with_reducible assumption) (by first | exact Nat.le_refl _ | omega | (dsimp only; omega) | (simp only [sizes]; omega))))))⟩
      · go_wp2_with fail
        go_round
        case rel => exact ⟨k + 1, by omega, by omega, by go_num⟩
        case measure => simp [intOf]; omega
    · by_cases h1 : k < n
      · by_cases h100 : n ≤ 100
        · omega
        · have e : decide ((n : Int) ≤ 100) = false := decide_eq_false (by omega)
          go_wp2_with fail
          go_ret
          exact ⟨_, rfl, (fun h => by first | (cases h; done) | (have := of_decide_eq_true h; omega)), (by repeat (first | with_reducible exact Below.refl _ _ | with_reducible refine Below.drew ?_ | (with_reducible refine Below.alloc ?_ (by first | exact Nat.le_refl _ | omega | (dsimp only; omega) | (simp only [sizes]; omega)) _) | (with_reducible refine Below.setCell ?_ (by first | exact Nat.le_refl _ | omega | (dsimp only; omega) | (simp only [sizes]; omega)) _) | (refine Below.trans ?_ (Below.mono (by with_reducible assumption) (by first | exact Nat.le_refl _ | omega | (dsimp only; omega) | (simp only [sizes]; omega))))))⟩
      · obtain rfl : k = n := by omega
        by_cases h100 : k ≤ 100
        · go_wp2_with fail
          go_ret
          exact ⟨_, rfl, (fun _ => h100), (by repeat (first | with_reducible exact Below.refl _ _ | with_reducible refine Below.drew ?_ | (with_reducible refine Below.alloc ?_ (by first | exact Nat.le_refl _ | omega | (dsimp only; omega) | (simp only [sizes]; omega)) _) | (with_reducible refine Below.setCell ?_ (by first | exact Nat.le_refl _ | omega | (dsimp only; omega) | (simp only [sizes]; omega)) _) | (refine Below.trans ?_ (Below.mono (by with_reducible assumption) (by first | exact Nat.le_refl _ | omega | (dsimp only; omega) | (simp only [sizes]; omega))))))⟩
        · go_wp2_with fail
          go_ret
          exact ⟨_, rfl, (fun h => by first | (cases h; done) | (have := of_decide_eq_true h; omega)), (by repeat (first | with_reducible exact Below.refl _ _ | with_reducible refine Below.drew ?_ | (with_reducible refine Below.alloc ?_ (by first | exact Nat.le_refl _ | omega | (dsimp only; omega) | (simp only [sizes]; omega)) _) | (with_reducible refine Below.setCell ?_ (by first | exact Nat.le_refl _ | omega | (dsimp only; omega) | (simp only [sizes]; omega)) _) | (refine Below.trans ?_ (Below.mono (by with_reducible assumption) (by first | exact Nat.le_refl _ | omega | (dsimp only; omega) | (simp only [sizes]; omega))))))⟩
/-! the fixed mirror -/
def S1 : List ByteArray := blocksL 1 4
def Z4 : List ByteArray := List.replicate 4 zeros128
theorem aw_valid : validB S1 Z4 0 = true := by
  have h := blocks_beg 1
  unfold begB at h
  rw [blocksL_len] at h
  exact h
theorem S1_len : S1.length = 4 := blocksL_len 1 4
theorem Z4_len : Z4.length = 4 := List.length_replicate
def T1 : List ByteArray := cpT S1 Z4 0 1
theorem T1_len : T1.length = 4 := (cpT_len _ _ _ _).trans Z4_len
theorem c1_is : cpC S1 Z4 0 1 = 1 := by
  unfold cpC goodC
  rw [aw_valid, S1_len]
  decide
theorem v1 : validB S1 T1 1 = true := by
  have h := copy_valid (q := 1) aw_valid
  rwa [c1_is] at h
theorem T1_at : T1[1]? = some zeros128 := by
  unfold T1
  rw [cpT_at (validB_iff.1 aw_valid).1, c1_is, if_neg (by omega)]
  rfl
theorem good_w {b : Nat} {d : ByteArray} (hb : b < 4) (hd : d.size = 128) : goodW S1 T1 1 b d = true := by
  unfold goodW
  rw [v1, S1_len, Bool.true_and]
  exact decide_eq_true ⟨by omega, by omega, hd⟩
theorem wa {d : ByteArray} (hd : d.size = 128) : wS S1 T1 1 0 d = S1.set 0 d ∧ wT S1 T1 1 0 d = T1.set 0 d ∧ goodW S1 T1 1 0 d = true := by
  have h : goodW S1 T1 1 0 d = true := good_w (b := 0) (by omega) hd
  exact ⟨by unfold wS; rw [if_pos h]; rfl, by unfold wT; rw [h, Bool.true_and, if_pos (decide_eq_true (by omega))]; rfl, h⟩
theorem wb {d : ByteArray} (hd : d.size = 128) : wS S1 T1 1 1 d = S1.set 1 d ∧ wT S1 T1 1 1 d = T1 ∧ goodW S1 T1 1 1 d = true := by
  have h : goodW S1 T1 1 1 d = true := good_w (b := 1) (by omega) hd
  exact ⟨by unfold wS; rw [if_pos h]; rfl, by unfold wT; rw [h, Bool.true_and, decide_eq_false (by omega), if_neg (by decide)], h⟩
theorem not_done : doneB S1 T1 1 = false := by
  unfold doneB
  rw [v1, S1_len]
  rfl
theorem all_done {d : ByteArray} (hd : d.size = 128) : doneB (S1.set 1 d) (cpT (S1.set 1 d) T1 1 9) (cpC (S1.set 1 d) T1 1 9) = true := by
  have hv : validB (S1.set 1 d) T1 1 = true := by
    have h := write_valid (b := 1) (d := d) v1
    rw [(wb hd).1, (wb hd).2.1] at h
    exact h
  have h2 := copy_valid (q := 9) hv
  unfold doneB
  rw [h2, Bool.true_and, decide_eq_true_eq]
  unfold cpC goodC
  rw [hv, List.length_set, S1_len]
  decide
theorem EncRow.set_box {α : Type} {enc : α → Value} {w : World} {v : Value} {xs : List α} {B : Nat} {cs : Array Value} {T : TypeId} (h : EncRow enc w v xs) (hB : HasBlock w B cs T) (hne : ∀ (j : Nat) (x : α), cs[j]? ≠ some (enc x)) (j : Nat) (u : Value) : EncRow enc (w.setCell ⟨B, j, none⟩ u) v xs := by
  obtain ⟨ao, cap, hv, h1, h2, h3⟩ := h
  refine ⟨ao, cap, hv, h1, h2, ?_⟩
  rcases h3 with h3 | ⟨b, off, ha, hlt, hc⟩
  · exact .inl h3
  · refine .inr ⟨b, off, ha, by rw [World.size_setCell]; exact hlt, fun i y hy => ?_⟩
    have hc' := hc i y hy
    have hbB : b ≠ B := by
      rintro rfl
      rw [hB.cell] at hc'
      rw [List.getElem?_map] at hy
      cases hx : xs[i]? with
      | none => rw [hx] at hy; simp at hy
      | some x =>
        rw [hx] at hy
        simp at hy
        subst hy
        exact hne _ _ hc'
    exact (World.cell?_of_block (a := ⟨b, off + i, none⟩) (Below.heap_setCell w _ u b hbB)).trans hc'
theorem mirbox_ne (a0 a1 : Option Addr) (n0 n1 k0 k1 : Nat) (c : Int) (j : Nat) (x : ByteArray) : (#[Value.slice a0 n0 k0, .slice a1 n1 k1, .int .i64 c] : Array Value)[j]? ≠ some (.string x) := by
  match j with
  | 0 => intro h; injection h with h; cases h
  | 1 => intro h; injection h with h; cases h
  | 2 => intro h; injection h with h; cases h
  | j + 3 => intro h; simp at h
theorem StrRow.store3 {w : World} {v : Value} {S : List ByteArray} {B : Nat} {T : TypeId} {a0 a1 b0 b1 : Option Addr} {n0 n1 k0 k1 m0 m1 l0 l1 : Nat} {c d : Int} (h : StrRow w v S) (hB : HasBlock w B #[.slice a0 n0 k0, .slice a1 n1 k1, .int .i64 c] T) : StrRow (((w.setCell ⟨B, 0, none⟩ (.slice b0 m0 l0)).setCell ⟨B, 1, none⟩ (.slice b1 m1 l1)).setCell ⟨B, 2, none⟩ (.int .i64 d)) v S := by
  have h1 := EncRow.set_box h hB (mirbox_ne _ _ _ _ _ _ _) 0 (.slice b0 m0 l0)
  have hB1 : HasBlock (w.setCell ⟨B, 0, none⟩ (.slice b0 m0 l0)) B #[.slice b0 m0 l0, .slice a1 n1 k1, .int .i64 c] T := by simpa using hB.set_at 0 (.slice b0 m0 l0)
  have h2 := EncRow.set_box h1 hB1 (mirbox_ne _ _ _ _ _ _ _) 1 (.slice b1 m1 l1)
  have hB2 : HasBlock ((w.setCell ⟨B, 0, none⟩ (.slice b0 m0 l0)).setCell ⟨B, 1, none⟩ (.slice b1 m1 l1)) B #[.slice b0 m0 l0, .slice b1 m1 l1, .int .i64 c] T := by simpa using hB1.set_at 1 (.slice b1 m1 l1)
  exact EncRow.set_box h2 hB2 (mirbox_ne _ _ _ _ _ _ _) 2 (.int .i64 d)
theorem EncRow.at_ {α : Type} {enc : α → Value} {w : World} {ao : Option Addr} {n ca : Nat} {xs : List α} (h : EncRow enc w (.slice ao n ca) xs) {i : Nat} {x : α} (hx : xs[i]? = some x) : ∃ b off, ao = some ⟨b, off, none⟩ ∧ w.cell? ⟨b, off + i, none⟩ = some (enc x) := by
  obtain ⟨ao', cap, hv, _, _, h3⟩ := h.out
  injection hv with e1
  subst e1
  obtain ⟨b, off, e, _, hc⟩ := h3.resolve_left (by have := lt_of_get hx; omega)
  exact ⟨b, off, e, hc i x hx⟩
/-! the walk of the fixed mirror: each callee at its fixed arguments -/
theorem MirRow.form {w : World} {S T : List ByteArray} {c : Int} {v : Value} (h : MirRow w S T c v) : ∃ (ao bo : Option Addr) (ca cb : Nat), v = .agg #[.slice ao S.length ca, .slice bo T.length cb, .int .i64 c] ∧ StrRow w (.slice ao S.length ca) S ∧ StrRow w (.slice bo T.length cb) T := by
  obtain ⟨vs, vt, rfl, h1, h2⟩ := h
  obtain ⟨ao, ca, rfl, _⟩ := h1.out
  obtain ⟨bo, cb, rfl, _⟩ := h2.out
  exact ⟨ao, bo, ca, cb, rfl, h1, h2⟩
theorem aw_blocks (w : World) : Calls Try.prog 21 #[.int .i64 1] w (RetOwn Value.string 9 w S1) := blocks_any 1 w
/-- A mirror of four blocks, at hand. -/
def Ret4 (S T : List ByteArray) (c : Int) (ok : Bool) (w : World) (e : Ending) (w' : World) : Prop := ∃ (ao bo : Option Addr) (ca cb : Nat), e = .returned (.tuple #[.agg #[.slice ao 4 ca, .slice bo 4 cb, .int .i64 c], .bool ok]) ∧ StrRow w' (.slice ao 4 ca) S ∧ StrRow w' (.slice bo 4 cb) T ∧ Below w.heap.size w w'
def Ret4' (S T : List ByteArray) (c : Int) (w : World) (e : Ending) (w' : World) : Prop := ∃ (ao bo : Option Addr) (ca cb : Nat), e = .returned (.agg #[.slice ao 4 ca, .slice bo 4 cb, .int .i64 c]) ∧ StrRow w' (.slice ao 4 ca) S ∧ StrRow w' (.slice bo 4 cb) T ∧ Below w.heap.size w w'
theorem ret4 {S T : List ByteArray} {c : Int} {ok : Bool} {w w' : World} {e : Ending} (h : RetRow2 S T c ok w e w') (hs : S.length = 4) (ht : T.length = 4) : Ret4 S T c ok w e w' := by
  obtain ⟨v, rfl, hr, hb⟩ := h
  obtain ⟨ao, bo, ca, cb, rfl, h1, h2⟩ := hr.form
  rw [hs] at h1 ⊢
  rw [ht] at h2 ⊢
  exact ⟨ao, bo, ca, cb, rfl, h1, h2, hb⟩
theorem ret4' {S T : List ByteArray} {c : Int} {w w' : World} {e : Ending} (h : RetRow S T c w e w') (hs : S.length = 4) (ht : T.length = 4) : Ret4' S T c w e w' := by
  obtain ⟨v, rfl, hr, hb⟩ := h
  obtain ⟨ao, bo, ca, cb, rfl, h1, h2⟩ := hr.form
  rw [hs] at h1 ⊢
  rw [ht] at h2 ⊢
  exact ⟨ao, bo, ca, cb, rfl, h1, h2, hb⟩
theorem aw_begin (va : Value) (w : World) (h : StrRow w va S1) : Calls Try.prog 8 #[va] w (Ret4 S1 Z4 0 true w) := by
  have hb := begin_any va S1 w h (by rw [S1_len]; omega)
  have e : begB S1 = true := blocks_beg 1
  rw [show begS S1 = S1 by unfold begS; rw [if_pos e], show begT S1 = Z4 by unfold begT; rw [if_pos e, S1_len]; rfl, e] at hb
  exact hb.mono fun _ _ h => ret4 h S1_len Z4_len
theorem aw_copy (vs vt : Value) (w : World) (h1 : StrRow w vs S1) (h2 : StrRow w vt Z4) : Calls Try.prog 17 #[.agg #[vs, vt, .int .i64 0], .int .i64 1] w (Ret4' S1 T1 1 w) := by
  have hb := copy_mir vs vt S1 Z4 0 1 w h1 h2 (by omega) (by rw [S1_len]; omega) (by rw [Z4_len]; omega) (by omega)
  rw [c1_is] at hb
  exact hb.mono fun _ _ h => ret4' h S1_len T1_len
theorem aw_write0 (vs vt : Value) (d : ByteArray) (w : World) (h1 : StrRow w vs S1) (h2 : StrRow w vt T1) (hd : d.size = 128) : Calls Try.prog 10 #[.agg #[vs, vt, .int .i64 1], .int .i64 0, .string d] w (Ret4 (S1.set 0 d) (T1.set 0 d) 1 true w) := by
  have hb := write_any vs vt S1 T1 1 0 d w h1 h2 (by omega) (by rw [S1_len]; omega) (by rw [T1_len]; omega)
  rw [(wa hd).1, (wa hd).2.1, (wa hd).2.2] at hb
  exact hb.mono fun _ _ h => ret4 h (by rw [List.length_set, S1_len]) (by rw [List.length_set, T1_len])
theorem aw_write1 (vs vt : Value) (d : ByteArray) (w : World) (h1 : StrRow w vs S1) (h2 : StrRow w vt T1) (hd : d.size = 128) : Calls Try.prog 10 #[.agg #[vs, vt, .int .i64 1], .int .i64 1, .string d] w (Ret4 (S1.set 1 d) T1 1 true w) := by
  have hb := write_any vs vt S1 T1 1 1 d w h1 h2 (by omega) (by rw [S1_len]; omega) (by rw [T1_len]; omega)
  rw [(wb hd).1, (wb hd).2.1, (wb hd).2.2] at hb
  exact hb.mono fun _ _ h => ret4 h (by rw [List.length_set, S1_len]) T1_len
def RetL (n : Nat) (T : List ByteArray) (ok : Bool) (w : World) (e : Ending) (w' : World) : Prop := ∃ (ao : Option Addr) (ca : Nat), e = .returned (.tuple #[.slice ao n ca, .bool ok]) ∧ StrRow w' (.slice ao n ca) T ∧ Below w.heap.size w w'
theorem retL {T : List ByteArray} {n : Nat} {ok : Bool} {w w' : World} {e : Ending} (h : RetSwitch T ok w e w') (hn : (if ok then T else []).length = n) : RetL n (if ok then T else []) ok w e w' := by
  obtain ⟨v, rfl, hr, hb⟩ := h
  obtain ⟨ao, ca, rfl, _⟩ := hr.out
  rw [hn] at hr ⊢
  exact ⟨ao, ca, rfl, hr, hb⟩
theorem aw_switch (vs vt : Value) (w : World) (h1 : StrRow w vs S1) (h2 : StrRow w vt T1) : Calls Try.prog 12 #[.agg #[vs, vt, .int .i64 1]] w (RetL 0 [] false w) := by
  have hb := switch_any vs vt S1 T1 1 w h1 h2 (by omega)
  rw [not_done] at hb
  exact hb.mono fun _ _ h => retL h rfl
/-- Copied to its end. -/
def RetEnd (d : ByteArray) (w : World) (e : Ending) (w' : World) : Prop := ∃ (ao bo : Option Addr) (ca cb : Nat) (c : Int), e = .returned (.agg #[.slice ao 4 ca, .slice bo 4 cb, .int .i64 c]) ∧ StrRow w' (.slice ao 4 ca) (S1.set 1 d) ∧ StrRow w' (.slice bo 4 cb) (cpT (S1.set 1 d) T1 1 9) ∧ c = cpC (S1.set 1 d) T1 1 9 ∧ Below w.heap.size w w'
theorem aw_copy9 (vs vt : Value) (d : ByteArray) (w : World) (h1 : StrRow w vs (S1.set 1 d)) (h2 : StrRow w vt T1) : Calls Try.prog 17 #[.agg #[vs, vt, .int .i64 1], .int .i64 9] w (RetEnd d w) := by
  have hb := copy_mir vs vt (S1.set 1 d) T1 1 9 w h1 h2 (by omega) (by rw [List.length_set, S1_len]; omega) (by rw [T1_len]; omega) (by omega)
  refine hb.mono fun _ _ h => ?_
  obtain ⟨ao, bo, ca, cb, e, r1, r2, hb⟩ := ret4' h (by rw [List.length_set, S1_len]) ((cpT_len _ _ _ _).trans T1_len)
  exact ⟨ao, bo, ca, cb, _, e, r1, r2, rfl, hb⟩
theorem aw_switch9 (vs vt : Value) (d : ByteArray) (c : Int) (w : World) (h1 : StrRow w vs (S1.set 1 d)) (h2 : StrRow w vt (cpT (S1.set 1 d) T1 1 9)) (hc : c = cpC (S1.set 1 d) T1 1 9) (hd : d.size = 128) : Calls Try.prog 12 #[.agg #[vs, vt, .int .i64 c]] w (RetL 4 (S1.set 1 d) true w) := by
  have hdn : doneB (S1.set 1 d) (cpT (S1.set 1 d) T1 1 9) c = true := by rw [hc]; exact all_done hd
  clear hc
  have hl : (S1.set 1 d).length = 4 := by rw [List.length_set, S1_len]
  have hbd : -9223372036854775808 ≤ c ∧ c ≤ 9223372036854775807 := by
    have h := hdn
    unfold doneB at h
    rw [Bool.and_eq_true, decide_eq_true_eq] at h
    rw [h.2, hl]
    omega
  have hb := switch_any vs vt (S1.set 1 d) (cpT (S1.set 1 d) T1 1 9) c w h1 h2 hbd
  rw [hdn] at hb
  refine hb.mono fun _ _ h => ?_
  obtain ⟨v, rfl, hr, hb⟩ := h
  rw [if_pos rfl, done_eq hdn] at hr
  obtain ⟨ao, ca, rfl, _⟩ := hr.out
  rw [hl] at hr ⊢
  exact ⟨ao, ca, rfl, hr, hb⟩
set_option maxRecDepth 100000 in
set_option maxHeartbeats 4000000 in
theorem awake_any (w : World) : Calls Try.prog 7 #[] w (Ret w (.bool true)) := by
  have DT : ∀ w, Calls Try.prog 23 #[.int .i64 9, .int .i64 128] w (Ret w (.string (dataS 9 128))) := fun w => data_any 9 128 w (by omega) (by omega)
  have hdz : zeros128 ≠ dataS 9 128 := fun e => dataS9_ne e.symm
  have hds := dataS_size 9 128
  obtain ⟨d, hd⟩ : ∃ d, dataS 9 128 = d := ⟨_, rfl⟩
  rw [hd] at DT hdz hds
  have HDT := Lib.hid DT; clear DT hd
  have HDS := Lib.hid hds; clear hds
  have hdz2 := toList_ne hdz
  clear hdz
  obtain ⟨z, hz⟩ : ∃ z, zeros128 = z := ⟨_, rfl⟩
  have htz := T1_at
  rw [hz] at hdz2 htz
  have HTZ := Lib.hid htz; clear hz htz
  go_enter Try.func7, Try.ntmps7
  go_wp2_with fail
  refine (aw_blocks _).mono ?_
  rintro e w1 ⟨v1, rfl, ho1, hb1⟩
  have hz1 := hb1.size
  have HR1 := Lib.hid ho1.row
  obtain ⟨q1, kk1, rfl, _, _⟩ := ho1.formN S1_len
  clear ho1
  go_wp2_with fail
  refine (aw_begin _ _ HR1.out).mono ?_
  rintro e w2 ⟨ao, bo, ca, cb, rfl, r1, r2, hb2⟩
  have hbw2 : Below w.heap.size w w2 := hb1.trans (hb2.mono hb1.size)
  have HRA := Lib.hid r1; clear r1
  have HRB := Lib.hid r2; clear r2
  clear hb1 hb2 HR1 hz1
  have hz2 := hbw2.size
  go_wp2_with fail
  have D1 := HasBlock.made w2 #[.slice ao 4 ca, .slice bo 4 cb, .int .i64 0] 24
  have hbw3 : Below w.heap.size w (w2.alloc (.cells #[.slice ao 4 ca, .slice bo 4 cb, .int .i64 0] 24)) := (by repeat (first | with_reducible exact Below.refl _ _ | with_reducible refine Below.drew ?_ | (with_reducible refine Below.alloc ?_ (by first | exact Nat.le_refl _ | omega | (simp only [sizes]; omega)) _) | (with_reducible refine Below.setCell ?_ (by first | exact Nat.le_refl _ | omega | (simp only [sizes]; omega)) _) | (refine Below.trans ?_ (Below.mono (by with_reducible assumption) (by first | exact Nat.le_refl _ | omega | (simp only [sizes]; omega))))))
  have s1 := HRA.out.below ((Below.refl _ w2).alloc (Nat.le_refl _) (.cells #[.slice ao 4 ca, .slice bo 4 cb, .int .i64 0] 24))
  have s2 := HRB.out.below ((Below.refl _ w2).alloc (Nat.le_refl _) (.cells #[.slice ao 4 ca, .slice bo 4 cb, .int .i64 0] 24))
  clear HRA HRB hbw2
  obtain ⟨B1, hB1⟩ : ∃ B, w2.heap.size = B := ⟨_, rfl⟩
  rw [hB1] at D1 hz2 ⊢
  clear hB1
  with_reducible refine (aw_copy _ _ _ s1 s2).mono ?_
  rintro e w4 ⟨co, do', cc, dc, rfl, r1, r2, hb4⟩
  have E1 := D1.below hb4
  have hbw4 := hbw3.trans (hb4.mono hbw3.size)
  have HRC := Lib.hid r1; clear r1
  have HRD := Lib.hid r2; clear r2
  clear D1 hbw3 s1 s2 hb4
  have x0 := (E1.cell 0).trans rfl
  have x1 := (E1.cell 1).trans rfl
  have x2 := (E1.cell 2).trans rfl
  have xf := E1.free
  have xz := E1.lt
  go_wp2_with fail
  have F1 := HasBlock.store3 (y0 := .slice co 4 cc) (y1 := .slice do' 4 dc) (y2 := .int .i64 1) E1
  have s1 : StrRow _ (.slice co 4 cc) S1 := StrRow.store3 (b0 := co) (b1 := do') (m0 := 4) (m1 := 4) (l0 := cc) (l1 := dc) (d := 1) HRC.out E1
  have s2 : StrRow _ (.slice do' 4 dc) T1 := StrRow.store3 (b0 := co) (b1 := do') (m0 := 4) (m1 := 4) (l0 := cc) (l1 := dc) (d := 1) HRD.out E1
  have hbw5 : Below w.heap.size w (((w4.setCell ⟨B1, 0, none⟩ (.slice co 4 cc)).setCell ⟨B1, 1, none⟩ (.slice do' 4 dc)).setCell ⟨B1, 2, none⟩ (.int .i64 1)) := (by repeat (first | with_reducible exact Below.refl _ _ | with_reducible refine Below.drew ?_ | (with_reducible refine Below.alloc ?_ (by first | exact Nat.le_refl _ | omega | (dsimp only; omega) | (simp only [sizes]; omega)) _) | (with_reducible refine Below.setCell ?_ (by first | exact Nat.le_refl _ | omega | (dsimp only; omega) | (simp only [sizes]; omega)) _) | (refine Below.trans ?_ (Below.mono (by with_reducible assumption) (by first | exact Nat.le_refl _ | omega | (dsimp only; omega) | (simp only [sizes]; omega))))))
  clear x0 x1 x2 xf xz E1 HRC HRD hbw4
  generalize hW : ((w4.setCell ⟨B1, 0, none⟩ (.slice co 4 cc)).setCell ⟨B1, 1, none⟩ (.slice do' 4 dc)).setCell ⟨B1, 2, none⟩ (.int .i64 1) = w5 at F1 s1 s2 hbw5 ⊢
  clear hW
  refine (HDT.out _).mono ?_
  rintro e w6 ⟨rfl, hb6⟩
  have E1 := F1.below hb6
  have t1 := s1.below hb6
  have t2 := s2.below hb6
  have hbw6 := hbw5.trans (hb6.mono hbw5.size)
  clear F1 s1 s2 hbw5 hb6
  have x0 := (E1.cell 0).trans rfl
  have x1 := (E1.cell 1).trans rfl
  have x2 := (E1.cell 2).trans rfl
  have xf := E1.free
  have xz := E1.lt
  go_wp2_with fail
  with_reducible refine (aw_write0 _ _ d _ t1 t2 HDS.out).mono ?_
  rintro e w7 ⟨eo, fo, ec, fc, rfl, r1, r2, hb7⟩
  have F1 := E1.below hb7
  have s1 := t1.below hb7
  have s2 := t2.below hb7
  have hbw7 := hbw6.trans (hb7.mono hbw6.size)
  have a0 := Lib.hid r1
  have a1 := Lib.hid r2
  clear E1 t1 t2 hbw6 hb7 x0 x1 x2 xf xz r1 r2
  have x0 := (F1.cell 0).trans rfl
  have x1 := (F1.cell 1).trans rfl
  have x2 := (F1.cell 2).trans rfl
  have xf := F1.free
  have xz := F1.lt
  go_wp2_with fail
  have E1 := F1.alloc (.cells #[.slice eo 4 ec, .slice fo 4 fc, .int .i64 1] 24)
  have E4 := HasBlock.made w7 #[.slice eo 4 ec, .slice fo 4 fc, .int .i64 1] 24
  have hb8 : Below w7.heap.size w7 (w7.alloc (.cells #[.slice eo 4 ec, .slice fo 4 fc, .int .i64 1] 24)) := (Below.refl _ _).alloc (Nat.le_refl _) _
  have t1 := s1.below hb8
  have t2 := s2.below hb8
  have q1 := Lib.hid (a1.out.below hb8)
  have hbw8 := hbw7.trans (hb8.mono hbw7.size)
  have hz7 := hbw7.size
  clear F1 s1 s2 hbw7 hb8 x0 x1 x2 xf xz a0 a1
  obtain ⟨B4, hB4⟩ : ∃ B, w7.heap.size = B := ⟨_, rfl⟩
  rw [hB4] at E4 hz7 ⊢
  generalize hW : w7.alloc (.cells #[.slice eo 4 ec, .slice fo 4 fc, .int .i64 1] 24) = w8 at E1 E4 t1 t2 q1 hbw8 ⊢
  clear hW hB4
  with_reducible refine (aw_write1 _ _ d _ t1 t2 HDS.out).mono ?_
  rintro e w9 ⟨go', ho, gc, hc, rfl, r1, r2, hb9⟩
  have F1 := E1.below hb9
  have F4 := E4.below hb9
  have s1 := t1.below hb9
  have s2 := t2.below hb9
  have q2 := Lib.hid (q1.out.below hb9)
  have hbw9 := hbw8.trans (hb9.mono hbw8.size)
  clear E1 E4 t1 t2 q1 hbw8 hb9
  have x0 := (F1.cell 0).trans rfl
  have x1 := (F1.cell 1).trans rfl
  have x2 := (F1.cell 2).trans rfl
  have xf := F1.free
  have xz := F1.lt
  go_wp2_with fail
  have E1 := F1.alloc (.cells #[.slice go' 4 gc, .slice ho 4 hc, .int .i64 1] 24)
  have E4 := F4.alloc (.cells #[.slice go' 4 gc, .slice ho 4 hc, .int .i64 1] 24)
  have E6 := HasBlock.made w9 #[.slice go' 4 gc, .slice ho 4 hc, .int .i64 1] 24
  have hb10 : Below w9.heap.size w9 (w9.alloc (.cells #[.slice go' 4 gc, .slice ho 4 hc, .int .i64 1] 24)) := (Below.refl _ _).alloc (Nat.le_refl _) _
  have t1 := s1.below hb10
  have t2 := s2.below hb10
  have q1 := Lib.hid (q2.out.below hb10)
  have p1 := Lib.hid (r1.below hb10)
  have p2 := Lib.hid (r2.below hb10)
  have hbw10 := hbw9.trans (hb10.mono hbw9.size)
  have hz9 := hbw9.size
  clear F1 F4 s1 s2 q2 r1 r2 hbw9 hb10 x0 x1 x2 xf xz
  obtain ⟨B6, hB6⟩ : ∃ B, w9.heap.size = B := ⟨_, rfl⟩
  rw [hB6] at E6 hz9 ⊢
  generalize hW : w9.alloc (.cells #[.slice go' 4 gc, .slice ho 4 hc, .int .i64 1] 24) = w10 at E1 E4 E6 t1 t2 q1 p1 p2 hbw10 ⊢
  clear hW hB6
  with_reducible refine (aw_switch _ _ _ t1 t2).mono ?_
  rintro e w11 ⟨io, ic, rfl, _, hb11⟩
  have F4 := E4.below hb11
  have F6 := E6.below hb11
  have q2 := Lib.hid (q1.out.below hb11)
  have p3 := p1.out.below hb11
  have p4 := p2.out.below hb11
  have hbw11 := hbw10.trans (hb11.mono hbw10.size)
  clear E1 E4 E6 t1 t2 q1 p1 p2 hbw10 hb11
  have x0 := (F4.cell 0).trans rfl
  have x1 := (F4.cell 1).trans rfl
  have x2 := (F4.cell 2).trans rfl
  have xf := F4.free
  have xz := F4.lt
  have y0 := (F6.cell 0).trans rfl
  have y1 := (F6.cell 1).trans rfl
  have y2 := (F6.cell 2).trans rfl
  have yf := F6.free
  have yz := F6.lt
  go_wp2_with fail
  with_reducible refine (aw_copy9 _ _ d _ p3 p4).mono ?_
  rintro e w12 ⟨jo, ko, jc, kc, c12, rfl, r1, r2, hc12, hb12⟩
  have HC := Lib.hid hc12; clear hc12
  have E4 := F4.below hb12
  have E6 := F6.below hb12
  have q1 := Lib.hid (q2.out.below hb12)
  have p1 := Lib.hid (p3.below hb12)
  have p2 := Lib.hid (p4.below hb12)
  have hbw12 := hbw11.trans (hb12.mono hbw11.size)
  clear F4 F6 q2 p3 p4 hbw11 hb12 x0 x1 x2 xf xz y0 y1 y2 yf yz
  go_wp2_with fail
  with_reducible refine (aw_switch9 _ _ d c12 _ r1 r2 HC.out HDS.out).mono ?_
  rintro e w13 ⟨lo, lc, rfl, r3, hb13⟩
  have F4 := E4.below hb13
  have F6 := E6.below hb13
  have q2 := q1.out.below hb13
  have p3 := p1.out.below hb13
  have p4 := p2.out.below hb13
  have hbw13 := hbw12.trans (hb13.mono hbw12.size)
  clear E4 E6 q1 p1 p2 hbw12 hb13 r1 r2 HC
  have x0 := (F4.cell 0).trans rfl
  have x1 := (F4.cell 1).trans rfl
  have x2 := (F4.cell 2).trans rfl
  have xf := F4.free
  have xz := F4.lt
  have y0 := (F6.cell 0).trans rfl
  have y1 := (F6.cell 1).trans rfl
  have y2 := (F6.cell 2).trans rfl
  have yf := F6.free
  have yz := F6.lt
  obtain ⟨ab, af, rfl, g1⟩ := q2.at_ (i := 0) (x := d) (by rw [List.getElem?_set, if_pos rfl, if_pos (by rw [T1_len]; omega)])
  obtain ⟨bb, bf, rfl, g2⟩ := p4.at_ (i := 1) HTZ.out
  obtain ⟨cb', cf, rfl, g3⟩ := p3.at_ (i := 1) (x := d) (by rw [List.getElem?_set, if_pos rfl, if_pos (by rw [S1_len]; omega)])
  obtain ⟨lb, lf, rfl, g4⟩ := r3.at_ (i := 1) (x := d) (by rw [List.getElem?_set, if_pos rfl, if_pos (by rw [S1_len]; omega)])
  rw [Nat.add_zero] at g1
  clear q2 p3 p4 r3
  go_wp2_with fail
  go_ret
  exact Ret.mk hbw13
end Go.Proofs.Ytfomfokgibijjaa
