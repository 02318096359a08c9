/-
  The balloon's port, written: the reference, walked.
-/
import Derived.Test.YtalfiiodioihdaaBalOut
import Derived.Laws.CopyOwn
namespace Go.Proofs.Ytalfiiodioihdaa
open Go.RowKit

theorem size_word : (Try.prog.info? 22).map (·.size) = some 1 := by kernel_rfl
theorem owns_of_block {w : World} {base g n : Nat} {e : TypeId} {cs : List Value} (h : w.heap[g]? = some (.cells cs.toArray e (0, 0))) (hb : base ≤ g) (hn : cs.length = n) (hm : n ≤ maxLen) : w.ownsRow base e 1 (.slice (some ⟨g, 0, none⟩) n n) n cs := by
  refine ⟨by omega, .inr ⟨g, n, cs.toArray, rfl, hb, h, Nat.le_refl _, hm, by simpa using hn, ?_⟩⟩
  rw [Nat.mul_one, ← hn]
  exact List.take_length
theorem words_len (xs : List Int) : (words xs).length = xs.length := by simp [words]
theorem words_at {xs : List Int} {j : Nat} {u : Value} (h : (words xs)[j]? = some u) : ∃ x, xs[j]? = some x ∧ u = .int .u32 x := by
  unfold words at h
  rw [List.getElem?_map] at h
  cases hx : xs[j]? with
  | none => rw [hx] at h; simp at h
  | some x => rw [hx] at h; simp at h; exact ⟨x, rfl, h.symm⟩
theorem words_one (xs : List Int) : ∀ u ∈ words xs, u.oneCell' = true := by
  intro u hu
  unfold words at hu
  rw [List.mem_map] at hu
  obtain ⟨x, _, rfl⟩ := hu
  rfl
set_option maxHeartbeats 1000000 in
theorem copy_any (va : Value) (xs : List Int) (w : World) (ha : MemRow w va xs) (hn : xs.length ≤ 1024) : Calls Try.prog 32 #[va] w (RetMem w xs) := by
  obtain ⟨b, off, cap, rfl, h1, h2, h0, h3, h4⟩ := ha
  obtain ⟨n, hn'⟩ : ∃ n, xs.length = n := ⟨_, rfl⟩
  have hmk := run_make_one (P := Try.prog) 31 22 (.int .u32 0) 4 Try.underlying31 info_word rfl n (by omega) (by omega)
  rw [hn'] at h0 h1 hn ⊢
  have HN := Lib.hid hn'; clear hn'
  have H4 := Lib.hid h4; clear h4
  have H2 := Lib.hid h2; clear h2
  go_enter Try.func32, Try.ntmps32
  go_wp2_with (with_reducible refine wpList_copy_splice rfl (.tmp 7) (.tmp 8) 31 31 rfl 22 Try.underlying31 size_word _ _ n n n cap rfl rfl w.heap.size 0 (List.replicate n (.int .u32 0)) 22 ?c1 (words xs) ?c2 ?c3 ?c4 ?c5 w.heap.size w ?c6 ?c7 ?_)
  case c1 => have := heap_alloc_new w (.cells (List.replicate n (.int .u32 0)).toArray 22); simpa using this
  case c2 => rw [words_len, HN.out]; exact (Nat.min_self n).symm
  case c3 =>
    intro _ j u hu
    obtain ⟨x, hx, rfl⟩ := words_at hu
    exact H4.out j x hx
  case c4 => rw [words_len, HN.out, List.length_replicate]; omega
  case c5 => exact words_one xs
  case c6 => exact (by repeat (first | with_reducible exact Below.refl _ _ | with_reducible refine Below.drew ?_ | (with_reducible refine Below.alloc ?_ (by first | exact Nat.le_refl _ | omega | (simp only [sizes]; omega)) _) | (with_reducible refine Below.setCell ?_ (by first | exact Nat.le_refl _ | omega | (simp only [sizes]; omega)) _) | (refine Below.trans ?_ (Below.mono (by with_reducible assumption) (by first | exact Nat.le_refl _ | omega | (simp only [sizes]; omega))))))
  case c7 => exact Nat.le_refl _
  rintro w1 hh hb1
  go_wp2_with fail
  go_ret
  refine ⟨_, rfl, ⟨?_, by rw [HN.out]; exact h0⟩, hb1⟩
  rw [HN.out]
  have e : splice (List.replicate n (Value.int .u32 0)) 0 (words xs) = words xs := by
    have hl : (words xs).length = n := by rw [words_len, HN.out]
    unfold splice
    rw [List.take_zero, List.nil_append, List.drop_eq_nil_of_le (by rw [List.length_replicate]; omega), List.append_nil]
  have hh2 := hh.out
  rw [e] at hh2
  exact owns_of_block hh2 (Nat.le_refl _) (by rw [words_len, HN.out]) (by unfold maxLen; omega)

theorem own_ne {g b n cap : Nat} (h : g ≠ b) : (Value.slice (some ⟨g, 0, none⟩) n cap).ownBlock ≠ some b := by
  intro e
  injection e with e
  exact h e
theorem HasBlock.under {w w' : World} {b base : Nat} {cs : Array Value} {T : TypeId} (h : HasBlock w b cs T) (hb : Below base w w') (hlt : b < base) : HasBlock w' b cs T := (hb.block b hlt).trans h
theorem owns_set_ne {w : World} {base : Nat} {e : TypeId} {size n : Nat} {v : Value} {xs : List Value} (h : w.ownsRow base e size v n xs) {b j : Nat} (hne : v.ownBlock ≠ some b) (x : Value) : (w.setCell ⟨b, j, none⟩ x).ownsRow base e size v n xs := by
  obtain ⟨h1, h2⟩ := h
  refine ⟨h1, ?_⟩
  rcases h2 with h2 | ⟨g, cap, cur, rfl, e2, e3, h3⟩
  · exact .inl h2
  · exact .inr ⟨g, cap, cur, rfl, e2, (Below.heap_setCell w _ x g (fun e => hne (by rw [e]; rfl))).trans e3, h3⟩
theorem bit_is (G v : Nat) : G / 2 ^ v % 2 = (G.testBit v).toNat := by
  rw [Nat.testBit_eq_decide_div_mod_eq]
  have := Nat.mod_lt (G / 2 ^ v) (show 0 < 2 by omega)
  by_cases h : G / 2 ^ v % 2 = 1
  · rw [decide_eq_true h, h]; rfl
  · rw [decide_eq_false h]; show _ = 0; omega
/-- The reference writes the port, in a memory of the caller's own. -/
def RetGive (base : Nat) (w : World) (T G : Nat) (sv : Value) (n : Nat) (xs : List Int) (e : Ending) (w' : World) : Prop := e = .returned (.agg #[.int .u32 T, .int .u32 G]) ∧ w'.ownsRow base 22 1 sv n (words xs) ∧ Below base w w'
set_option maxHeartbeats 1000000 in
theorem give_else (base g n cap : Nat) (xs : List Int) (T G v : Nat) (port : Int) (w : World) (ha : w.ownsRow base 22 1 (.slice (some ⟨g, 0, none⟩) n cap) n (words xs)) (hb : base ≤ w.heap.size) (hp : port ≠ 10) (hq : port ≠ 11) : Calls Try.prog 33 #[.agg #[.int .u32 T, .int .u32 G], .slice (some ⟨g, 0, none⟩) n cap, .int .i64 port, .int .u32 v] w (RetGive base w T G (.slice (some ⟨g, 0, none⟩) n cap) n xs) := by
  have HA := Lib.hid ha; clear ha
  have e1 : (port == 10) = false := by rw [beq_eq_false_iff_ne]; exact hp
  have e2 : (port == 11) = false := by rw [beq_eq_false_iff_ne]; exact hq
  clear hp hq
  go_enter Try.func33, Try.ntmps33
  go_wp2_with fail
  exact bodyPost_ret (v := .agg #[.int .u32 T, .int .u32 G]) (by simp [results, Try.results33, go_sem]) rfl ⟨rfl, (HA.out.alloc _).alloc _, (by repeat (first | with_reducible exact Below.refl _ _ | with_reducible refine Below.drew ?_ | (with_reducible refine Below.alloc ?_ (by first | exact Nat.le_refl _ | omega | (dsimp only; omega) | (simp only [sizes]; omega)) _) | (with_reducible refine Below.setCell ?_ (by first | exact Nat.le_refl _ | omega | (dsimp only; omega) | (simp only [sizes]; omega)) _) | (refine Below.trans ?_ (Below.mono (by with_reducible assumption) (by first | exact Nat.le_refl _ | omega | (dsimp only; omega) | (simp only [sizes]; omega))))))⟩
set_option maxHeartbeats 1000000 in
theorem give_take (base g n cap : Nat) (xs : List Int) (T G v : Nat) (w : World) (ha : w.ownsRow base 22 1 (.slice (some ⟨g, 0, none⟩) n cap) n (words xs)) (hb : base ≤ w.heap.size) (_hG : G < 4294967296) (hv : v < 4294967296) : Calls Try.prog 33 #[.agg #[.int .u32 T, .int .u32 G], .slice (some ⟨g, 0, none⟩) n cap, .int .i64 11, .int .u32 v] w (RetGive base w T (if v < 32 then clrN G v else G) (.slice (some ⟨g, 0, none⟩) n cap) n xs) := by
  have HA := Lib.hid ha; clear ha
  by_cases h : v < 32
  · rw [if_pos h]
    have am := two_mod h
    have a1 := andNot_u32 G v
    have a2 := clrN_lt G v
    obtain ⟨G1, hG1⟩ : ∃ x, clrN G v = x := ⟨_, rfl⟩
    rw [hG1] at a1 a2 ⊢
    clear hG1
    go_enter Try.func33, Try.ntmps33
    go_wp2_with fail
    exact bodyPost_ret (v := .agg #[.int .u32 T, .int .u32 G1]) (by simp [results, Try.results33, go_sem]) rfl ⟨rfl, (HA.out.alloc _).alloc _, (by repeat (first | with_reducible exact Below.refl _ _ | with_reducible refine Below.drew ?_ | (with_reducible refine Below.alloc ?_ (by first | exact Nat.le_refl _ | omega | (dsimp only; omega) | (simp only [sizes]; omega)) _) | (with_reducible refine Below.setCell ?_ (by first | exact Nat.le_refl _ | omega | (dsimp only; omega) | (simp only [sizes]; omega)) _) | (refine Below.trans ?_ (Below.mono (by with_reducible assumption) (by first | exact Nat.le_refl _ | omega | (dsimp only; omega) | (simp only [sizes]; omega))))))⟩
  · rw [if_neg h]
    go_enter Try.func33, Try.ntmps33
    go_wp2_with fail
    exact bodyPost_ret (v := .agg #[.int .u32 T, .int .u32 G]) (by simp [results, Try.results33, go_sem]) rfl ⟨rfl, (HA.out.alloc _).alloc _, (by repeat (first | with_reducible exact Below.refl _ _ | with_reducible refine Below.drew ?_ | (with_reducible refine Below.alloc ?_ (by first | exact Nat.le_refl _ | omega | (dsimp only; omega) | (simp only [sizes]; omega)) _) | (with_reducible refine Below.setCell ?_ (by first | exact Nat.le_refl _ | omega | (dsimp only; omega) | (simp only [sizes]; omega)) _) | (refine Below.trans ?_ (Below.mono (by with_reducible assumption) (by first | exact Nat.le_refl _ | omega | (dsimp only; omega) | (simp only [sizes]; omega))))))⟩
set_option maxHeartbeats 1000000 in
theorem give_keep (base g n cap : Nat) (xs : List Int) (T G v : Nat) (w : World) (ha : w.ownsRow base 22 1 (.slice (some ⟨g, 0, none⟩) n cap) n (words xs)) (hb : base ≤ w.heap.size) (hn : n ≤ 1024) (hG : G < 4294967296) (hv : v < 4294967296) (hno : ¬ (v < pagesN n ∧ G.testBit v = false)) : Calls Try.prog 33 #[.agg #[.int .u32 T, .int .u32 G], .slice (some ⟨g, 0, none⟩) n cap, .int .i64 10, .int .u32 v] w (RetGive base w T G (.slice (some ⟨g, 0, none⟩) n cap) n xs) := by
  have HA := Lib.hid ha; clear ha
  have P := fun w => page_any (some ⟨g, 0, none⟩) n cap v w (by omega) hv
  have hpl := pagesN_le n
  by_cases hp : v < pagesN n
  · have hh : hasB n v = true := decide_eq_true (by omega)
    have hbt : G.testBit v = true := by
      cases hb : G.testBit v
      · exact absurd ⟨hp, hb⟩ hno
      · rfl
    have a1 := bit_at G v hG
    rw [bit_is, hbt] at a1
    rw [hh] at P
    have HP := Lib.hid P; clear P hh hno
    have hv32 : v < 32 := by omega
    go_enter Try.func33, Try.ntmps33
    go_wp2_with fail
    refine (HP.out _).mono ?_
    rintro e w1 ⟨rfl, hb1⟩
    obtain ⟨hc1, hf1⟩ := bcell hb1
    have hz1 := bsize hb1
    try simp only [sizes1] at hz1
    try simp only [sizes] at hc1 hf1
    obtain ⟨D1, D2⟩ := out_blocks w (.int .u32 T) (.int .u32 G) (.int .u32 0) (.int .u32 0) 25
    replace D1 := D1.below hb1
    replace D2 := D2.below hb1
    have x0 := (D1.cell 0).trans rfl
    have x1 := (D1.cell 1).trans rfl
    have y0 := (D2.cell 0).trans rfl
    have y1 := (D2.cell 1).trans rfl
    have xf := D1.free
    have yf := D2.free
    have xz := D1.lt
    have yz := D2.lt
    clear hc1 hf1
    go_wp2_with fail
    have hgw : g < w.heap.size := (HA.out.lt g rfl).2
    exact bodyPost_ret (v := .agg #[.int .u32 T, .int .u32 G]) (by simp [results, Try.results33, go_sem, y0, y1]) rfl ⟨rfl, owns_set_ne (owns_set_ne (owns_below ((HA.out.alloc _).alloc _) hb1) (own_ne (by omega)) _) (own_ne (by omega)) _, (by repeat (first | with_reducible exact Below.refl _ _ | with_reducible refine Below.drew ?_ | (with_reducible refine Below.alloc ?_ (by first | exact Nat.le_refl _ | omega | (dsimp only; omega) | (simp only [sizes]; omega)) _) | (with_reducible refine Below.setCell ?_ (by first | exact Nat.le_refl _ | omega | (dsimp only; omega) | (simp only [sizes]; omega)) _) | (refine Below.trans ?_ (Below.mono (by with_reducible assumption) (by first | exact Nat.le_refl _ | omega | (dsimp only; omega) | (simp only [sizes]; omega))))))⟩
  · have hh : hasB n v = false := decide_eq_false (by omega)
    rw [hh] at P
    have HP := Lib.hid P; clear P hh hno
    go_enter Try.func33, Try.ntmps33
    go_wp2_with fail
    refine (HP.out _).mono ?_
    rintro e w1 ⟨rfl, hb1⟩
    obtain ⟨hc1, hf1⟩ := bcell hb1
    have hz1 := bsize hb1
    try simp only [sizes1] at hz1
    try simp only [sizes] at hc1 hf1
    obtain ⟨D1, D2⟩ := out_blocks w (.int .u32 T) (.int .u32 G) (.int .u32 0) (.int .u32 0) 25
    replace D1 := D1.below hb1
    replace D2 := D2.below hb1
    have x0 := (D1.cell 0).trans rfl
    have x1 := (D1.cell 1).trans rfl
    have y0 := (D2.cell 0).trans rfl
    have y1 := (D2.cell 1).trans rfl
    have xf := D1.free
    have yf := D2.free
    have xz := D1.lt
    have yz := D2.lt
    clear hc1 hf1
    go_wp2_with fail
    have hgw : g < w.heap.size := (HA.out.lt g rfl).2
    exact bodyPost_ret (v := .agg #[.int .u32 T, .int .u32 G]) (by simp [results, Try.results33, go_sem, y0, y1]) rfl ⟨rfl, owns_set_ne (owns_set_ne (owns_below ((HA.out.alloc _).alloc _) hb1) (own_ne (by omega)) _) (own_ne (by omega)) _, (by repeat (first | with_reducible exact Below.refl _ _ | with_reducible refine Below.drew ?_ | (with_reducible refine Below.alloc ?_ (by first | exact Nat.le_refl _ | omega | (dsimp only; omega) | (simp only [sizes]; omega)) _) | (with_reducible refine Below.setCell ?_ (by first | exact Nat.le_refl _ | omega | (dsimp only; omega) | (simp only [sizes]; omega)) _) | (refine Below.trans ?_ (Below.mono (by with_reducible assumption) (by first | exact Nat.le_refl _ | omega | (dsimp only; omega) | (simp only [sizes]; omega))))))⟩
set_option maxHeartbeats 2000000 in
theorem give_give (base g n cap : Nat) (xs : List Int) (T G v : Nat) (w : World) (hx : xs.length = n) (ha : w.ownsRow base 22 1 (.slice (some ⟨g, 0, none⟩) n cap) n (words xs)) (hb : base ≤ w.heap.size) (hn : n ≤ 1024) (hG : G < 4294967296) (hv : v < pagesN n) (hbt : G.testBit v = false) : Calls Try.prog 33 #[.agg #[.int .u32 T, .int .u32 G], .slice (some ⟨g, 0, none⟩) n cap, .int .i64 10, .int .u32 v] w (RetGive base w T (setN G v) (.slice (some ⟨g, 0, none⟩) n cap) n (clearP xs v 32)) := by
  have HA := Lib.hid ha; clear ha
  have hpl := pagesN_le n
  have hfit := pagesN_fit hv
  have P := fun w => page_any (some ⟨g, 0, none⟩) n cap v w (by omega) (by omega)
  have hh : hasB n v = true := decide_eq_true (by omega)
  have a1 := bit_at G v hG
  rw [bit_is, hbt] at a1
  rw [hh] at P
  have HP := Lib.hid P; clear P hh
  have h : v < 32 := by omega
  have am := two_mod h
  have a4 := or_u32 G v hG h
  have a5 := setN_lt hG h
  obtain ⟨G1, hG1⟩ : ∃ x, setN G v = x := ⟨_, rfl⟩
  rw [hG1] at a4 a5 ⊢
  clear hG1 hbt
  have HX := Lib.hid hx; clear hx
  have hgw : g < w.heap.size := (HA.out.lt g rfl).2
  have hgb : base ≤ g := (HA.out.lt g rfl).1
  go_enter Try.func33, Try.ntmps33
  go_wp2_with fail
  refine (HP.out _).mono ?_
  rintro e w1 ⟨rfl, hb1⟩
  obtain ⟨hc1, hf1⟩ := bcell hb1
  have hz1 := bsize hb1
  try simp only [sizes1] at hz1
  try simp only [sizes] at hc1 hf1
  obtain ⟨D1, D2⟩ := out_blocks w (.int .u32 T) (.int .u32 G) (.int .u32 0) (.int .u32 0) 25
  replace D1 := D1.below hb1
  replace D2 := D2.below hb1
  have x0 := (D1.cell 0).trans rfl
  have x1 := (D1.cell 1).trans rfl
  have y0 := (D2.cell 0).trans rfl
  have y1 := (D2.cell 1).trans rfl
  have xf := D1.free
  have yf := D2.free
  have xz := D1.lt
  have yz := D2.lt
  clear hc1 hf1
  go_wp2_with fail
  have E1 := D1.set_at 1 (.int .u32 G1)
  have E2 := D2.set_ne (b' := w.heap.size) (j := 1) (by omega) (.int .u32 G1)
  have ho := owns_set_ne (b := w.heap.size) (j := 1) (owns_below ((HA.out.alloc (.cells #[.int .u32 T, .int .u32 G] 25)).alloc (.cells #[.int .u32 0, .int .u32 0] 25)) hb1) (own_ne (by omega)) (.int .u32 G1)
  have hbw : Below base w (w1.setCell ⟨w.heap.size, 1, none⟩ (.int .u32 G1)) := (by repeat (first | with_reducible exact Below.refl _ _ | with_reducible refine Below.drew ?_ | (with_reducible refine Below.alloc ?_ (by first | exact Nat.le_refl _ | omega | (dsimp only; omega) | (simp only [sizes]; omega)) _) | (with_reducible refine Below.setCell ?_ (by first | exact Nat.le_refl _ | omega | (dsimp only; omega) | (simp only [sizes]; omega)) _) | (refine Below.trans ?_ (Below.mono (by with_reducible assumption) (by first | exact Nat.le_refl _ | omega | (dsimp only; omega) | (simp only [sizes]; omega))))))
  clear x0 x1 y0 y1 xf yf D1 D2 hb1
  generalize hW : w1.setCell ⟨w.heap.size, 1, none⟩ (.int .u32 G1) = w2 at E1 E2 ho hbw ⊢
  clear hW
  have HO := Lib.hid ho; clear ho
  go_loopw [9] (fun i wr => ∃ k : Nat, k ≤ 32 ∧ i = .int .i64 k ∧ HasBlock wr w.heap.size #[.int .u32 T, .int .u32 G1] 25 ∧ HasBlock wr (w.heap.size + 1) #[.int .u32 0, .int .u32 0] 25 ∧ wr.ownsRow base 22 1 (.slice (some ⟨g, 0, none⟩) n cap) n (words (clearP xs v k)) ∧ Below base w wr) (fun i _ => 32 - (intOf i).toNat)
  case atStart => exact ⟨0, by omega, rfl, E1, E2, HO.out, hbw⟩
  case round =>
    obtain ⟨k, hk, rfl, D1, D2, hown, hbr⟩ := hrel
    have hgl := (hown.lt g rfl).2
    by_cases hlt : k < 32
    · have hlen := clearP_len xs v k
      rw [HX.out] at hlen
      obtain ⟨x, hx⟩ := get_lt (xs := clearP xs v k) (k := v * 32 + k) (by omega)
      have hcell : wr.cell? ⟨g, v * 32 + k, none⟩ = some (.int .u32 x) := (hown.cellAt (v * 32 + k) (by omega)).trans (by unfold words; rw [List.getElem?_map, hx]; rfl)
      have hfree := hown.frozenAt (v * 32 + k)
      have HO3 := Lib.hid hown; clear hown hx hlen
      go_wp2_with fail
      go_roundw
      case rel =>
        refine ⟨k + 1, by omega, by go_num, D1.set_ne (by omega) _, D2.set_ne (by omega) _, ?_, (by repeat (first | with_reducible exact Below.refl _ _ | with_reducible refine Below.drew ?_ | (with_reducible refine Below.alloc ?_ (by first | exact Nat.le_refl _ | omega | (dsimp only; omega) | (simp only [sizes]; omega)) _) | (with_reducible refine Below.setCell ?_ (by first | exact Nat.le_refl _ | omega | (dsimp only; omega) | (simp only [sizes]; omega)) _) | (refine Below.trans ?_ (Below.mono (by with_reducible assumption) (by first | exact Nat.le_refl _ | omega | (dsimp only; omega) | (simp only [sizes]; omega))))))⟩
        have h5 := (HO3.out.stored (v * 32 + k) (.int .u32 0)).1
        rw [words_set] at h5
        exact h5
      case measure => simp [intOf]; omega
    · obtain rfl : k = 32 := by omega
      have HO3 := Lib.hid hown; clear hown
      have x0 := (D1.cell 0).trans rfl
      have x1 := (D1.cell 1).trans rfl
      have y0 := (D2.cell 0).trans rfl
      have y1 := (D2.cell 1).trans rfl
      have yf := D2.free

      go_wp2_with fail
      exact bodyPost_ret (v := .agg #[.int .u32 T, .int .u32 G1]) (by simp [results, Try.results33, go_sem, y0, y1]) rfl ⟨rfl, owns_set_ne (owns_set_ne HO3.out (own_ne (by omega)) _) (own_ne (by omega)) _, (by repeat (first | with_reducible exact Below.refl _ _ | with_reducible refine Below.drew ?_ | (with_reducible refine Below.alloc ?_ (by first | exact Nat.le_refl _ | omega | (dsimp only; omega) | (simp only [sizes]; omega)) _) | (with_reducible refine Below.setCell ?_ (by first | exact Nat.le_refl _ | omega | (dsimp only; omega) | (simp only [sizes]; omega)) _) | (refine Below.trans ?_ (Below.mono (by with_reducible assumption) (by first | exact Nat.le_refl _ | omega | (dsimp only; omega) | (simp only [sizes]; omega))))))⟩
theorem give_any (base g n cap : Nat) (xs : List Int) (T G v : Nat) (port : Int) (w : World) (hx : xs.length = n) (ha : w.ownsRow base 22 1 (.slice (some ⟨g, 0, none⟩) n cap) n (words xs)) (hb : base ≤ w.heap.size) (hn : n ≤ 1024) (hG : G < 4294967296) (hv : v < 4294967296) :
    Calls Try.prog 33 #[.agg #[.int .u32 T, .int .u32 G], .slice (some ⟨g, 0, none⟩) n cap, .int .i64 port, .int .u32 v] w (RetGive base w T (outG G n port v) (.slice (some ⟨g, 0, none⟩) n cap) n (outM G xs port v)) := by
  unfold outG outM
  have hpl := pagesN_le n
  rw [hx]
  by_cases h10 : port = 10
  · subst h10
    by_cases hp : v < pagesN n ∧ G.testBit v = false
    · rw [if_pos (show v < 32 by omega), if_pos rfl, if_pos hp, if_pos ⟨by omega, rfl, hp.1, hp.2⟩]
      exact give_give base g n cap xs T G v w hx ha hb hn hG hp.1 hp.2
    · rw [if_neg (c := v < 32 ∧ (10 : Int) = 10 ∧ v < pagesN n ∧ G.testBit v = false) (fun e => hp e.2.2), if_pos rfl, if_neg hp, ite_self]
      exact give_keep base g n cap xs T G v w ha hb hn hG hv hp
  · rw [if_neg h10, if_neg (c := v < 32 ∧ port = 10 ∧ v < pagesN n ∧ G.testBit v = false) (fun e => h10 e.2.1)]
    by_cases h11 : port = 11
    · subst h11
      rw [if_pos rfl]
      exact give_take base g n cap xs T G v w ha hb hG hv
    · rw [if_neg h11, ite_self]
      exact give_else base g n cap xs T G v port w ha hb h10 h11
theorem outM_len (G : Nat) (xs : List Int) (port : Int) (v : Nat) : (outM G xs port v).length = xs.length := by
  unfold outM
  split
  · exact clearP_len _ _ _
  · rfl
set_option maxHeartbeats 1000000 in
theorem rout_any (va : Value) (xs : List Int) (T G v : Nat) (port : Int) (w : World) (ha : MemRow w va xs) (hn : xs.length ≤ 1024) (hG : G < 4294967296) (hv : v < 4294967296) : Calls Try.prog 17 #[.agg #[.int .u32 T, .int .u32 G], va, .int .i64 port, .int .u32 v] w (RetOut w T (outG G xs.length port v) (outM G xs port v)) := by
  have GV := fun base g cap w => give_any base g xs.length cap xs T G v port w rfl
  have hlen := outM_len G xs port v
  obtain ⟨G1, hG1⟩ : ∃ x, outG G xs.length port v = x := ⟨_, rfl⟩
  obtain ⟨ys, hys⟩ : ∃ x, outM G xs port v = x := ⟨_, rfl⟩
  rw [hG1, hys] at GV
  rw [hys] at hlen
  rw [hG1, hys]
  clear hG1 hys
  have HGV := Lib.hid GV; clear GV
  have HL := Lib.hid hlen; clear hlen
  have HROW := Lib.hid ha
  obtain ⟨b, off, cap, rfl, h1, h2, h0, h3, h4⟩ := ha
  clear h3 h4 h2
  go_enter Try.func17, Try.ntmps17
  go_wp2_with fail
  refine (copy_any _ xs _ (HROW.out.below (by repeat (first | with_reducible exact Below.refl _ _ | with_reducible refine Below.drew ?_ | (with_reducible refine Below.alloc ?_ (by first | exact Nat.le_refl _ | omega | (simp only [sizes]; omega)) _) | (with_reducible refine Below.setCell ?_ (by first | exact Nat.le_refl _ | omega | (simp only [sizes]; omega)) _) | (refine Below.trans ?_ (Below.mono (by with_reducible assumption) (by first | exact Nat.le_refl _ | omega | (simp only [sizes]; omega))))))) hn).mono ?_
  rintro e w1 ⟨v1, rfl, ho1, hb1⟩
  obtain ⟨D1, D2⟩ := out_blocks w (.int .u32 T) (.int .u32 G) (.int .u32 0) (.int .u32 0) 25
  replace D1 := D1.below hb1
  replace D2 := D2.below hb1
  have x0 := (D1.cell 0).trans rfl
  have x1 := (D1.cell 1).trans rfl
  have y0 := (D2.cell 0).trans rfl
  have y1 := (D2.cell 1).trans rfl
  have xf := D1.free
  have yf := D2.free
  have xz := D1.lt
  have yz := D2.lt
  rcases ho1.1.2 with ⟨_, hbad⟩ | ⟨g, cap1, _, hvv, hg, _, hgc, hgm, _⟩
  · omega
  subst hvv
  have HO := Lib.hid ho1; clear ho1
  have hz1 := bsize hb1
  simp only [sizes] at hz1
  go_wp2_with fail
  have ho := HO.out.1
  simp only [sizes] at ho
  refine (HGV.out (w.heap.size + 1 + 1) g cap1 _ ho (by omega) hn hG hv).mono ?_
  clear ho
  rintro e w2 ⟨rfl, ho2, hb2⟩
  have hz2 := hb2.size
  have E1 := D1.under hb2 (by omega)
  have E2 := D2.under hb2 (by omega)
  clear x0 x1 y0 y1 xf yf xz yz D1 D2
  have x0 := (E1.cell 0).trans rfl
  have x1 := (E1.cell 1).trans rfl
  have y0 := (E2.cell 0).trans rfl
  have y1 := (E2.cell 1).trans rfl
  have yf := E2.free
  have yz := E2.lt
  have hb1' : Below w.heap.size w w1 := (by repeat (first | with_reducible exact Below.refl _ _ | with_reducible refine Below.drew ?_ | (with_reducible refine Below.alloc ?_ (by first | exact Nat.le_refl _ | omega | (dsimp only; omega) | (simp only [sizes]; omega)) _) | (with_reducible refine Below.setCell ?_ (by first | exact Nat.le_refl _ | omega | (dsimp only; omega) | (simp only [sizes]; omega)) _) | (refine Below.trans ?_ (Below.mono (by with_reducible assumption) (by first | exact Nat.le_refl _ | omega | (dsimp only; omega) | (simp only [sizes]; omega))))))
  have hbw : Below w.heap.size w w2 := hb1'.trans (hb2.mono (by omega))
  have hgb := (ho2.lt g rfl).1
  have hgl := (ho2.lt g rfl).2
  clear hb1 hb2 hb1'
  have HO2 := Lib.hid ho2; clear ho2
  go_wp2_with fail
  have ho3 := (owns_set_ne (b := w.heap.size + 1) (j := 1) (owns_set_ne (b := w.heap.size + 1) (j := 0) HO2.out (own_ne (by omega)) (.int .u32 T)) (own_ne (by omega)) (.int .u32 G1)).alloc (.cells #[.int .u32 T, .int .u32 G1] 25)
  have hom : OwnMem w.heap.size _ (.slice (some ⟨g, 0, none⟩) xs.length cap1) ys := OwnMem.lower (base := w.heap.size + 1 + 1) ⟨by rw [HL.out]; exact ho3, by rw [HL.out]; exact h0⟩ (by omega)
  clear ho3
  exact bodyPost_ret (v := .tuple #[.agg #[.int .u32 T, .int .u32 G1], .slice (some ⟨g, 0, none⟩) xs.length cap1]) (by simp [results, Try.results17, go_sem, y0, y1, yz]) rfl ⟨_, rfl, hom, (by repeat (first | with_reducible exact Below.refl _ _ | with_reducible refine Below.drew ?_ | (with_reducible refine Below.alloc ?_ (by first | exact Nat.le_refl _ | omega | (dsimp only; omega) | (simp only [sizes]; omega)) _) | (with_reducible refine Below.setCell ?_ (by first | exact Nat.le_refl _ | omega | (dsimp only; omega) | (simp only [sizes]; omega)) _) | (refine Below.trans ?_ (Below.mono (by with_reducible assumption) (by first | exact Nat.le_refl _ | omega | (dsimp only; omega) | (simp only [sizes]; omega))))))⟩
end Go.Proofs.Ytalfiiodioihdaa
