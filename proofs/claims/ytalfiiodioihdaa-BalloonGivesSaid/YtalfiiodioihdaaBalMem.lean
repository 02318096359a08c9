/-
  The memory's functions that the balloon needs, walked.
-/
import Derived.Test.YtalfiiodioihdaaBal
import Derived.Test.YtalfiiodioihdaaRegions
namespace Go.Proofs.Ytalfiiodioihdaa
open Go.RowKit

theorem info_word : (Try.prog.info? 22).map (fun i => (i.zero, i.size, i.bytes)) = some (some (.int .u32 0), 1, 4) := by kernel_rfl
def words (xs : List Int) : List Value := xs.map (Value.int .u32)
/-- A slice of at least one word, somewhere below. -/
def MemRow (w : World) (v : Value) (xs : List Int) : Prop := ∃ b off cap, v = .slice (some ⟨b, off, none⟩) xs.length cap ∧ xs.length ≤ cap ∧ cap ≤ maxLen ∧ 0 < xs.length ∧ b < w.heap.size ∧ ∀ (i : Nat) (x : Int), xs[i]? = some x → w.cell? ⟨b, off + i, none⟩ = some (.int .u32 x)
theorem MemRow.below {w w' : World} {v : Value} {xs : List Int} (h : MemRow w v xs) (hb : Below w.heap.size w w') : MemRow w' v xs := by
  obtain ⟨b, off, cap, hv, h1, h2, h0, h3, h4⟩ := h
  exact ⟨b, off, cap, hv, h1, h2, h0, Nat.lt_of_lt_of_le h3 hb.size, fun i x hx => (hb.cell (p := ⟨b, off + i, none⟩) h3).trans (h4 i x hx)⟩
def OwnMem (base : Nat) (w : World) (v : Value) (xs : List Int) : Prop := w.ownsRow base 22 1 v xs.length (words xs) ∧ 0 < xs.length
theorem OwnMem.row {base : Nat} {w : World} {v : Value} {xs : List Int} (h : OwnMem base w v xs) : MemRow w v xs := by
  obtain ⟨⟨hl, h⟩, h0⟩ := h
  rcases h with ⟨_, h⟩ | ⟨g, cap, cur, rfl, hb, hg, hn, hm, hs, ht⟩
  · omega
  · refine ⟨g, 0, cap, rfl, hn, hm, h0, (Array.getElem?_eq_some_iff.1 hg).1, fun i x hx => ?_⟩
    rw [Nat.zero_add, cell_of_row w g i cur _ (0, 0) hg]
    have hu : (words xs)[i]? = some (.int .u32 x) := by unfold words; rw [List.getElem?_map, hx]; rfl
    rw [← ht, List.getElem?_take] at hu
    split at hu
    · simpa using hu
    · cases hu
theorem OwnMem.below {base : Nat} {w w' : World} {v : Value} {xs : List Int} (h : OwnMem base w v xs) (hb : Below w.heap.size w w') : OwnMem base w' v xs := ⟨owns_below h.1 hb, h.2⟩
theorem OwnMem.lower {base base' : Nat} {w : World} {v : Value} {xs : List Int} (h : OwnMem base w v xs) (hb : base' ≤ base) : OwnMem base' w v xs := by
  obtain ⟨⟨h1, h2⟩, h0⟩ := h
  refine ⟨⟨h1, ?_⟩, h0⟩
  rcases h2 with h2 | ⟨g, cap, cur, e1, e2, h3⟩
  · exact .inl h2
  · exact .inr ⟨g, cap, cur, e1, Nat.le_trans hb e2, h3⟩

def pagesN (n : Nat) : Nat := if n % 32 = 0 ∧ n ≤ 1024 then n / 32 else 0
theorem pagesN_le (n : Nat) : pagesN n ≤ 32 := by unfold pagesN; split <;> omega
theorem pagesN_fit {n p : Nat} (h : p < pagesN n) : p * 32 + 32 ≤ n ∧ n ≤ 1024 := by
  unfold pagesN at h
  split at h <;> omega
theorem mpages_any (ao : Option Addr) (n cap : Nat) (w : World) (hn : n ≤ 1099511627776) : Calls Try.prog 26 #[.slice ao n cap] w (Ret w (.int .i64 (pagesN n))) := by
  unfold pagesN
  by_cases h : n % 32 = 0 ∧ n ≤ 1024
  · rw [if_pos h]
    obtain ⟨h1, h2⟩ := h
    have e0 : (n : Int) % 32 = 0 := by omega
    go_enter Try.func26, Try.ntmps26
    go_wp2_with fail
    go_ret
    exact Ret.mk (by repeat (first | with_reducible exact Below.refl _ _ | with_reducible refine Below.drew ?_ | (with_reducible refine Below.alloc ?_ (by first | exact Nat.le_refl _ | omega | (simp only [sizes]; omega)) _) | (with_reducible refine Below.setCell ?_ (by first | exact Nat.le_refl _ | omega | (simp only [sizes]; omega)) _) | (refine Below.trans ?_ (Below.mono (by with_reducible assumption) (by first | exact Nat.le_refl _ | omega | (simp only [sizes]; omega))))))
  · rw [if_neg h]
    by_cases h1 : n % 32 = 0
    · have h2 : 1024 < n := by omega
      have e0 : (n : Int) % 32 = 0 := by omega
      go_enter Try.func26, Try.ntmps26
      go_wp2_with fail
      go_ret
      exact Ret.mk (by repeat (first | with_reducible exact Below.refl _ _ | with_reducible refine Below.drew ?_ | (with_reducible refine Below.alloc ?_ (by first | exact Nat.le_refl _ | omega | (simp only [sizes]; omega)) _) | (with_reducible refine Below.setCell ?_ (by first | exact Nat.le_refl _ | omega | (simp only [sizes]; omega)) _) | (refine Below.trans ?_ (Below.mono (by with_reducible assumption) (by first | exact Nat.le_refl _ | omega | (simp only [sizes]; omega))))))
    · have e0 : ((n : Int) % 32 != 0) = true := by rw [bne_iff_ne]; omega
      have e1 : (n % 32 != 0) = true := by rw [bne_iff_ne]; omega
      go_enter Try.func26, Try.ntmps26
      go_wp2_with fail
      go_ret
      exact Ret.mk (by repeat (first | with_reducible exact Below.refl _ _ | with_reducible refine Below.drew ?_ | (with_reducible refine Below.alloc ?_ (by first | exact Nat.le_refl _ | omega | (simp only [sizes]; omega)) _) | (with_reducible refine Below.setCell ?_ (by first | exact Nat.le_refl _ | omega | (simp only [sizes]; omega)) _) | (refine Below.trans ?_ (Below.mono (by with_reducible assumption) (by first | exact Nat.le_refl _ | omega | (simp only [sizes]; omega))))))
theorem rpages_any (ao : Option Addr) (n cap : Nat) (w : World) (hn : n ≤ 1099511627776) : Calls Try.prog 10 #[.slice ao n cap] w (Ret w (.int .i64 (pagesN n))) := by
  unfold pagesN
  by_cases h : n % 32 = 0 ∧ n ≤ 1024
  · rw [if_pos h]
    obtain ⟨h1, h2⟩ := h
    have e0 : (n : Int) % 32 = 0 := by omega
    go_enter Try.func10, Try.ntmps10
    go_wp2_with fail
    go_ret
    exact Ret.mk (by repeat (first | with_reducible exact Below.refl _ _ | with_reducible refine Below.drew ?_ | (with_reducible refine Below.alloc ?_ (by first | exact Nat.le_refl _ | omega | (simp only [sizes]; omega)) _) | (with_reducible refine Below.setCell ?_ (by first | exact Nat.le_refl _ | omega | (simp only [sizes]; omega)) _) | (refine Below.trans ?_ (Below.mono (by with_reducible assumption) (by first | exact Nat.le_refl _ | omega | (simp only [sizes]; omega))))))
  · rw [if_neg h]
    by_cases h1 : n % 32 = 0
    · have h2 : 1024 < n := by omega
      have e0 : (n : Int) % 32 = 0 := by omega
      go_enter Try.func10, Try.ntmps10
      go_wp2_with fail
      go_ret
      exact Ret.mk (by repeat (first | with_reducible exact Below.refl _ _ | with_reducible refine Below.drew ?_ | (with_reducible refine Below.alloc ?_ (by first | exact Nat.le_refl _ | omega | (simp only [sizes]; omega)) _) | (with_reducible refine Below.setCell ?_ (by first | exact Nat.le_refl _ | omega | (simp only [sizes]; omega)) _) | (refine Below.trans ?_ (Below.mono (by with_reducible assumption) (by first | exact Nat.le_refl _ | omega | (simp only [sizes]; omega))))))
    · have e0 : ((n : Int) % 32 != 0) = true := by rw [bne_iff_ne]; omega
      have e1 : (n % 32 != 0) = true := by rw [bne_iff_ne]; omega
      go_enter Try.func10, Try.ntmps10
      go_wp2_with fail
      go_ret
      exact Ret.mk (by repeat (first | with_reducible exact Below.refl _ _ | with_reducible refine Below.drew ?_ | (with_reducible refine Below.alloc ?_ (by first | exact Nat.le_refl _ | omega | (simp only [sizes]; omega)) _) | (with_reducible refine Below.setCell ?_ (by first | exact Nat.le_refl _ | omega | (simp only [sizes]; omega)) _) | (refine Below.trans ?_ (Below.mono (by with_reducible assumption) (by first | exact Nat.le_refl _ | omega | (simp only [sizes]; omega))))))

def hasB (n : Nat) (f : Int) : Bool := decide (0 ≤ f ∧ f < pagesN n)
theorem hasPage_any (ao : Option Addr) (n cap : Nat) (f : Int) (w : World) (hn : n ≤ 1099511627776) : Calls Try.prog 35 #[.slice ao n cap, .int .i64 f] w (Ret w (.bool (hasB n f))) := by
  unfold hasB
  by_cases h0 : 0 ≤ f
  · go_enter Try.func35, Try.ntmps35
    go_wp2_with fail
    refine (mpages_any ao n cap _ hn).mono ?_
    rintro e w1 ⟨rfl, hb1⟩
    obtain ⟨hc1, hf1⟩ := bcell hb1
    have hz1 := bsize hb1
    try simp only [sizes1] at hz1
    try simp only [sizes] at hc1 hf1
    go_wp2_with fail
    go_ret
    exact Ret.mk' (congrArg Value.bool (by rw [Bool.eq_iff_iff]; simp only [decide_eq_true_eq]; omega)) (by repeat (first | with_reducible exact Below.refl _ _ | with_reducible refine Below.drew ?_ | (with_reducible refine Below.alloc ?_ (by first | exact Nat.le_refl _ | omega | (simp only [sizes]; omega)) _) | (with_reducible refine Below.setCell ?_ (by first | exact Nat.le_refl _ | omega | (simp only [sizes]; omega)) _) | (refine Below.trans ?_ (Below.mono (by with_reducible assumption) (by first | exact Nat.le_refl _ | omega | (simp only [sizes]; omega))))))
  · go_enter Try.func35, Try.ntmps35
    go_wp2_with fail
    go_ret
    exact Ret.mk' (congrArg Value.bool (by rw [decide_eq_false (p := 0 ≤ f) (by omega), Bool.false_and])) (by repeat (first | with_reducible exact Below.refl _ _ | with_reducible refine Below.drew ?_ | (with_reducible refine Below.alloc ?_ (by first | exact Nat.le_refl _ | omega | (simp only [sizes]; omega)) _) | (with_reducible refine Below.setCell ?_ (by first | exact Nat.le_refl _ | omega | (simp only [sizes]; omega)) _) | (refine Below.trans ?_ (Below.mono (by with_reducible assumption) (by first | exact Nat.le_refl _ | omega | (simp only [sizes]; omega))))))
theorem page_any (ao : Option Addr) (n cap v : Nat) (w : World) (hn : n ≤ 1099511627776) (hv : v < 4294967296) : Calls Try.prog 42 #[.slice ao n cap, .int .u32 v] w (Ret w (.bool (hasB n v))) := by
  have hp := pagesN_le n
  have P := fun w => rpages_any ao n cap w hn
  have hh : hasB n v = decide ((v : Int) < pagesN n) := by unfold hasB; rw [Bool.eq_iff_iff]; simp only [decide_eq_true_eq]; omega
  rw [hh]
  obtain ⟨q, hq⟩ : ∃ q, pagesN n = q := ⟨_, rfl⟩
  rw [hq] at hp P ⊢
  have HP := Lib.hid P; clear P hq hh
  go_enter Try.func42, Try.ntmps42
  go_wp2_with fail
  refine (HP.out _).mono ?_
  rintro e w1 ⟨rfl, hb1⟩
  obtain ⟨hc1, hf1⟩ := bcell hb1
  have hz1 := bsize hb1
  try simp only [sizes1] at hz1
  try simp only [sizes] at hc1 hf1
  go_wp2_with fail
  go_ret
  exact Ret.mk' (congrArg Value.bool (by first | rfl | (rw [Bool.eq_iff_iff]; simp only [decide_eq_true_eq]; omega))) (by repeat (first | with_reducible exact Below.refl _ _ | with_reducible refine Below.drew ?_ | (with_reducible refine Below.alloc ?_ (by first | exact Nat.le_refl _ | omega | (simp only [sizes]; omega)) _) | (with_reducible refine Below.setCell ?_ (by first | exact Nat.le_refl _ | omega | (simp only [sizes]; omega)) _) | (refine Below.trans ?_ (Below.mono (by with_reducible assumption) (by first | exact Nat.le_refl _ | omega | (simp only [sizes]; omega))))))

theorem owns_full (w : World) (base : Nat) (e : TypeId) (size n : Nat) (cs : List Value) (hn : cs.length = n * size) (hm : n ≤ maxLen) (hb : base ≤ w.heap.size) :
    (w.alloc (.cells cs.toArray e)).ownsRow base e size (.slice (some ⟨w.heap.size, 0, none⟩) n n) n cs := by
  refine ⟨hn, .inr ⟨w.heap.size, n, cs.toArray, rfl, hb, heap_alloc_new w _, Nat.le_refl _, hm, by simpa using hn, ?_⟩⟩
  rw [← hn]
  exact List.take_length
def RetMem (w : World) (xs : List Int) (e : Ending) (w' : World) : Prop := ∃ v, e = .returned v ∧ OwnMem w.heap.size w' v xs ∧ Below w.heap.size w w'
theorem new_any (p : Nat) (w : World) (h1 : 1 ≤ p) (h2 : p ≤ 32) : Calls Try.prog 23 #[.int .i64 p] w (RetMem w (List.replicate (p * 32) 0)) := by
  have hmk := run_make_one (P := Try.prog) 31 22 (.int .u32 0) 4 Try.underlying31 info_word rfl (p * 32) (by omega) (by omega)
  have hmk' : ∀ w : World, (Instr.makeSlice 31 (.int .i64 ((p : Int) * 32)) (.int .i64 ((p : Int) * 32))).run Try.prog w = .ok (.slice (some ⟨w.heap.size, 0, none⟩) (p * 32) (p * 32)) (w.alloc (.cells (List.replicate (p * 32) (.int .u32 0)).toArray 22)) := by
    intro w; have := hmk w; rwa [Int.natCast_mul] at this
  clear hmk
  go_enter Try.func23, Try.ntmps23
  go_wp2_with fail
  go_ret
  refine ⟨_, rfl, ⟨?_, by rw [List.length_replicate]; omega⟩, (by repeat (first | with_reducible exact Below.refl _ _ | with_reducible refine Below.drew ?_ | (with_reducible refine Below.alloc ?_ (by first | exact Nat.le_refl _ | omega | (simp only [sizes]; omega)) _) | (with_reducible refine Below.setCell ?_ (by first | exact Nat.le_refl _ | omega | (simp only [sizes]; omega)) _) | (refine Below.trans ?_ (Below.mono (by with_reducible assumption) (by first | exact Nat.le_refl _ | omega | (simp only [sizes]; omega))))))⟩
  unfold words
  rw [List.length_replicate, List.map_replicate]
  exact owns_full w _ _ _ _ _ (by simp) (by unfold maxLen; omega) (Nat.le_refl _)

theorem clone_any (va : Value) (xs : List Int) (w : World) (ha : MemRow w va xs) (hn : xs.length ≤ 1099511627776) : Calls Try.prog 25 #[va] w (RetMem w xs) := by
  obtain ⟨b, off, cap, rfl, h1, h2, h0, h3, h4⟩ := ha
  obtain ⟨i0, hi, iz0, iz1, iz2⟩ := info_parts info_word
  refine (Try.slices_Clone i0 (.int .u32 0) 1 4 hi iz0 iz1 iz2 rfl (by decide) Try.sizeOf22 b off xs.length cap (words xs) w (by simp [words]) (by omega) (by omega) (fun j u hu => ?_) (fun u hu => ?_)).mono ?_
  · unfold words at hu
    rw [List.getElem?_map] at hu
    cases hx : xs[j]? with
    | none => rw [hx] at hu; simp at hu
    | some x =>
      rw [hx] at hu
      simp at hu
      subst hu
      exact h4 j x hx
  · unfold words at hu
    rw [List.mem_map] at hu
    obtain ⟨x, _, rfl⟩ := hu
    rfl
  · rintro e w' ⟨v', rfl, ho, _, hb⟩
    exact ⟨v', rfl, ⟨ho, h0⟩, hb⟩

/-- The words of one page, cleared. -/
def clearP (xs : List Int) (p : Nat) : Nat → List Int
  | 0 => xs
  | k + 1 => (clearP xs p k).set (p * 32 + k) 0
theorem clearP_len (xs : List Int) (p k : Nat) : (clearP xs p k).length = xs.length := by
  induction k with
  | zero => rfl
  | succ k ih => unfold clearP; rw [List.length_set, ih]
def zeros128 : ByteArray := ⟨(List.replicate 128 0).toArray⟩
theorem zeros_cut : ∀ k : Nat, k < 32 → zeros128.extract (4 * k) (4 * k + 4) = ⟨#[0, 0, 0, 0]⟩ := by decide +kernel
theorem words_set (xs : List Int) (j : Nat) (x : Int) : (words xs).set j (.int .u32 x) = words (xs.set j x) := by unfold words; rw [List.map_set]
set_option maxRecDepth 100000 in
set_option maxHeartbeats 4000000 in
theorem setPage_zero (va : Value) (xs : List Int) (p : Nat) (w : World) (ha : MemRow w va xs) (hp : p < pagesN xs.length) : Calls Try.prog 27 #[va, .int .i64 p, .string zeros128] w
    (fun e w' => ∃ v, e = .returned (.tuple #[v, .bool true]) ∧ OwnMem w.heap.size w' v (clearP xs p 32) ∧ Below w.heap.size w w') := by
  have hfit := pagesN_fit hp
  have hrow := ha
  obtain ⟨b, off, cap, rfl, h1, h2, h0, h3, h4⟩ := ha
  clear h3 h4
  have HROW := Lib.hid hrow; clear hrow
  have hhas : hasB xs.length p = true := decide_eq_true (by omega)
  have hsz : zeros128.size = 128 := by decide +kernel
  have HX := fun w => hasPage_any (some ⟨b, off, none⟩) xs.length cap p w (by omega)
  rw [hhas] at HX
  obtain ⟨n, hn⟩ : ∃ n, xs.length = n := ⟨_, rfl⟩
  rw [hn] at HX hfit h0 h1 HROW ⊢
  have HH := Lib.hid HX; clear HX hhas hp
  have HN := Lib.hid hn; clear hn
  have hp32 : p < 32 := by omega
  go_enter Try.func27, Try.ntmps27
  go_wp2_with fail
  refine (clone_any _ xs _ HROW.out (by rw [HN.out]; omega)).mono ?_
  rintro e w1 ⟨v1, rfl, ho1, hb1⟩
  have hz1 := bsize hb1
  rw [OwnMem, HN.out] at ho1
  rcases ho1.1.2 with ⟨_, hbad⟩ | ⟨g, cap1, _, hv, hg, _, hgc, hgm, _⟩
  · omega
  subst hv
  unfold maxLen at hgm
  have HO := Lib.hid ho1.1; clear ho1
  go_wp2_with fail
  refine (HH.out _).mono ?_
  rintro e w2 ⟨rfl, hb2⟩
  have hz2 := bsize hb2
  have hb12 : Below w.heap.size w w2 := hb1.trans (hb2.mono hb1.size)
  have ho2 := owns_below HO.out hb2
  clear hb1 hb2
  have HO2 := Lib.hid ho2; clear ho2
  go_wp2_with fail
  go_loopw [26] (fun i wr => ∃ k : Nat, k ≤ 32 ∧ i = .int .i64 k ∧ wr.ownsRow w.heap.size 22 1 (.slice (some ⟨g, 0, none⟩) n cap1) n (words (clearP xs p k)) ∧ Below w.heap.size w wr) (fun i _ => 32 - (intOf i).toNat)
  case atStart => exact ⟨0, by omega, rfl, HO2.out, hb12⟩
  case round =>
    obtain ⟨k, hk, rfl, hown, hbw⟩ := hrel
    clear hb12 hz1 hz2
    have hsz0 := hbw.size
    by_cases hlt : k < 32
    · have zc := zeros_cut k hlt
      have hgl := hown.lt g rfl
      have hlen := clearP_len xs p k
      rw [HN.out] at hlen
      obtain ⟨x, hx⟩ := get_lt (xs := clearP xs p k) (k := p * 32 + k) (by omega)
      have hcell : wr.cell? ⟨g, p * 32 + k, none⟩ = some (.int .u32 x) := (hown.cellAt (p * 32 + k) (by omega)).trans (by unfold words; rw [List.getElem?_map, hx]; rfl)
      have hfree := hown.frozenAt (p * 32 + k)
      have HO3 := Lib.hid hown; clear hown hx hlen
      go_wp2_with fail
      refine wp_region_tail_below 23 (by kernel_rfl) (by kernel_rfl) ?_
      simp only [List.take_succ_cons, List.take_zero, List.drop_succ_cons, List.drop_zero]
      repeat (go_big_quiet_step (first | fail | fail))
      refine wpQuiet_nil ?_
      intro w3 hw3
      have hb3 := below_of_regrown hw3
      clear hw3
      obtain ⟨hc3, hf3⟩ := bcell hb3
      have hz3 := bsize hb3
      try simp only [sizes1] at hz3
      try simp only [sizes] at hc3 hf3
      have hown3 := owns_below HO3.out hb3
      have hgl3 : g < w3.heap.size := by omega
      have hc3' := (hb3.cell (p := ⟨g, p * 32 + k, none⟩) hgl.2).trans hcell
      have hf3' := (hb3.frozen (p := ⟨g, p * 32 + k, none⟩) hgl.2).trans hfree
      clear hc3 hf3
      go_wp2_with fail
      go_roundw
      case rel =>
        refine ⟨k + 1, by omega, by go_num, ?_, (by repeat (first | with_reducible exact Below.refl _ _ | with_reducible refine Below.drew ?_ | (with_reducible refine Below.alloc ?_ (by first | exact Nat.le_refl _ | omega | (dsimp only; omega) | (simp only [sizes]; omega)) _) | (with_reducible refine Below.setCell ?_ (by first | exact Nat.le_refl _ | omega | (dsimp only; omega) | (simp only [sizes]; omega)) _) | (refine Below.trans ?_ (Below.mono (by with_reducible assumption) (by first | exact Nat.le_refl _ | omega | (dsimp only; omega) | (simp only [sizes]; omega))))))⟩
        have h5 := (hown3.stored (p * 32 + k) (.int .u32 0)).1
        rw [words_set] at h5
        exact h5
      case measure => simp [intOf]; omega
    · obtain rfl : k = 32 := by omega
      have HO3 := Lib.hid hown; clear hown
      go_wp2_with fail
      go_ret2
      have hl := (clearP_len xs p 32).trans HN.out
      exact ⟨_, rfl, ⟨by rw [hl]; exact HO3.out, by omega⟩, hbw⟩
end Go.Proofs.Ytalfiiodioihdaa
