/-
  The law on shares, walked.
-/
import Derived.Test.YtclnjjppcdgkiaaTaxShares
import Derived.Test.YtclnjjppcdgkiaaTaxLawOrders
import Derived.Test.YtclnjjppcdgkiaaRegions
import Derived.RegionTactic
import Derived.BigRegion
import Derived.Deep.RegionLaw
import Derived.Deep.CutRange
namespace Go.Proofs.Ytclnjjppcdgkiaa
open Go.RowKit

theorem made_twice (w : World) (x0 x1 x2 x3 x4 : Value) (T : TypeId) :
    HasBlock ((w.alloc (.cells #[x0, x1, x2, x3, x4] T)).alloc (.cells #[x0, x1, x2, x3, x4] T)) w.heap.size #[x0, x1, x2, x3, x4] T ∧
    HasBlock ((w.alloc (.cells #[x0, x1, x2, x3, x4] T)).alloc (.cells #[x0, x1, x2, x3, x4] T)) (w.heap.size + 1) #[x0, x1, x2, x3, x4] T := two_blocks w x0 x1 x2 x3 x4 x0 x1 x2 x3 x4 T

theorem step_append_own {P : Program} {ops : Array Oper} {w : World} {o : Oper} {a : Act} {K : Act → World → Prop} {Q : Exit → Act → World → Prop} {E : Prop} (hgd : o.guard = none) (s x : Operand) (t : TypeId)
    (ho : o.op = .call { callee := .builtin .append, args := #[s, x], argTypes := #[t, t] })
    (base : Nat) (e : TypeId) (i : TypeInfo) (z : Value) (size bytes : Nat) (ht : P.underlying t = some (.slice e)) (hi : P.info? e = some i) (hz : i.zero = some z)
    (hsize : i.size = size) (hby : i.bytes = bytes) (hzs : z.cells.size = size) (hsz : 0 < size)
    (v : Value) (n : Nat) (xs : List Value) (hs : a.eval s = v) (hown : w.ownsRow base e size v n xs)
    (ad : Addr) (m c : Nat) (news : List Value) (hx : a.eval x = .slice (some ad) m c) (hl : news.length = m * size) (hnews : ∀ j u, news[j]? = some u → w.cell? (ad.add j) = some u) (h1 : ∀ u ∈ news, u.oneCell' = true)
    (h63 : n + m ≤ maxLen) (hbytes : (n + m) * bytes ≤ 140737488355328) (hbase : base ≤ w.heap.size)
    (h : ∀ v' w', w'.ownsRow base e size v' (n + m) (xs ++ news) → w.grownBy w' v.ownBlock → (v' = .slice none 0 0 ↔ v = .slice none 0 0 ∧ m = 0) → K (a.put o.dst v') w') : if Region.wanted o (yielded ops a.tmps) = true then Oper.wp P o a w K Q else E := by
  have hw : Region.wanted o (yielded ops a.tmps) = true := by simp [Region.wanted, hgd]
  rw [if_pos hw]
  exact wp_append_own w s x t ho base e i z size bytes ht hi hz hsize hby hzs hsz v n xs hs hown ad m c news hx hl hnews h1 h63 hbytes hbase h

theorem owns_lower {w : World} {base base' : Nat} {e : TypeId} {size n : Nat} {v : Value} {xs : List Value} (h : w.ownsRow base e size v n xs) (hb : base' ≤ base) : w.ownsRow base' e size v n xs := by
  obtain ⟨h1, h2⟩ := h
  refine ⟨h1, ?_⟩
  rcases h2 with h2 | ⟨g, cap, cur, e1, e2, h3⟩
  · exact .inl h2
  · exact .inr ⟨g, cap, cur, e1, Nat.le_trans hb e2, h3⟩

theorem news_below {W w' : World} {cs : List Value} {e : TypeId} {n : Nat} (hn : n = W.heap.size) (hb : Below (W.alloc (.cells cs.toArray e)).heap.size (W.alloc (.cells cs.toArray e)) w') : ∀ (j : Nat) (u : Value), cs[j]? = some u → w'.cell? ((⟨n, 0, none⟩ : Addr).add j) = some u := by
  intro j u h
  rw [hb.cell ?_]
  · exact cells_made W cs e n hn j u h
  · rw [hn, World.size_alloc]
    unfold Addr.add
    split <;> simp
theorem news_below' {W w' : World} {cs : List Value} {e : TypeId} {n : Nat} (hn : n = W.heap.size) (hb : Below (W.alloc (.cells cs.toArray e)).drew.heap.size (W.alloc (.cells cs.toArray e)).drew w') : ∀ (j : Nat) (u : Value), cs[j]? = some u → w'.cell? ((⟨n, 0, none⟩ : Addr).add j) = some u := by
  intro j u h
  rw [hb.cell ?_]
  · exact cells_made W cs e n hn j u h
  · show _ < (W.alloc (.cells cs.toArray e)).heap.size
    rw [hn, World.size_alloc]
    unfold Addr.add
    split <;> simp
theorem two_one (c d : Clm) : ∀ u ∈ clmCells c ++ clmCells d, u.oneCell' = true := by
  intro u hu
  rw [List.mem_append] at hu
  rcases hu with hu | hu
  · exact clm_one _ u hu
  · exact clm_one _ u hu
theorem clmRow_of {w : World} {base n : Nat} {v : Value} {cs : List Clm} (h : w.ownsRow base 23 5 v n (cs.flatMap clmCells)) (hn : n = cs.length) : ClmRow w v cs := by
  subst hn
  exact RowAt.of_owns h

theorem shares_out (ao : Option Addr) (len cap : Nat) (n total t m : Int) (active : Bool) (w : World) (h : 6 < len) (hl : len ≤ 9223372036854775807) : Calls Try.prog 6 #[.slice ao len cap, .int .i64 n, .int .i64 total, .int .i64 t, .int .i64 m, .bool active] w (Ret w (.bool true)) := by
  go_enter Try.func6, Try.ntmps6
  go_wp2_with fail
  refine (awake_any _).mono ?_
  rintro e w1 ⟨rfl, hb1⟩
  obtain ⟨hc1, hf1⟩ := bcell hb1
  have hz1 := bsize hb1
  try simp only [sizes1] at hz1
  try simp only [sizes] at hc1 hf1
  go_wp2_with fail
  go_ret
  exact Ret.mk (by repeat (first | with_reducible exact Below.refl _ _ | with_reducible refine Below.drew ?_ | (with_reducible refine Below.alloc ?_ (by first | exact Nat.le_refl _ | omega | (simp only [sizes]; omega)) _) | (with_reducible refine Below.setCell ?_ (by first | exact Nat.le_refl _ | omega | (simp only [sizes]; omega)) _) | (refine Below.trans ?_ (Below.mono (by with_reducible assumption) (by first | exact Nat.le_refl _ | omega | (simp only [sizes]; omega))))))

def PairNums (s a s2 a2 : Int) (active : Bool) : Prop := (active = true → s2 = s) ∧ (active = false → a2 = a) ∧ s ≤ s2 ∧ a ≤ a2 ∧ s2 ≤ 1000 ∧ a2 ≤ 1000
theorem pair_valid {r l s p a s2 a2 : Int} {active : Bool} (h : validB ⟨r, l, s, p, a⟩ = true) (hn : PairNums s a s2 a2 active) : validB ⟨r, l, s2, p, a2⟩ = true := by
  rw [validB_iff] at h ⊢
  obtain ⟨_, _, h3, h4, h5, h6⟩ := hn
  dsimp only at *
  omega
theorem pair_all {xs : List Int} {r l s p a s2 a2 : Int} {active : Bool} (h : validB ⟨r, l, s, p, a⟩ = true) (hn : PairNums s a s2 a2 active) : allV (claimL xs ++ [⟨r, l, s, p, a⟩, ⟨r, l, s2, p, a2⟩]) = true := by
  have := claimL_allV xs
  unfold allV at *
  rw [List.all_append, this]
  simp [h, pair_valid h hn]

def PairBlocks (w : World) (n1 : Nat) (r l s p a s2 a2 : Int) : Prop :=
  HasBlock w n1 #[.int .i64 r, .int .i64 l, .int .i64 s, .int .i64 p, .int .i64 a] 23 ∧ HasBlock w (n1 + 1) #[.int .i64 r, .int .i64 l, .int .i64 s2, .int .i64 p, .int .i64 a2] 23
theorem PairBlocks.below {w w' : World} {n1 : Nat} {r l s p a s2 a2 : Int} (h : PairBlocks w n1 r l s p a s2 a2) (hb : Below w.heap.size w w') : PairBlocks w' n1 r l s p a s2 a2 := ⟨h.1.below hb, h.2.below hb⟩

set_option maxRecDepth 100000 in
set_option maxHeartbeats 8000000 in
theorem shares_in (va : Value) (xs : List Int) (N total T M : Int) (active : Bool) (w : World) (ha : IntRow w va xs) (h : xs.length ≤ 6) (hM : -9223372036854775808 ≤ M ∧ M ≤ 9223372036854775807) (hT : -9223372036854775808 ≤ total ∧ total ≤ 9223372036854775807) (hX : -9223372036854775808 ≤ T ∧ T ≤ 9223372036854775807) :
    Calls Try.prog 6 #[va, .int .i64 N, .int .i64 total, .int .i64 T, .int .i64 M, .bool active] w (Ret w (.bool true)) := by
  have V := claimI_valid N
  obtain ⟨⟨r, l, s, p, a⟩, hN⟩ : ∃ c, claimI N = c := ⟨_, rfl⟩
  rw [hN] at V
  have VB := (validB_iff _).1 V
  dsimp only at VB
  obtain ⟨ao, ca, rfl, a1, a2, a3⟩ := ha.out
  unfold maxLen at a2
  obtain ⟨n, hn⟩ : ∃ n, xs.length = n := ⟨_, rfl⟩
  rw [hn] at h a1 ha ⊢
  have HROW := Lib.hid ha; clear ha a3
  have HN := Lib.hid hn; clear hn
  have HC := Lib.hid hN; clear hN
  have HV := Lib.hid V; clear V
  have m1 := Int.emod_nonneg M (show (1000 : Int) ≠ 0 by omega)
  have m2 := Int.emod_lt_of_pos M (show (0 : Int) < (1000 : Int) by omega)
  have R := fun w => round_any M 1000 w hM (by omega) (by omega)
  obtain ⟨mo, hmo⟩ : ∃ u, M % 1000 = u := ⟨_, rfl⟩
  rw [hmo] at R m1 m2
  have HR := Lib.hid R; clear R hmo
  go_enter Try.func6, Try.ntmps6
  go_wp2_with fail
  refine (claim_any N _).mono ?_
  rw [HC.out]
  rintro e w1 ⟨rfl, hb1⟩
  have hz1 := bsize hb1
  go_upto_if 27 with (fail)
  obtain ⟨D1, D2⟩ := made_twice w1 (.int .i64 r) (.int .i64 l) (.int .i64 s) (.int .i64 p) (.int .i64 a) 23
  have hbw : Below w.heap.size w ((w1.alloc (.cells #[.int .i64 r, .int .i64 l, .int .i64 s, .int .i64 p, .int .i64 a] 23)).alloc (.cells #[.int .i64 r, .int .i64 l, .int .i64 s, .int .i64 p, .int .i64 a] 23)) := (by repeat (first | with_reducible exact Below.refl _ _ | with_reducible refine Below.drew ?_ | (with_reducible refine Below.alloc ?_ (by first | exact Nat.le_refl _ | omega | (simp only [sizes]; omega)) _) | (with_reducible refine Below.setCell ?_ (by first | exact Nat.le_refl _ | omega | (simp only [sizes]; omega)) _) | (refine Below.trans ?_ (Below.mono (by with_reducible assumption) (by first | exact Nat.le_refl _ | omega | (simp only [sizes]; omega))))))
  clear hb1
  generalize hW : (w1.alloc (.cells #[.int .i64 r, .int .i64 l, .int .i64 s, .int .i64 p, .int .i64 a] 23)).alloc (.cells #[.int .i64 r, .int .i64 l, .int .i64 s, .int .i64 p, .int .i64 a] 23) = w2 at D1 D2 hbw ⊢
  clear hW
  obtain ⟨n1, hn1⟩ : ∃ n, w1.heap.size = n := ⟨_, rfl⟩
  rw [hn1] at D1 D2 hz1 ⊢
  clear hn1
  go_cut [] from 28 to 41 (fun wx => ∃ s2 a2 : Int, PairBlocks wx n1 r l s p a s2 a2 ∧ PairNums s a s2 a2 active ∧ Below w.heap.size w wx)
  case first =>
    have x0 := (D1.cell 0).trans rfl
    have x1 := (D1.cell 1).trans rfl
    have x2 := (D1.cell 2).trans rfl
    have x3 := (D1.cell 3).trans rfl
    have x4 := (D1.cell 4).trans rfl
    have xf := D1.free
    have xz := D1.lt
    have y0 := (D2.cell 0).trans rfl
    have y1 := (D2.cell 1).trans rfl
    have y2 := (D2.cell 2).trans rfl
    have y3 := (D2.cell 3).trans rfl
    have y4 := (D2.cell 4).trans rfl
    have yf := D2.free
    have yz := D2.lt
    cases active
    · by_cases hle : 1000 ≤ s + mo
      ·
        go_wp2_with fail
        refine wp_region_tail_below 7 (by kernel_rfl) (by kernel_rfl) ?_
        simp only [List.take_succ_cons, List.take_zero, List.drop_succ_cons, List.drop_zero]
        repeat (go_big_quiet_step (first | fail | (go_at_call 29; exact quiet_ret (HR.out _))))
        refine wpQuiet_nil ?_
        intro w3 hw3
        have hb3 := below_of_regrown hw3
        clear hw3
        obtain ⟨hc3, hf3⟩ := bcell hb3
        have hz3 := bsize hb3
        try simp only [sizes1] at hz3
        try simp only [sizes] at hc3 hf3
        replace D1 := D1.below hb3
        replace D2 := D2.below hb3
        have hs := hbw.size
        have hbw3 : Below w.heap.size w w3 := (by repeat (first | with_reducible exact Below.refl _ _ | with_reducible refine Below.drew ?_ | (with_reducible refine Below.alloc ?_ (by first | exact Nat.le_refl _ | omega | (simp only [sizes]; omega)) _) | (with_reducible refine Below.setCell ?_ (by first | exact Nat.le_refl _ | omega | (simp only [sizes]; omega)) _) | (refine Below.trans ?_ (Below.mono (by with_reducible assumption) (by first | exact Nat.le_refl _ | omega | (simp only [sizes]; omega))))))
        clear hbw hb3 hc3 hf3 hz3 x0 x1 x2 x3 x4 xf xz y0 y1 y2 y3 y4 yf yz
        have yf := D2.free
        have yz := D2.lt
        have y0 := (D2.cell 2).trans rfl
        go_wp2_with fail
        go_meet
        exact ⟨1000, a, ⟨D1.set_ne (by omega) _, D2.set_at 2 (.int .i64 1000)⟩, ⟨fun h => (by first | rfl | cases h), fun h => (by first | rfl | cases h), by omega, by omega, by omega, by omega⟩, (by repeat (first | with_reducible exact Below.refl _ _ | with_reducible refine Below.drew ?_ | (with_reducible refine Below.alloc ?_ (by first | exact Nat.le_refl _ | omega | (dsimp only; omega) | (simp only [sizes]; omega)) _) | (with_reducible refine Below.setCell ?_ (by first | exact Nat.le_refl _ | omega | (dsimp only; omega) | (simp only [sizes]; omega)) _) | (refine Below.trans ?_ (Below.mono (by with_reducible assumption) (by first | exact Nat.le_refl _ | omega | (dsimp only; omega) | (simp only [sizes]; omega))))))⟩
      ·
        go_wp2_with fail
        refine wp_region_tail_below 7 (by kernel_rfl) (by kernel_rfl) ?_
        simp only [List.take_succ_cons, List.take_zero, List.drop_succ_cons, List.drop_zero]
        repeat (go_big_quiet_step (first | fail | (go_at_call 29; exact quiet_ret (HR.out _))))
        refine wpQuiet_nil ?_
        intro w3 hw3
        have hb3 := below_of_regrown hw3
        clear hw3
        obtain ⟨hc3, hf3⟩ := bcell hb3
        have hz3 := bsize hb3
        try simp only [sizes1] at hz3
        try simp only [sizes] at hc3 hf3
        replace D1 := D1.below hb3
        replace D2 := D2.below hb3
        have hs := hbw.size
        have hbw3 : Below w.heap.size w w3 := (by repeat (first | with_reducible exact Below.refl _ _ | with_reducible refine Below.drew ?_ | (with_reducible refine Below.alloc ?_ (by first | exact Nat.le_refl _ | omega | (simp only [sizes]; omega)) _) | (with_reducible refine Below.setCell ?_ (by first | exact Nat.le_refl _ | omega | (simp only [sizes]; omega)) _) | (refine Below.trans ?_ (Below.mono (by with_reducible assumption) (by first | exact Nat.le_refl _ | omega | (simp only [sizes]; omega))))))
        clear hbw hb3 hc3 hf3 hz3 x0 x1 x2 x3 x4 xf xz y0 y1 y2 y3 y4 yf yz
        have yf := D2.free
        have yz := D2.lt
        have y0 := (D2.cell 2).trans rfl
        go_wp2_with fail
        go_meet
        exact ⟨(s + mo), a, ⟨D1.set_ne (by omega) _, D2.set_at 2 (.int .i64 (s + mo))⟩, ⟨fun h => (by first | rfl | cases h), fun h => (by first | rfl | cases h), by omega, by omega, by omega, by omega⟩, (by repeat (first | with_reducible exact Below.refl _ _ | with_reducible refine Below.drew ?_ | (with_reducible refine Below.alloc ?_ (by first | exact Nat.le_refl _ | omega | (dsimp only; omega) | (simp only [sizes]; omega)) _) | (with_reducible refine Below.setCell ?_ (by first | exact Nat.le_refl _ | omega | (dsimp only; omega) | (simp only [sizes]; omega)) _) | (refine Below.trans ?_ (Below.mono (by with_reducible assumption) (by first | exact Nat.le_refl _ | omega | (dsimp only; omega) | (simp only [sizes]; omega))))))⟩
    · by_cases hle : 1000 ≤ a + mo
      ·
        go_wp2_with fail
        refine wp_region_tail_below 7 (by kernel_rfl) (by kernel_rfl) ?_
        simp only [List.take_succ_cons, List.take_zero, List.drop_succ_cons, List.drop_zero]
        repeat (go_big_quiet_step (first | fail | (go_at_call 29; exact quiet_ret (HR.out _))))
        refine wpQuiet_nil ?_
        intro w3 hw3
        have hb3 := below_of_regrown hw3
        clear hw3
        obtain ⟨hc3, hf3⟩ := bcell hb3
        have hz3 := bsize hb3
        try simp only [sizes1] at hz3
        try simp only [sizes] at hc3 hf3
        replace D1 := D1.below hb3
        replace D2 := D2.below hb3
        have hs := hbw.size
        have hbw3 : Below w.heap.size w w3 := (by repeat (first | with_reducible exact Below.refl _ _ | with_reducible refine Below.drew ?_ | (with_reducible refine Below.alloc ?_ (by first | exact Nat.le_refl _ | omega | (simp only [sizes]; omega)) _) | (with_reducible refine Below.setCell ?_ (by first | exact Nat.le_refl _ | omega | (simp only [sizes]; omega)) _) | (refine Below.trans ?_ (Below.mono (by with_reducible assumption) (by first | exact Nat.le_refl _ | omega | (simp only [sizes]; omega))))))
        clear hbw hb3 hc3 hf3 hz3 x0 x1 x2 x3 x4 xf xz y0 y1 y2 y3 y4 yf yz
        have yf := D2.free
        have yz := D2.lt
        have y0 := (D2.cell 4).trans rfl
        go_wp2_with fail
        go_meet
        exact ⟨s, 1000, ⟨D1.set_ne (by omega) _, D2.set_at 4 (.int .i64 1000)⟩, ⟨fun h => (by first | rfl | cases h), fun h => (by first | rfl | cases h), by omega, by omega, by omega, by omega⟩, (by repeat (first | with_reducible exact Below.refl _ _ | with_reducible refine Below.drew ?_ | (with_reducible refine Below.alloc ?_ (by first | exact Nat.le_refl _ | omega | (dsimp only; omega) | (simp only [sizes]; omega)) _) | (with_reducible refine Below.setCell ?_ (by first | exact Nat.le_refl _ | omega | (dsimp only; omega) | (simp only [sizes]; omega)) _) | (refine Below.trans ?_ (Below.mono (by with_reducible assumption) (by first | exact Nat.le_refl _ | omega | (dsimp only; omega) | (simp only [sizes]; omega))))))⟩
      ·
        go_wp2_with fail
        refine wp_region_tail_below 7 (by kernel_rfl) (by kernel_rfl) ?_
        simp only [List.take_succ_cons, List.take_zero, List.drop_succ_cons, List.drop_zero]
        repeat (go_big_quiet_step (first | fail | (go_at_call 29; exact quiet_ret (HR.out _))))
        refine wpQuiet_nil ?_
        intro w3 hw3
        have hb3 := below_of_regrown hw3
        clear hw3
        obtain ⟨hc3, hf3⟩ := bcell hb3
        have hz3 := bsize hb3
        try simp only [sizes1] at hz3
        try simp only [sizes] at hc3 hf3
        replace D1 := D1.below hb3
        replace D2 := D2.below hb3
        have hs := hbw.size
        have hbw3 : Below w.heap.size w w3 := (by repeat (first | with_reducible exact Below.refl _ _ | with_reducible refine Below.drew ?_ | (with_reducible refine Below.alloc ?_ (by first | exact Nat.le_refl _ | omega | (simp only [sizes]; omega)) _) | (with_reducible refine Below.setCell ?_ (by first | exact Nat.le_refl _ | omega | (simp only [sizes]; omega)) _) | (refine Below.trans ?_ (Below.mono (by with_reducible assumption) (by first | exact Nat.le_refl _ | omega | (simp only [sizes]; omega))))))
        clear hbw hb3 hc3 hf3 hz3 x0 x1 x2 x3 x4 xf xz y0 y1 y2 y3 y4 yf yz
        have yf := D2.free
        have yz := D2.lt
        have y0 := (D2.cell 4).trans rfl
        go_wp2_with fail
        go_meet
        exact ⟨s, (a + mo), ⟨D1.set_ne (by omega) _, D2.set_at 4 (.int .i64 (a + mo))⟩, ⟨fun h => (by first | rfl | cases h), fun h => (by first | rfl | cases h), by omega, by omega, by omega, by omega⟩, (by repeat (first | with_reducible exact Below.refl _ _ | with_reducible refine Below.drew ?_ | (with_reducible refine Below.alloc ?_ (by first | exact Nat.le_refl _ | omega | (dsimp only; omega) | (simp only [sizes]; omega)) _) | (with_reducible refine Below.setCell ?_ (by first | exact Nat.le_refl _ | omega | (dsimp only; omega) | (simp only [sizes]; omega)) _) | (refine Below.trans ?_ (Below.mono (by with_reducible assumption) (by first | exact Nat.le_refl _ | omega | (dsimp only; omega) | (simp only [sizes]; omega))))))⟩
  case rest =>
    clear hbw D1 D2
    obtain ⟨s2, a2', D, hnum, hbw⟩ := hcut
    have HNUM := Lib.hid hnum; clear hnum
    obtain ⟨i0, hi, iz0, iz1, iz2⟩ := info_parts info_claim
    go_upto_region 8 with (fail)
    have hs0 := hbw.size
    go_cut [15] from 42 to 47 (fun v wx => ClmRow wx v (claimL xs ++ [⟨r, l, s, p, a⟩, ⟨r, l, s2, p, a2'⟩]) ∧ PairBlocks wx n1 r l s p a s2 a2' ∧ Below w.heap.size w wx)
    case first =>
      have D1 := D.1
      have D2 := D.2
      have x0 := (D1.cell 0).trans rfl
      have x1 := (D1.cell 1).trans rfl
      have x2 := (D1.cell 2).trans rfl
      have x3 := (D1.cell 3).trans rfl
      have x4 := (D1.cell 4).trans rfl
      have xf := D1.free
      have xz := D1.lt
      have y0 := (D2.cell 0).trans rfl
      have y1 := (D2.cell 1).trans rfl
      have y2 := (D2.cell 2).trans rfl
      have y3 := (D2.cell 3).trans rfl
      have y4 := (D2.cell 4).trans rfl
      have yf := D2.free
      have yz := D2.lt
      go_region_law (first
        | (refine step_append_own rfl (.tmp 43) (.tmp 46) 24 rfl wc.heap.size 23 i0 (.agg #[.int .i64 0, .int .i64 0, .int .i64 0, .int .i64 0, .int .i64 0]) 5 40 Try.underlying24 hi iz0 iz1 iz2 rfl (by decide) v4 n ((claimL xs).flatMap clmCells) rfl ?_ ⟨_, 0, none⟩ 2 2 (clmCells ⟨r, l, s, p, a⟩ ++ clmCells ⟨r, l, s2, p, a2'⟩) rfl rfl ?_ (two_one _ _) (by unfold maxLen; omega) (by omega) ?_ ?_
           · first | exact HO.out | exact HO.out.alloc _
           · first | exact cells_made _ (clmCells ⟨r, l, s, p, a⟩ ++ clmCells ⟨r, l, s2, p, a2'⟩) _ _ rfl | exact news_below (cs := clmCells ⟨r, l, s, p, a⟩ ++ clmCells ⟨r, l, s2, p, a2'⟩) rfl hb4 | exact news_below' (cs := clmCells ⟨r, l, s, p, a⟩ ++ clmCells ⟨r, l, s2, p, a2'⟩) rfl hb4
           · first | exact hz4 | (simp only [sizes]; omega)
           intro v5 w5 hown5 hgrow5 _
           have hb5 : Below w.heap.size w w5 := by
             refine below_append' (base := wc.heap.size) (e := 23) (size := 5) (n := n) (xs := (claimL xs).flatMap clmCells) ?_ ?_ hgrow5 hs0
             · exact (by repeat (first | with_reducible exact Below.refl _ _ | with_reducible refine Below.drew ?_ | (with_reducible refine Below.alloc ?_ (by first | exact Nat.le_refl _ | omega | (simp only [sizes]; omega)) _) | (with_reducible refine Below.setCell ?_ (by first | exact Nat.le_refl _ | omega | (simp only [sizes]; omega)) _) | (refine Below.trans ?_ (Below.mono (by with_reducible assumption) (by first | exact Nat.le_refl _ | omega | (simp only [sizes]; omega))))))
             · first | exact HO.out | exact HO.out.alloc _
           have F1 : PairBlocks w5 n1 r l s p a s2 a2' := by
             refine ⟨HasBlock.append (base := wc.heap.size) (e := 23) (size := 5) (n := n) (xs := (claimL xs).flatMap clmCells) ?_ ?_ hgrow5 xz, HasBlock.append (base := wc.heap.size) (e := 23) (size := 5) (n := n) (xs := (claimL xs).flatMap clmCells) ?_ ?_ hgrow5 yz⟩
             · first | exact E1 | exact E1.alloc _
             · first | exact HO.out | exact HO.out.alloc _
             · first | exact E2 | exact E2.alloc _
             · first | exact HO.out | exact HO.out.alloc _)
        | (go_simp; go_at_call 28; refine (claims_own _ xs _ (HROW.out.below (by repeat (first | with_reducible exact Below.refl _ _ | with_reducible refine Below.drew ?_ | (with_reducible refine Below.alloc ?_ (by first | exact Nat.le_refl _ | omega | (simp only [sizes]; omega)) _) | (with_reducible refine Below.setCell ?_ (by first | exact Nat.le_refl _ | omega | (simp only [sizes]; omega)) _) | (refine Below.trans ?_ (Below.mono (by with_reducible assumption) (by first | exact Nat.le_refl _ | omega | (simp only [sizes]; omega))))))) (by rw [HN.out]; omega)).mono ?_; rintro _ w4 ⟨v4, rfl, hown4, hb4⟩
           rw [HN.out] at hown4
           have hz4 := bsize hb4
           simp only [sizes] at hz4
           have hz4 : wc.heap.size ≤ w4.heap.size := by first | exact hz4 | omega
           have HO := Lib.hid (owns_lower (base' := wc.heap.size) hown4 (by first | exact Nat.le_refl _ | (simp only [sizes]; omega))); clear hown4
           have E1 := HasBlock.below (show HasBlock _ n1 #[.int .i64 r, .int .i64 l, .int .i64 s, .int .i64 p, .int .i64 a] 23 from (by repeat (first | exact D1 | refine HasBlock.alloc ?_ _ | refine HasBlock.drew ?_))) hb4
           have E2 := HasBlock.below (show HasBlock _ (n1 + 1) #[.int .i64 r, .int .i64 l, .int .i64 s2, .int .i64 p, .int .i64 a2'] 23 from (by repeat (first | exact D2 | refine HasBlock.alloc ?_ _ | refine HasBlock.drew ?_))) hb4
           have g0 := (E1.cell 0).trans rfl
           have g1 := (E1.cell 1).trans rfl
           have g2 := (E1.cell 2).trans rfl
           have g3 := (E1.cell 3).trans rfl
           have g4 := (E1.cell 4).trans rfl
           have gf := E1.free
           have gz := E1.lt
           have k0 := (E2.cell 0).trans rfl
           have k1 := (E2.cell 1).trans rfl
           have k2 := (E2.cell 2).trans rfl
           have k3 := (E2.cell 3).trans rfl
           have k4 := (E2.cell 4).trans rfl
           have kf := E2.free
           have kz := E2.lt))
      all_goals (go_wp2_with fail; go_meet; exact ⟨clmRow_of (base := wc.heap.size) (n := n + 2) (by rw [List.flatMap_append]; exact hown5) (by rw [List.length_append, ← HN.out]; simp [claimL]), F1, hb5⟩)
    case rest =>
      clear D hbw hs0
      obtain ⟨hrow, E, hbw⟩ := hcut
      have D1 := E.1
      have D2 := E.2
      clear E
      have hnum := HNUM.out
      obtain ⟨cs, hcs⟩ : ∃ cs, claimL xs ++ [⟨r, l, s, p, a⟩, ⟨r, l, s2, p, a2'⟩] = cs := ⟨_, rfl⟩
      have hv := pair_all (xs := xs) HV.out hnum
      have hlen0 : (claimL xs).length = n := by rw [← HN.out]; simp [claimL]
      have hlen : cs.length = n + 2 := by rw [← hcs, List.length_append, hlen0]; rfl
      have hca : cs[n]? = some ⟨r, l, s, p, a⟩ := by rw [← hcs, List.getElem?_append_right (by omega), hlen0, Nat.sub_self]; rfl
      have hcb : cs[n + 1]? = some ⟨r, l, s2, p, a2'⟩ := by rw [← hcs, List.getElem?_append_right (by omega), hlen0, Nat.add_sub_cancel_left]; rfl
      rw [hcs] at hv hrow
      have htx := tax_mod T
      obtain ⟨t, hu⟩ : ∃ t, T % 100 = t := ⟨_, rfl⟩
      obtain ⟨tt, hto⟩ : ∃ tt, total % 97 = tt := ⟨_, rfl⟩
      have htb : 0 ≤ tt ∧ tt ≤ 96 := by omega
      rw [hu] at htx
      have htt := (taxB_iff t).1 htx
      have hp : Pairing ⟨r, l, s, p, a⟩ ⟨r, l, s2, p, a2'⟩ t active := ⟨rfl, rfl, rfl, hnum.1, hnum.2.1, ⟨hnum.2.2.1, hnum.2.2.2.1⟩⟩
      have L := fun hg => shares_law (total := tt) hv htx hlen hca hcb hp hg
      have LB := fun hg => ((balances_law (cs := cs) (total := tt) (t := t) hv hg).1.fine hv).2
      have HL := Lib.hid L; clear L hp
      have HLB := Lib.hid LB; clear LB
      have HU := Lib.hid hu; clear hu
      have HT := Lib.hid hto; clear hto
      have HLEN := Lib.hid hlen; clear hlen
      clear htx hcs hv hlen0 hca hcb hnum HNUM
      obtain ⟨ao1, ca1, rfl, c1, c2, c3⟩ := hrow.out
      rw [HLEN.out] at c1 c3 hrow ⊢
      unfold maxLen at c2
      have HROW1 := Lib.hid hrow; clear hrow c3
      have hbs := hbw.size
      have x0 := (D1.cell 0).trans rfl
      have x1 := (D1.cell 1).trans rfl
      have x2 := (D1.cell 2).trans rfl
      have x3 := (D1.cell 3).trans rfl
      have x4 := (D1.cell 4).trans rfl
      have xf := D1.free
      have xz := D1.lt
      have y0 := (D2.cell 0).trans rfl
      have y1 := (D2.cell 1).trans rfl
      have y2 := (D2.cell 2).trans rfl
      have y3 := (D2.cell 3).trans rfl
      have y4 := (D2.cell 4).trans rfl
      have yf := D2.free
      have yz := D2.lt
      go_wp2_with fail
      refine (round_any _ 100 _ hX (by omega) (by omega)).mono ?_
      rw [HU.out]
      rintro e w3 ⟨rfl, hb3⟩
      obtain ⟨hc3, hf3⟩ := bcell hb3
      have hz3 := bsize hb3
      try simp only [sizes1] at hz3
      try simp only [sizes] at hc3 hf3
      go_wp2_with fail
      refine (round_any _ 97 _ hT (by omega) (by omega)).mono ?_
      rw [HT.out]
      rintro e w4 ⟨rfl, hb4⟩
      obtain ⟨hc4, hf4⟩ := bcell hb4
      have hz4 := bsize hb4
      try simp only [sizes1] at hz4
      try simp only [sizes] at hc4 hf4
      go_wp2_with fail
      refine (idletax_Targets_any _ cs _ _ _ ((HROW1.out.below' hb3).below' hb4)).mono ?_
      rintro e w5 ⟨v5, rfl, hr5, hb5⟩
      have hz5 := bsize hb5
      have hb15 : Below wc.heap.size wc w5 := (by repeat (first | with_reducible exact Below.refl _ _ | with_reducible refine Below.drew ?_ | (with_reducible refine Below.alloc ?_ (by first | exact Nat.le_refl _ | omega | (simp only [sizes]; omega)) _) | (with_reducible refine Below.setCell ?_ (by first | exact Nat.le_refl _ | omega | (simp only [sizes]; omega)) _) | (refine Below.trans ?_ (Below.mono (by with_reducible assumption) (by first | exact Nat.le_refl _ | omega | (simp only [sizes]; omega))))))
      clear hb3 hb4 hb5 hc3 hf3 hc4 hf4 x0 x1 x2 x3 x4 xf xz y0 y1 y2 y3 y4 yf yz
      replace D1 := D1.below hb15
      replace D2 := D2.below hb15
      have hbw5 : Below w.heap.size w w5 := (by repeat (first | with_reducible exact Below.refl _ _ | with_reducible refine Below.drew ?_ | (with_reducible refine Below.alloc ?_ (by first | exact Nat.le_refl _ | omega | (simp only [sizes]; omega)) _) | (with_reducible refine Below.setCell ?_ (by first | exact Nat.le_refl _ | omega | (simp only [sizes]; omega)) _) | (refine Below.trans ?_ (Below.mono (by with_reducible assumption) (by first | exact Nat.le_refl _ | omega | (simp only [sizes]; omega))))))
      clear hbw hb15 hz3 hz4 hz5 hbs
      obtain ⟨fr, hfr⟩ : ∃ fr, targetsL cs tt t = fr := ⟨_, rfl⟩
      rw [hfr] at hr5
      have HFR := Lib.hid hfr; clear hfr
      obtain ⟨ao4, ca4, rfl, e1, e2, e3⟩ := hr5.out
      unfold maxLen at e2
      clear hr5
      cases hg : goodT cs tt t
      · clear hg
        go_wp2_with fail
        refine (awake_any _).mono ?_
        rintro e w6 ⟨rfl, hb6⟩
        have hs6 := hbw5.size
        go_wp2_with fail
        go_ret
        exact Ret.mk (by repeat (first | with_reducible exact Below.refl _ _ | with_reducible refine Below.drew ?_ | (with_reducible refine Below.alloc ?_ (by first | exact Nat.le_refl _ | omega | (simp only [sizes]; omega)) _) | (with_reducible refine Below.setCell ?_ (by first | exact Nat.le_refl _ | omega | (simp only [sizes]; omega)) _) | (refine Below.trans ?_ (Below.mono (by with_reducible assumption) (by first | exact Nat.le_refl _ | omega | (simp only [sizes]; omega))))))
      · obtain ⟨x, y, hl, hx, hy, hor⟩ := HL.out hg
        have hlb := HLB.out hg
        rw [HFR.out] at hl hx hy hlb
        have hxb := hlb n x hx
        have hyb := hlb (n + 1) y hy
        clear hlb
        rw [hl] at e1 e3 ⊢
        have HX := Lib.hid hx; clear hx
        have HY := Lib.hid hy; clear hy
        obtain ⟨b4, off4, rfl, hbs4, hbc4⟩ := e3.resolve_left (by omega)
        have z1 := hbc4 n x HX.out
        have z2 := hbc4 (n + 1) y HY.out
        have HOR := Lib.hid hor; clear hor hl hbc4 e3 hg
        have x0 := (D1.cell 0).trans rfl
        have x1 := (D1.cell 1).trans rfl
        have x2 := (D1.cell 2).trans rfl
        have x3 := (D1.cell 3).trans rfl
        have x4 := (D1.cell 4).trans rfl
        have xf := D1.free
        have xz := D1.lt
        have y0 := (D2.cell 0).trans rfl
        have y1 := (D2.cell 1).trans rfl
        have y2 := (D2.cell 2).trans rfl
        have y3 := (D2.cell 3).trans rfl
        have y4 := (D2.cell 4).trans rfl
        have yf := D2.free
        have yz := D2.lt
        have hs6 := hbw5.size
        by_cases hxy : x ≤ y
        · have hd : decide (x ≤ y) = true := decide_eq_true hxy
          go_wp2_with fail
          all_goals
            refine wp_region_quiet_below (by kernel_rfl) (by kernel_rfl) ?_
            repeat (go_big_quiet_step (first | fail | (go_at_call 12; exact quiet_ret (awake_any _))))
            refine wpQuiet_nil ?_
            intro w7 hw7
            have hb7 := below_of_regrown hw7
            clear hw7
            obtain ⟨hc7, hf7⟩ := bcell hb7
            have hz7 := bsize hb7
            try simp only [sizes1] at hz7
            try simp only [sizes] at hc7 hf7
            go_wp2_with fail
            go_ret
            exact Ret.mk (by repeat (first | with_reducible exact Below.refl _ _ | with_reducible refine Below.drew ?_ | (with_reducible refine Below.alloc ?_ (by first | exact Nat.le_refl _ | omega | (simp only [sizes]; omega)) _) | (with_reducible refine Below.setCell ?_ (by first | exact Nat.le_refl _ | omega | (simp only [sizes]; omega)) _) | (refine Below.trans ?_ (Below.mono (by with_reducible assumption) (by first | exact Nat.le_refl _ | omega | (simp only [sizes]; omega))))))
        · obtain ⟨hev, rfl⟩ := HOR.out.resolve_left hxy
          have hd : decide (y + 1 ≤ y) = false := decide_eq_false hxy
          clear HOR HL HX
          rcases hev with hab | ⟨hac, ht0⟩
          · have e5 : s = s2 := congrArg Clm.s hab
            have e6 : a = a2' := congrArg Clm.a hab
            clear hab
            subst e5 e6
            go_wp2_with fail
            all_goals
              refine wp_region_quiet_below (by kernel_rfl) (by kernel_rfl) ?_
              repeat (go_big_quiet_step (first | fail | (go_at_call 12; exact quiet_ret (awake_any _))))
              refine wpQuiet_nil ?_
              intro w7 hw7
              have hb7 := below_of_regrown hw7
              clear hw7
              obtain ⟨hc7, hf7⟩ := bcell hb7
              have hz7 := bsize hb7
              try simp only [sizes1] at hz7
              try simp only [sizes] at hc7 hf7
              go_wp2_with fail
              go_ret
              exact Ret.mk (by repeat (first | with_reducible exact Below.refl _ _ | with_reducible refine Below.drew ?_ | (with_reducible refine Below.alloc ?_ (by first | exact Nat.le_refl _ | omega | (simp only [sizes]; omega)) _) | (with_reducible refine Below.setCell ?_ (by first | exact Nat.le_refl _ | omega | (simp only [sizes]; omega)) _) | (refine Below.trans ?_ (Below.mono (by with_reducible assumption) (by first | exact Nat.le_refl _ | omega | (simp only [sizes]; omega))))))
          · subst hac ht0
            go_wp2_with fail
            all_goals
              refine wp_region_quiet_below (by kernel_rfl) (by kernel_rfl) ?_
              repeat (go_big_quiet_step (first | fail | (go_at_call 12; exact quiet_ret (awake_any _))))
              refine wpQuiet_nil ?_
              intro w7 hw7
              have hb7 := below_of_regrown hw7
              clear hw7
              obtain ⟨hc7, hf7⟩ := bcell hb7
              have hz7 := bsize hb7
              try simp only [sizes1] at hz7
              try simp only [sizes] at hc7 hf7
              go_wp2_with fail
              go_ret
              exact Ret.mk (by repeat (first | with_reducible exact Below.refl _ _ | with_reducible refine Below.drew ?_ | (with_reducible refine Below.alloc ?_ (by first | exact Nat.le_refl _ | omega | (simp only [sizes]; omega)) _) | (with_reducible refine Below.setCell ?_ (by first | exact Nat.le_refl _ | omega | (simp only [sizes]; omega)) _) | (refine Below.trans ?_ (Below.mono (by with_reducible assumption) (by first | exact Nat.le_refl _ | omega | (simp only [sizes]; omega))))))
end Go.Proofs.Ytclnjjppcdgkiaa
