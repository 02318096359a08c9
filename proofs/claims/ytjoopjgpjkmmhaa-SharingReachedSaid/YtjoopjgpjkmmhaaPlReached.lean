/-
  The law on pools that operations reach, walked.
-/
import Derived.Test.YtjoopjgpjkmmhaaPlFilled
import Derived.Test.YtjoopjgpjkmmhaaPlTells
namespace Go.Proofs.Ytjoopjgpjkmmhaa
open Go.RowKit

theorem reached_out (fr g p q : Int) (ao : Option Addr) (N ca : Nat) (w : World) (h : fr < 1 ∨ 12 < fr ∨ 40 < N) (hN : N ≤ 9223372036854775807) : Calls Try.prog 4 #[.int .i64 fr, .slice ao N ca, .int .i64 g, .int .i64 p, .int .i64 q] w (Ret w (.bool true)) := by
  by_cases h1 : fr < 1
  · clear h
    go_enter Try.func4, Try.ntmps4
    go_wp2_with fail
    with_reducible refine (awake_any _).mono ?_
    rintro e w1 ⟨rfl, hb1⟩
    go_wp2_with fail
    go_ret
    exact Ret.mk hb1
  by_cases h2 : 12 < fr
  · clear h
    go_enter Try.func4, Try.ntmps4
    go_wp2_with fail
    with_reducible refine (awake_any _).mono ?_
    rintro e w1 ⟨rfl, hb1⟩
    go_wp2_with fail
    go_ret
    exact Ret.mk hb1
  have h3 : 40 < N := by omega
  clear h
  go_enter Try.func4, Try.ntmps4
  go_wp2_with fail
  with_reducible refine (awake_any _).mono ?_
  rintro e w1 ⟨rfl, hb1⟩
  go_wp2_with fail
  go_ret
  exact Ret.mk hb1
set_option maxRecDepth 100000 in
set_option maxHeartbeats 4000000 in
theorem reached_in (n : Nat) (g p q : Int) (va : Value) (ls : List Int) (w : World) (h1 : 1 ≤ n) (h2 : n ≤ 12) (ha : NumRow w va ls) (hls : ∀ x ∈ ls, -9223372036854775808 ≤ x ∧ x ≤ 9223372036854775807) (hn40 : ls.length ≤ 40) (hg : -9223372036854775808 ≤ g ∧ g ≤ 9223372036854775807) (hp : -9223372036854775808 ≤ p ∧ p ≤ 9223372036854775807) (hq : -9223372036854775808 ≤ q ∧ q ≤ 9223372036854775807) : Calls Try.prog 4 #[.int .i64 n, va, .int .i64 g, .int .i64 p, .int .i64 q] w (Ret w (.bool true)) := by
  have FL := fun v w h => filled_any n v ls w h1 (by omega) h hls (by omega)
  have HFL := Lib.hid FL; clear FL
  obtain ⟨ao, ca, rfl, a1, a2, _⟩ := ha.out
  unfold maxLen at a2
  obtain ⟨N, hN⟩ : ∃ N, ls.length = N := ⟨_, rfl⟩
  rw [hN] at a1 ha hn40 ⊢
  clear hN hls
  have HA := Lib.hid ha; clear ha
  have R1 := fun w => round_any g 3 w hg (by omega) (by omega)
  have R2 := fun w => round_any p 5 w hp (by omega) (by omega)
  have PG := fun w => page_any q w hq
  have hds := pageS_size q
  obtain ⟨d, hd⟩ : ∃ d, pageS q = d := ⟨_, rfl⟩
  obtain ⟨g', hg'⟩ : ∃ v, g % 3 = v := ⟨_, rfl⟩
  obtain ⟨p', hp'⟩ : ∃ v, p % 5 = v := ⟨_, rfl⟩
  rw [hd] at PG hds
  rw [hg'] at R1
  rw [hp'] at R2
  have HR1 := Lib.hid R1; clear R1
  have HR2 := Lib.hid R2; clear R2
  have HPG := Lib.hid PG; clear PG
  have HDS := Lib.hid hds; clear hds hd hg' hp'
  have hbw : Below w.heap.size w w := Below.refl _ _
  go_enter Try.func4, Try.ntmps4
  go_wp2_with fail
  with_reducible refine (HFL.out _ _ HA.out).mono ?_
  rintro e w1 ⟨P, hsh, of0, or0, om0, kf0, kr0, km0, us0, rfl, O0, hbk⟩
  replace hbw := hbw.trans (hbk.mono hbw.size)
  clear hbk
  have T := fun g p v w h => tells_any v P n 3 g p d w h hsh.ok.fit hsh.ok.small (by rw [HDS.out]; omega)
  have HT := Lib.hid T; clear T hsh
  obtain ⟨n0, hgn⟩ : ∃ n, (Pl.F P).length = n := ⟨_, rfl⟩
  obtain ⟨r0, hgr⟩ : ∃ n, (Pl.R P).length = n := ⟨_, rfl⟩
  obtain ⟨m0, hgm⟩ : ∃ n, (Pl.M P).length = n := ⟨_, rfl⟩
  rw [hgn, hgr, hgm] at O0 ⊢
  clear hgn hgr hgm
  go_wp2_with fail
  have hw0 := hbw.size
  have hbx : Below w1.heap.size w1 (w1.alloc (.cells #[.slice of0 n0 kf0, .slice or0 r0 kr0, .slice om0 m0 km0] 26)) := (Below.refl _ _).alloc (Nat.le_refl _) _
  replace O0 := O0.below hbx
  have D0 := HasBlock.made w1 #[.slice of0 n0 kf0, .slice or0 r0 kr0, .slice om0 m0 km0] 26
  replace hbw := hbw.trans (hbx.mono hbw.size)
  clear hbx
  obtain ⟨B0, hB⟩ : ∃ B, w1.heap.size = B := ⟨_, rfl⟩
  rw [hB] at D0 hw0 ⊢
  generalize hW : w1.alloc (.cells #[.slice of0 n0 kf0, .slice or0 r0 kr0, .slice om0 m0 km0] 26) = w2 at D0 O0 hbw ⊢
  clear hW hB
  obtain ⟨D0_c, D0_f, D0_z⟩ := D0.all
  have ho := O0.row
  have HO := Lib.hid ho; clear ho
  refine wp_region_quiet_below (by kernel_rfl) (by kernel_rfl) ?_
  repeat (go_big_quiet_step (first | fail | (first | (go_at_call 12; with_reducible exact quiet_ret (HPG.out _)) | (go_at_call 13; first | with_reducible exact quiet_ret (HR1.out _) | with_reducible exact quiet_ret (HR2.out _)) | (go_at_call 10; first | with_reducible exact quiet_ret (HT.out g p _ _ (HO.out.below (below_regrown _ _ _))) | with_reducible exact quiet_ret (HT.out g' p' _ _ (HO.out.below (below_regrown _ _ _)))) | (go_at_call 9; with_reducible exact quiet_ret (awake_any _)))))
  refine wpQuiet_nil ?_
  intro w7 hw7
  have hb7 := below_of_regrown hw7
  clear hw7
  obtain ⟨hc7, hf7⟩ := bcell hb7
  have hz7 := bsize hb7
  try simp only [sizes1] at hz7
  try simp only [sizes] at hc7 hf7
  go_wp2_with fail
  go_ret
  exact Ret.mk (hbw.trans (hb7.mono hbw.size))
end Go.Proofs.Ytjoopjgpjkmmhaa
