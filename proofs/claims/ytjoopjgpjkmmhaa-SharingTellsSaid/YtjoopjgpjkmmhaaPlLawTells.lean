/-
  The law on what all functions of a pool return, walked.
-/
import Derived.Test.YtjoopjgpjkmmhaaPlTells
namespace Go.Proofs.Ytjoopjgpjkmmhaa
open Go.RowKit

set_option maxHeartbeats 2000000 in
theorem lawTells_any (v : Value) (P : Pl) (fr pg g p : Int) (d : ByteArray) (w : World) (h : PlRow w v P) (hf : P.fit) (hd : d.size ≤ 9223372036854775807) : Calls Try.prog 3 #[v, .int .i64 fr, .int .i64 pg, .int .i64 g, .int .i64 p, .string d] w (Ret w (.bool true)) := by
  obtain ⟨of, or', om, kf, kr, km, rfl, kf1, kf2, kr1, kr2, km1, km2⟩ := h.form
  obtain ⟨n, hn⟩ : ∃ n, P.F.length = n := ⟨_, rfl⟩
  obtain ⟨r, hr⟩ : ∃ n, P.R.length = n := ⟨_, rfl⟩
  obtain ⟨m, hm⟩ : ∃ n, P.M.length = n := ⟨_, rfl⟩
  rw [hn] at h kf1 ⊢
  rw [hr] at h kr1 ⊢
  rw [hm] at h km1 ⊢
  have HN := Lib.hid hn; clear hn
  have HR := Lib.hid hr; clear hr
  have HM := Lib.hid hm; clear hm
  have L := fun w h => light_any (.agg #[.slice of n kf, .slice or' r kr, .slice om m km]) P w h
  have HL := Lib.hid L; clear L
  have D1 := HasBlock.made w #[.slice of n kf, .slice or' r kr, .slice om m km] 26
  have hbw : Below w.heap.size w (w.alloc (.cells #[.slice of n kf, .slice or' r kr, .slice om m km] 26)) := (Below.refl _ _).alloc (Nat.le_refl _) _
  replace h := h.below hbw
  go_enter Try.func3, Try.ntmps3
  go_wp2_with fail
  with_reducible refine (HL.out _ h).mono ?_
  rintro e w1 ⟨b, rfl, hl, hb1⟩
  replace D1 := D1.below hb1
  replace h := h.below hb1
  replace hbw := hbw.trans (hb1.mono hbw.size)
  clear hb1
  cases b
  · clear hl
    obtain ⟨D1_c, D1_f, D1_z⟩ := D1.all
    go_wp2_with fail
    clear D1_c D1_f D1_z
    with_reducible refine (awake_any _).mono ?_
    rintro e w9 ⟨rfl, hb9⟩
    go_wp2_with fail
    go_ret
    exact Ret.mk (hbw.trans (hb9.mono hbw.size))
  have hs := hl rfl
  clear hl
  by_cases h3 : 300 < d.size
  · obtain ⟨D1_c, D1_f, D1_z⟩ := D1.all
    go_wp2_with fail
    clear D1_c D1_f D1_z
    with_reducible refine (awake_any _).mono ?_
    rintro e w9 ⟨rfl, hb9⟩
    go_wp2_with fail
    go_ret
    exact Ret.mk (hbw.trans (hb9.mono hbw.size))
  have T := fun w h => tells_any (.agg #[.slice of n kf, .slice or' r kr, .slice om m km]) P fr pg g p d w h hf hs hd
  have HT := Lib.hid T; clear T
  clear hs hf
  obtain ⟨D1_c, D1_f, D1_z⟩ := D1.all
  go_wp2_with fail
  clear D1_c D1_f D1_z
  with_reducible refine (HT.out _ h).mono ?_
  rintro e w2 ⟨rfl, hb2⟩
  replace D1 := D1.below hb2
  replace hbw := hbw.trans (hb2.mono hbw.size)
  clear hb2 h
  obtain ⟨D1_c, D1_f, D1_z⟩ := D1.all
  go_wp2_with fail
  clear D1_c D1_f D1_z
  with_reducible refine (awake_any _).mono ?_
  rintro e w9 ⟨rfl, hb9⟩
  go_wp2_with fail
  go_ret
  exact Ret.mk (hbw.trans (hb9.mono hbw.size))
end Go.Proofs.Ytjoopjgpjkmmhaa
