/-
  A page's frame taken away, in the program and in the reference: walked.
-/
import Derived.Test.YtjoopjgpjkmmhaaPl
namespace Go.Proofs.Ytjoopjgpjkmmhaa
open Go.RowKit

/-- Nothing handed back; the pool's rows are changed, nothing else. -/
def RetGive (base top : Nat) (vf vr vm : Value) (us : List Value) (P : Pl) (w : World) (e : Ending) (w' : World) : Prop := e = .returned (.tuple #[]) ∧ OwnP base w' vf vr vm us P ∧ Between base top w w'
set_option maxHeartbeats 2000000 in
theorem give_any (base top : Nat) (vf vr vm : Value) (us : List Value) (P : Pl) (g p : Nat) (w : World) (h : OwnP base w vf vr vm us P) (hlt : LtP top vf vr us) (his : P.is g p = true) (hf : P.fr g p < P.F.length) (hRF : P.R.length = P.F.length) (hr : -1000000 ≤ P.ref (P.fr g p).toNat ∧ P.ref (P.fr g p).toNat ≤ 1000000) : Calls Try.prog 35 #[.agg #[vf, vr, vm], .int .i64 g, .int .i64 p] w (RetGive base top vf vr vm us (P.giveUp g p) w) := by
  obtain ⟨l, f, hl, hpl⟩ := Pl.is_at his
  have hfr := Pl.fr_eq hl hpl
  have hll := lt_of_get hl
  have hpp := lt_of_get hpl
  obtain ⟨bm, km, bu, ku, rfl, hus, c1, c2, c3, k1, k2, k3, k4, k5⟩ := h.page hl hpl
  obtain ⟨of, kf, rfl, kf1, kf2⟩ := h.f.form
  obtain ⟨or', kr, rfl, kr1, kr2⟩ := h.r.form
  have H := h.alloc (.cells #[.slice of P.F.length kf, .slice or' P.R.length kr, .slice (some ⟨bm, 0, none⟩) P.M.length km] 26)
  have hbw : Between base top w (w.alloc (.cells #[.slice of P.F.length kf, .slice or' P.R.length kr, .slice (some ⟨bm, 0, none⟩) P.M.length km] 26)) := (Between.refl _ _ _).alloc _
  have lu := hlt.u g _ hus bu rfl
  rw [hfr] at hf hr
  have hgive : P.giveUp g p = if f < 0 then P else if P.ref f.toNat - 1 = 0 then (((P.setM g p (-1)).setR f.toNat (P.ref f.toNat - 1)).setF f.toNat ⟨#[]⟩) else ((P.setM g p (-1)).setR f.toNat (P.ref f.toNat - 1)) := by unfold Pl.giveUp; rw [hfr]
  have hrl := Lib.hid hRF
  have hfF : f < 0 ∨ f.toNat < P.F.length := by omega
  have hfR : f < 0 ∨ f.toNat < P.R.length := by rw [hRF]; exact hfF
  have n1 : w.heap.size ≠ bm := Nat.ne_of_gt k2
  have n2 : w.heap.size ≠ bu := Nat.ne_of_gt k4
  have HG := Lib.hid hgive; clear hgive hfr hRF
  have HL := Lib.hid hl; clear hl
  have HP := Lib.hid hpl; clear hpl
  have HU := Lib.hid hus; clear hus
  have gi : (g : Int) < (P.M.length : Int) := by omega
  have pi : (p : Int) < (l.length : Int) := by omega
  by_cases hneg : f < 0
  · clear hfF hfR
    go_enter Try.func35, Try.ntmps35
    go_wp2_with fail
    refine bodyPost_ret (results_none rfl _ _ _) rfl ?_
    exact ⟨rfl, by rw [HG.out, if_pos hneg]; exact H, hbw⟩
  · obtain ⟨j, rfl⟩ : ∃ j : Nat, f = j := ⟨f.toNat, by omega⟩
    rw [Int.toNat_natCast] at *
    have hjF : j < P.F.length := hfF.resolve_left hneg
    have hjR : j < P.R.length := hfR.resolve_left hneg
    obtain ⟨gf, rfl, f1, f2⟩ := h.f.addr rfl (by omega)
    obtain ⟨gr, rfl, r1, r2⟩ := h.r.addr rfl (by omega)
    have lf := hlt.f gf rfl
    have lr := hlt.r gr rfl
    obtain ⟨s, hs⟩ := get_lt hjF
    obtain ⟨x, hx⟩ := get_lt hjR
    obtain ⟨sf1, sf2⟩ := h.f.at hs
    obtain ⟨sr1, sr2⟩ := h.r.at hx
    have hrx : P.ref j = x := by unfold Pl.ref; rw [hx]; rfl
    rw [hrx] at hr HG
    have n3 : gr ≠ bu := fun e => h.ap g _ HU.out gr rfl (by rw [e]; rfl)
    have n4 : gr ≠ bm := fun e => own_ne_type h.r h.m (by decide) (k := gr) rfl (by rw [e]; rfl)
    have n5 : gf ≠ bu := fun e => own_ne_type h.f (h.u.2.1 g _ l HU.out HL.out) (by decide) (k := gf) rfl (by rw [e]; rfl)
    have n6 : gf ≠ gr := fun e => own_ne_type h.f h.r (by decide) (k := gf) rfl (by rw [e]; rfl)
    have n7 : w.heap.size ≠ gr := Nat.ne_of_gt r2
    have HXS := Lib.hid hs
    have HXR := Lib.hid hx
    clear hs hx hrx hfF hfR hneg
    by_cases hx0 : x - 1 = 0
    · have e1 : (x - 1 == 0) = true := by rw [beq_iff_eq]; exact hx0
      rw [if_neg (by omega), if_pos hx0] at HG
      clear hx0
      go_enter Try.func35, Try.ntmps35
      go_wp2_with fail
      go_end0
      exact ⟨rfl, by rw [HG.out]; exact (((h.putM HU.out p (-1)).putR j (x - 1)).putF j _).alloc _, ((((Between.refl _ _ _).setCell k3 lu _).setCell r1 lr _).setCell f1 lf _).alloc _⟩
    · have e1 : (x - 1 == 0) = false := by rw [beq_eq_false_iff_ne]; exact hx0
      rw [if_neg (by omega), if_neg hx0] at HG
      clear hx0
      go_enter Try.func35, Try.ntmps35
      go_wp2_with fail
      go_end0
      exact ⟨rfl, by rw [HG.out]; exact ((h.putM HU.out p (-1)).putR j (x - 1)).alloc _, (((Between.refl _ _ _).setCell k3 lu _).setCell r1 lr _).alloc _⟩
set_option maxHeartbeats 2000000 in
theorem leave_any (base top : Nat) (vf vr vm : Value) (us : List Value) (P : Pl) (g p : Nat) (w : World) (h : OwnP base w vf vr vm us P) (hlt : LtP top vf vr us) (his : P.is g p = true) (hf : P.fr g p < P.F.length) (hRF : P.R.length = P.F.length) (hr : -1000000 ≤ P.ref (P.fr g p).toNat ∧ P.ref (P.fr g p).toNat ≤ 1000000) : Calls Try.prog 43 #[.agg #[vf, vr, vm], .int .i64 g, .int .i64 p] w (RetGive base top vf vr vm us (P.giveUp g p) w) := by
  obtain ⟨l, f, hl, hpl⟩ := Pl.is_at his
  have hfr := Pl.fr_eq hl hpl
  have hll := lt_of_get hl
  have hpp := lt_of_get hpl
  obtain ⟨bm, km, bu, ku, rfl, hus, c1, c2, c3, k1, k2, k3, k4, k5⟩ := h.page hl hpl
  obtain ⟨of, kf, rfl, kf1, kf2⟩ := h.f.form
  obtain ⟨or', kr, rfl, kr1, kr2⟩ := h.r.form
  have H := h.alloc (.cells #[.slice of P.F.length kf, .slice or' P.R.length kr, .slice (some ⟨bm, 0, none⟩) P.M.length km] 26)
  have hbw : Between base top w (w.alloc (.cells #[.slice of P.F.length kf, .slice or' P.R.length kr, .slice (some ⟨bm, 0, none⟩) P.M.length km] 26)) := (Between.refl _ _ _).alloc _
  have lu := hlt.u g _ hus bu rfl
  rw [hfr] at hf hr
  have hgive : P.giveUp g p = if f < 0 then P else if P.ref f.toNat - 1 = 0 then (((P.setM g p (-1)).setR f.toNat (P.ref f.toNat - 1)).setF f.toNat ⟨#[]⟩) else ((P.setM g p (-1)).setR f.toNat (P.ref f.toNat - 1)) := by unfold Pl.giveUp; rw [hfr]
  have hrl := Lib.hid hRF
  have hfF : f < 0 ∨ f.toNat < P.F.length := by omega
  have hfR : f < 0 ∨ f.toNat < P.R.length := by rw [hRF]; exact hfF
  have n1 : w.heap.size ≠ bm := Nat.ne_of_gt k2
  have n2 : w.heap.size ≠ bu := Nat.ne_of_gt k4
  have HG := Lib.hid hgive; clear hgive hfr hRF
  have HL := Lib.hid hl; clear hl
  have HP := Lib.hid hpl; clear hpl
  have HU := Lib.hid hus; clear hus
  have gi : (g : Int) < (P.M.length : Int) := by omega
  have pi : (p : Int) < (l.length : Int) := by omega
  by_cases hneg : f < 0
  · clear hfF hfR
    go_enter Try.func43, Try.ntmps43
    go_wp2_with fail
    refine bodyPost_ret (results_none rfl _ _ _) rfl ?_
    exact ⟨rfl, by rw [HG.out, if_pos hneg]; exact H, hbw⟩
  · obtain ⟨j, rfl⟩ : ∃ j : Nat, f = j := ⟨f.toNat, by omega⟩
    rw [Int.toNat_natCast] at *
    have hjF : j < P.F.length := hfF.resolve_left hneg
    have hjR : j < P.R.length := hfR.resolve_left hneg
    obtain ⟨gf, rfl, f1, f2⟩ := h.f.addr rfl (by omega)
    obtain ⟨gr, rfl, r1, r2⟩ := h.r.addr rfl (by omega)
    have lf := hlt.f gf rfl
    have lr := hlt.r gr rfl
    obtain ⟨s, hs⟩ := get_lt hjF
    obtain ⟨x, hx⟩ := get_lt hjR
    obtain ⟨sf1, sf2⟩ := h.f.at hs
    obtain ⟨sr1, sr2⟩ := h.r.at hx
    have hrx : P.ref j = x := by unfold Pl.ref; rw [hx]; rfl
    rw [hrx] at hr HG
    have n3 : gr ≠ bu := fun e => h.ap g _ HU.out gr rfl (by rw [e]; rfl)
    have n4 : gr ≠ bm := fun e => own_ne_type h.r h.m (by decide) (k := gr) rfl (by rw [e]; rfl)
    have n5 : gf ≠ bu := fun e => own_ne_type h.f (h.u.2.1 g _ l HU.out HL.out) (by decide) (k := gf) rfl (by rw [e]; rfl)
    have n6 : gf ≠ gr := fun e => own_ne_type h.f h.r (by decide) (k := gf) rfl (by rw [e]; rfl)
    have n7 : w.heap.size ≠ gr := Nat.ne_of_gt r2
    have HXS := Lib.hid hs
    have HXR := Lib.hid hx
    clear hs hx hrx hfF hfR hneg
    have hB := h.putM HU.out p (-1)
    have hB2 := hB.alloc (.cells #[.slice (some ⟨gf, 0, none⟩) P.F.length kf, .slice (some ⟨gr, 0, none⟩) P.R.length kr, .slice (some ⟨bm, 0, none⟩) P.M.length km] 26)
    have D := HasBlock.made (w.setCell ⟨bu, p, none⟩ (.int .i64 (-1))) #[.slice (some ⟨gf, 0, none⟩) P.F.length kf, .slice (some ⟨gr, 0, none⟩) P.R.length kr, .slice (some ⟨bm, 0, none⟩) P.M.length km] 26
    have hbw1 : Between base top w ((w.setCell ⟨bu, p, none⟩ (.int .i64 (-1))).alloc (.cells #[.slice (some ⟨gf, 0, none⟩) P.F.length kf, .slice (some ⟨gr, 0, none⟩) P.R.length kr, .slice (some ⟨bm, 0, none⟩) P.M.length km] 26)) := ((Between.refl _ _ _).setCell k3 lu _).alloc _
    simp only [World.size_setCell] at D
    go_enter Try.func43, Try.ntmps43
    go_wp2_with fail
    refine wp_region_tail_below 10 (by kernel_rfl) (by kernel_rfl) ?_
    simp only [List.take_succ_cons, List.take_zero, List.drop_succ_cons, List.drop_zero]
    repeat (go_big_quiet_step (first | fail | fail))
    refine wpQuiet_nil ?_
    intro w3 hw3
    have hb3 := below_of_regrown hw3
    clear hw3
    obtain ⟨hc3, hf3⟩ := bcell hb3
    have hz3 := bsize hb3
    try simp only [sizes1] at hz3
    try simp only [sizes] at hc3 hf3
    have H3 := hB2.below hb3
    have D3 := D.below hb3
    have hbw3 : Between base top w w3 := hbw1.next hb3
    have hz3' : w.heap.size + 1 ≤ w3.heap.size := by have := hb3.size; simp only [sizes] at this; exact this
    clear hc3 hf3 hz3 hb3 hB hB2 D hbw1 c1 c2 c3 sf1 sf2 sr1 sr2
    obtain ⟨D_c, D_f, D_z⟩ := D3.all
    obtain ⟨sf1, sf2⟩ := H3.f.at HXS.out
    obtain ⟨sr1, sr2⟩ := H3.r.at HXR.out
    by_cases hx0 : x - 1 = 0
    · have e1 : (x - 1 == 0) = true := by rw [beq_iff_eq]; exact hx0
      rw [if_neg (by omega), if_pos hx0] at HG
      clear hx0
      go_wp2_with fail
      go_end0
      exact ⟨rfl, by rw [HG.out]; exact (H3.putR j (x - 1)).putF j _, (hbw3.setCell r1 lr _).setCell f1 lf _⟩
    · have e1 : (x - 1 == 0) = false := by rw [beq_eq_false_iff_ne]; exact hx0
      rw [if_neg (by omega), if_neg hx0] at HG
      clear hx0
      go_wp2_with fail
      go_end0
      exact ⟨rfl, by rw [HG.out]; exact H3.putR j (x - 1), hbw3.setCell r1 lr _⟩
end Go.Proofs.Ytjoopjgpjkmmhaa
