/-
  Free frames and a guest's frames counted, in the program: walked.
-/
import Derived.Test.YtjoopjgpjkmmhaaPlHas
import Derived.Test.YtjoopjgpjkmmhaaPlLaws
namespace Go.Proofs.Ytjoopjgpjkmmhaa
open Go.RowKit

theorem countP_succ {α : Type} {q : α → Bool} {xs : List α} {k : Nat} {x : α} (h : xs[k]? = some x) : (xs.take (k + 1)).countP q = (xs.take k).countP q + if q x then 1 else 0 := by
  rw [List.take_add_one, h, List.countP_append]
  cases hq : q x <;> simp [hq]
theorem countP_le {α : Type} (q : α → Bool) (xs : List α) (k : Nat) : (xs.take k).countP q ≤ k := Nat.le_trans List.countP_le_length (by rw [List.length_take]; omega)
def emptyB (s : ByteArray) : Bool := decide (s.size = 0)
def hasB (f : Int) : Bool := decide (0 ≤ f)
def zeroI (x : Int) : Bool := decide (x = 0)
def Pl.freeN (P : Pl) : Nat := P.F.countP emptyB
def Pl.freeR (P : Pl) : Nat := P.R.countP zeroI
def Pl.chargeN (P : Pl) (g : Nat) : Nat := (P.pages g).countP hasB
def Pl.free (P : Pl) : Nat := if P.ok then P.freeN else 0
def Pl.charge (P : Pl) (g : Int) : Nat := if P.has g 0 then P.chargeN g.toNat else 0
set_option maxHeartbeats 2000000 in
theorem pfree_any (v : Value) (P : Pl) (w : World) (h : PlRow w v P) (hf : P.fit) : Calls Try.prog 18 #[v] w (Ret w (.int .i64 P.free)) := by
  have hrd : P.free = if P.ok then P.F.countP emptyB else 0 := rfl
  have HRD := Lib.hid hrd; clear hrd
  obtain ⟨of, or', om, kf, kr, km, rfl, kf1, kf2, kr1, kr2, km1, km2⟩ := h.form
  obtain ⟨n, hn⟩ : ∃ n, P.F.length = n := ⟨_, rfl⟩
  obtain ⟨r, hr⟩ : ∃ n, P.R.length = n := ⟨_, rfl⟩
  obtain ⟨m, hm⟩ : ∃ n, P.M.length = n := ⟨_, rfl⟩
  rw [hn] at h kf1 ⊢
  rw [hr] at h kr1 ⊢
  rw [hm] at h km1 ⊢
  have HN := Lib.hid hn; clear hn
  have HR := Lib.hid hr; clear hr
  have HM := Lib.hid hm; clear hm
  have V := fun w h => valid_pl (.agg #[.slice of n kf, .slice or' r kr, .slice om m km]) P w h hf
  clear hf
  cases hok : P.ok
  · rw [hok] at V HRD
    have HV := Lib.hid V; clear V hok
    go_enter Try.func18, Try.ntmps18
    go_wp2_with fail
    with_reducible refine (HV.out _ (h.below (by repeat (first | with_reducible exact Below.refl _ _ | with_reducible refine Below.drew ?_ | (with_reducible refine Below.alloc ?_ (by first | exact Nat.le_refl _ | omega | (dsimp only; omega) | (simp only [sizes]; omega)) _) | (with_reducible refine Below.setCell ?_ (by first | exact Nat.le_refl _ | omega | (dsimp only; omega) | (simp only [sizes]; omega)) _) | (refine Below.trans ?_ (Below.mono (by with_reducible assumption) (by first | exact Nat.le_refl _ | omega | (dsimp only; omega) | (simp only [sizes]; omega)))))))).mono ?_
    rintro e w1 ⟨rfl, hb1⟩
    obtain ⟨hc1, hf1⟩ := bcell hb1
    have hz1 := bsize hb1
    try simp only [sizes1] at hz1
    try simp only [sizes] at hc1 hf1
    go_wp2_with fail
    go_ret
    exact Ret.mk' (by rw [HRD.out]; rfl) (by repeat (first | with_reducible exact Below.refl _ _ | with_reducible refine Below.drew ?_ | (with_reducible refine Below.alloc ?_ (by first | exact Nat.le_refl _ | omega | (dsimp only; omega) | (simp only [sizes]; omega)) _) | (with_reducible refine Below.setCell ?_ (by first | exact Nat.le_refl _ | omega | (dsimp only; omega) | (simp only [sizes]; omega)) _) | (refine Below.trans ?_ (Below.mono (by with_reducible assumption) (by first | exact Nat.le_refl _ | omega | (dsimp only; omega) | (simp only [sizes]; omega))))))
  · rw [hok] at V HRD
    rw [if_pos rfl] at HRD
    have HV := Lib.hid V; clear V
    have H := Pl.ok_iff.1 hok
    have hn2 := H.n2
    rw [HN.out] at hn2
    clear hok H
    go_enter Try.func18, Try.ntmps18
    go_wp2_with fail
    with_reducible refine (HV.out _ (h.below (by repeat (first | with_reducible exact Below.refl _ _ | with_reducible refine Below.drew ?_ | (with_reducible refine Below.alloc ?_ (by first | exact Nat.le_refl _ | omega | (dsimp only; omega) | (simp only [sizes]; omega)) _) | (with_reducible refine Below.setCell ?_ (by first | exact Nat.le_refl _ | omega | (dsimp only; omega) | (simp only [sizes]; omega)) _) | (refine Below.trans ?_ (Below.mono (by with_reducible assumption) (by first | exact Nat.le_refl _ | omega | (dsimp only; omega) | (simp only [sizes]; omega)))))))).mono ?_
    rintro e w1 ⟨rfl, hb1⟩
    have D1 := (HasBlock.made w #[.slice of n kf, .slice or' r kr, .slice om m km] 26).below hb1
    have hbw : Below w.heap.size w w1 := (by repeat (first | with_reducible exact Below.refl _ _ | with_reducible refine Below.drew ?_ | (with_reducible refine Below.alloc ?_ (by first | exact Nat.le_refl _ | omega | (dsimp only; omega) | (simp only [sizes]; omega)) _) | (with_reducible refine Below.setCell ?_ (by first | exact Nat.le_refl _ | omega | (dsimp only; omega) | (simp only [sizes]; omega)) _) | (refine Below.trans ?_ (Below.mono (by with_reducible assumption) (by first | exact Nat.le_refl _ | omega | (dsimp only; omega) | (simp only [sizes]; omega))))))
    have hrow := h.below hbw
    clear hb1 h
    obtain ⟨D1_c, D1_f, D1_z⟩ := D1.all
    go_wp2_with fail
    go_loop [3, 12] (fun c i => ∃ k : Nat, k ≤ n ∧ i = .int .i64 k ∧ c = .int .i64 ((P.F.take k).countP emptyB : Nat)) (fun _ i => n - (intOf i).toNat)
    case atStart => exact ⟨0, Nat.zero_le _, rfl, rfl⟩
    case round =>
      obtain ⟨k, hk, rfl, rfl⟩ := hrel
      have hcl := countP_le emptyB P.F k
      by_cases hlt : k < n
      · obtain ⟨s, hs⟩ := get_lt (xs := P.F) (k := k) (by rw [HN.out]; exact hlt)
        obtain ⟨fb, foff, rfl, hfb, cf⟩ := hrow.parts.1.elem hs
        have hsu := countP_succ (q := emptyB) hs
        obtain ⟨c, hc⟩ : ∃ c, (P.F.take k).countP emptyB = c := ⟨_, rfl⟩
        rw [hc] at hsu hcl ⊢
        have hii := isEmpty_iff s
        unfold emptyB at hsu
        by_cases h0 : s.size = 0
        · rw [decide_eq_true h0] at hsu hii
          have HS := Lib.hid hsu; clear hsu hs hc h0
          go_wp2_with fail
          go_round
          case rel => exact ⟨k + 1, by omega, by go_num, by rw [show (P.F.take (k + 1)).countP emptyB = c + 1 from HS.out]; go_num⟩
          case measure => simp [intOf]; omega
        · rw [decide_eq_false h0] at hsu hii
          have HS := Lib.hid hsu; clear hsu hs hc h0
          go_wp2_with fail
          go_round
          case rel => exact ⟨k + 1, by omega, by go_num, by rw [show (P.F.take (k + 1)).countP emptyB = c from HS.out]⟩
          case measure => simp [intOf]; omega
      · obtain rfl : k = n := by omega
        have hall : P.F.take k = P.F := by rw [← HN.out]; exact List.take_length
        rw [hall, ← HRD.out]
        clear hall
        go_wp2_with fail
        go_ret
        exact Ret.mk hbw
set_option maxHeartbeats 2000000 in
theorem pcharge_any (v : Value) (P : Pl) (g : Int) (w : World) (h : PlRow w v P) (hf : P.fit) : Calls Try.prog 19 #[v, .int .i64 g] w (Ret w (.int .i64 (P.charge g))) := by
  have hrd : P.charge g = if P.has g 0 then (P.pages g.toNat).countP hasB else 0 := rfl
  have HRD := Lib.hid hrd; clear hrd
  obtain ⟨of, or', om, kf, kr, km, rfl, kf1, kf2, kr1, kr2, km1, km2⟩ := h.form
  obtain ⟨n, hn⟩ : ∃ n, P.F.length = n := ⟨_, rfl⟩
  obtain ⟨r, hr⟩ : ∃ n, P.R.length = n := ⟨_, rfl⟩
  obtain ⟨m, hm⟩ : ∃ n, P.M.length = n := ⟨_, rfl⟩
  rw [hn] at h kf1 ⊢
  rw [hr] at h kr1 ⊢
  rw [hm] at h km1 ⊢
  have HN := Lib.hid hn; clear hn
  have HR := Lib.hid hr; clear hr
  have HM := Lib.hid hm; clear hm
  have V := fun w h => phas_any (.agg #[.slice of n kf, .slice or' r kr, .slice om m km]) P g 0 w h hf
  clear hf
  cases hok : P.has g 0
  · rw [hok] at V HRD
    have HV := Lib.hid V; clear V hok
    go_enter Try.func19, Try.ntmps19
    go_wp2_with fail
    with_reducible refine (HV.out _ (h.below (by repeat (first | with_reducible exact Below.refl _ _ | with_reducible refine Below.drew ?_ | (with_reducible refine Below.alloc ?_ (by first | exact Nat.le_refl _ | omega | (dsimp only; omega) | (simp only [sizes]; omega)) _) | (with_reducible refine Below.setCell ?_ (by first | exact Nat.le_refl _ | omega | (dsimp only; omega) | (simp only [sizes]; omega)) _) | (refine Below.trans ?_ (Below.mono (by with_reducible assumption) (by first | exact Nat.le_refl _ | omega | (dsimp only; omega) | (simp only [sizes]; omega)))))))).mono ?_
    rintro e w1 ⟨rfl, hb1⟩
    obtain ⟨hc1, hf1⟩ := bcell hb1
    have hz1 := bsize hb1
    try simp only [sizes1] at hz1
    try simp only [sizes] at hc1 hf1
    go_wp2_with fail
    go_ret
    exact Ret.mk' (by rw [HRD.out]; rfl) (by repeat (first | with_reducible exact Below.refl _ _ | with_reducible refine Below.drew ?_ | (with_reducible refine Below.alloc ?_ (by first | exact Nat.le_refl _ | omega | (dsimp only; omega) | (simp only [sizes]; omega)) _) | (with_reducible refine Below.setCell ?_ (by first | exact Nat.le_refl _ | omega | (dsimp only; omega) | (simp only [sizes]; omega)) _) | (refine Below.trans ?_ (Below.mono (by with_reducible assumption) (by first | exact Nat.le_refl _ | omega | (dsimp only; omega) | (simp only [sizes]; omega))))))
  · rw [hok] at V HRD
    rw [if_pos rfl] at HRD
    have HV := Lib.hid V; clear V
    unfold Pl.has at hok
    rw [Bool.and_eq_true] at hok
    have H := Pl.ok_iff.1 hok.1
    have hi := hok.2
    unfold Pl.is at hi
    rw [decide_eq_true_eq, HM.out] at hi
    obtain ⟨i, rfl⟩ : ∃ i : Nat, g = i := ⟨g.toNat, by omega⟩
    rw [Int.toNat_natCast] at hi HRD
    obtain ⟨l, hl⟩ := get_lt (xs := P.M) (k := i) (by rw [HM.out]; omega)
    have hpl := Pl.pages_eq hl
    rw [hpl] at HRD
    have hll := H.l l (mem_at hl)
    have hfb := fun f hf => H.pg l (mem_at hl) f hf
    have HFB := Lib.hid hfb; clear hfb
    rw [HN.out] at HFB
    have hn2 := H.n2
    rw [HN.out] at hn2
    have him : i < m := by omega
    clear hok H hi hpl
    go_enter Try.func19, Try.ntmps19
    go_wp2_with fail
    with_reducible refine (HV.out _ (h.below (by repeat (first | with_reducible exact Below.refl _ _ | with_reducible refine Below.drew ?_ | (with_reducible refine Below.alloc ?_ (by first | exact Nat.le_refl _ | omega | (dsimp only; omega) | (simp only [sizes]; omega)) _) | (with_reducible refine Below.setCell ?_ (by first | exact Nat.le_refl _ | omega | (dsimp only; omega) | (simp only [sizes]; omega)) _) | (refine Below.trans ?_ (Below.mono (by with_reducible assumption) (by first | exact Nat.le_refl _ | omega | (dsimp only; omega) | (simp only [sizes]; omega)))))))).mono ?_
    rintro e w1 ⟨rfl, hb1⟩
    have D1 := (HasBlock.made w #[.slice of n kf, .slice or' r kr, .slice om m km] 26).below hb1
    have hbw : Below w.heap.size w w1 := (by repeat (first | with_reducible exact Below.refl _ _ | with_reducible refine Below.drew ?_ | (with_reducible refine Below.alloc ?_ (by first | exact Nat.le_refl _ | omega | (dsimp only; omega) | (simp only [sizes]; omega)) _) | (with_reducible refine Below.setCell ?_ (by first | exact Nat.le_refl _ | omega | (dsimp only; omega) | (simp only [sizes]; omega)) _) | (refine Below.trans ?_ (Below.mono (by with_reducible assumption) (by first | exact Nat.le_refl _ | omega | (dsimp only; omega) | (simp only [sizes]; omega))))))
    have hrow := h.below hbw
    clear hb1 h
    obtain ⟨mb, moff, uo, uc, rfl, hmb, cm, u1, u2, hr⟩ := hrow.guest hl
    have HR2 := Lib.hid hr; clear hr hl hrow
    obtain ⟨q, hq⟩ : ∃ q, l.length = q := ⟨_, rfl⟩
    rw [hq] at hll cm u1 HR2
    have HQ := Lib.hid hq; clear hq
    obtain ⟨D1_c, D1_f, D1_z⟩ := D1.all
    go_wp2_with fail
    go_loop [5, 18] (fun c i => ∃ k : Nat, k ≤ q ∧ i = .int .i64 k ∧ c = .int .i64 ((l.take k).countP hasB : Nat)) (fun _ i => q - (intOf i).toNat)
    case atStart => exact ⟨0, Nat.zero_le _, rfl, rfl⟩
    case round =>
      obtain ⟨k, hk, rfl, rfl⟩ := hrel
      have hcl := countP_le hasB l k
      by_cases hlt : k < q
      · obtain ⟨f, hs⟩ := get_lt (xs := l) (k := k) (by rw [HQ.out]; exact hlt)
        obtain ⟨fb, foff, rfl, hfb, cf⟩ := HR2.out.elem hs
        have hsu := countP_succ (q := hasB) hs
        have hfbd := HFB.out f (mem_at hs)
        obtain ⟨c, hc⟩ : ∃ c, (l.take k).countP hasB = c := ⟨_, rfl⟩
        rw [hc] at hsu hcl ⊢
        unfold hasB at hsu
        by_cases h0 : 0 ≤ f
        · rw [decide_eq_true h0] at hsu
          have HS := Lib.hid hsu; clear hsu hs hc
          go_wp2_with fail
          go_round
          case rel => exact ⟨k + 1, by omega, by go_num, by rw [show (l.take (k + 1)).countP hasB = c + 1 from HS.out]; go_num⟩
          case measure => simp [intOf]; omega
        · rw [decide_eq_false h0] at hsu
          have HS := Lib.hid hsu; clear hsu hs hc
          go_wp2_with fail
          go_round
          case rel => exact ⟨k + 1, by omega, by go_num, by rw [show (l.take (k + 1)).countP hasB = c from HS.out]⟩
          case measure => simp [intOf]; omega
      · obtain rfl : k = q := by omega
        have hall : l.take k = l := by rw [← HQ.out]; exact List.take_length
        rw [hall, ← HRD.out]
        clear hall
        go_wp2_with fail
        go_ret
        exact Ret.mk hbw
end Go.Proofs.Ytjoopjgpjkmmhaa
