/-
  Reading and counting, in the reference: walked.
-/
import Derived.Test.YtjoopjgpjkmmhaaPlRefValid
import Derived.Test.YtjoopjgpjkmmhaaPlCount
import Derived.Test.YtjoopjgpjkmmhaaPlRead
namespace Go.Proofs.Ytjoopjgpjkmmhaa
open Go.RowKit

theorem rvalid_pl (v : Value) (P : Pl) (w : World) (h : PlRow w v P) (hf : P.fit) : Calls Try.prog 27 #[v] w (Ret w (.bool P.ok)) := by
  obtain ⟨vf, vr, vm, rfl, h1, h2, h3⟩ := h
  exact rvalid_any vf vr vm P.F P.R P.M w h1 h2 h3 hf.1 hf.2
theorem countP_map_eq {α β : Type} {f : α → Bool} {g : β → Bool} : ∀ (xs : List α) (ys : List β), xs.length = ys.length → (∀ (i : Nat) x y, xs[i]? = some x → ys[i]? = some y → f x = g y) → xs.countP f = ys.countP g
  | [], [], _, _ => rfl
  | x :: xs, y :: ys, h, hh => by
    rw [List.countP_cons, List.countP_cons, countP_map_eq xs ys (by simpa using h) (fun i a b ha hb => hh (i + 1) a b ha hb), hh 0 x y rfl rfl]
  | [], _ :: _, h, _ => by simp at h
  | _ :: _, [], h, _ => by simp at h
theorem Pl.Ok.free_eq {P : Pl} (H : P.Ok) : P.freeR = P.freeN := by
  unfold Pl.freeR Pl.freeN
  refine (countP_map_eq P.F P.R (by rw [H.r]) (fun i s x hs hx => ?_)).symm
  obtain ⟨s', hs', hx', h1, _⟩ := H.fr i (lt_of_get hs)
  rw [hs] at hs'
  rw [hx] at hx'
  injection hs' with hs'
  injection hx' with hx'
  subst hs' hx'
  unfold emptyB zeroI
  rw [Bool.eq_iff_iff, decide_eq_true_eq, decide_eq_true_eq]
  omega
set_option maxHeartbeats 2000000 in
theorem rfree_any (v : Value) (P : Pl) (w : World) (h : PlRow w v P) : Calls Try.prog 44 #[v] w (Ret w (.int .i64 P.freeR)) := by
  have hrd : P.freeR = P.R.countP zeroI := rfl
  have HRD := Lib.hid hrd; clear hrd
  obtain ⟨of, or', om, kf, kr, km, rfl, kf1, kf2, kr1, kr2, km1, km2⟩ := h.form
  obtain ⟨n, hn⟩ : ∃ n, P.F.length = n := ⟨_, rfl⟩
  obtain ⟨r, hr⟩ : ∃ n, P.R.length = n := ⟨_, rfl⟩
  obtain ⟨m, hm⟩ : ∃ n, P.M.length = n := ⟨_, rfl⟩
  rw [hn] at h kf1 ⊢
  rw [hr] at h kr1 ⊢
  rw [hm] at h km1 ⊢
  have HN := Lib.hid hn; clear hn
  have HR := Lib.hid hr; clear hr
  have HM := Lib.hid hm; clear hm
  go_enter Try.func44, Try.ntmps44
  go_wp2_with fail
  have D1 := HasBlock.made w #[.slice of n kf, .slice or' r kr, .slice om m km] 26
  have hbw : Below w.heap.size w (w.alloc (.cells #[.slice of n kf, .slice or' r kr, .slice om m km] 26)) := (Below.refl _ _).alloc (Nat.le_refl _) _
  have hrow := h.below hbw
  clear h
  generalize hW : w.alloc (.cells #[.slice of n kf, .slice or' r kr, .slice om m km] 26) = w1 at D1 hbw hrow ⊢
  clear hW
  obtain ⟨D1_c, D1_f, D1_z⟩ := D1.all
  go_loop [3, 4] (fun c i => ∃ k : Nat, k ≤ r ∧ i = .int .i64 k ∧ c = .int .i64 ((P.R.take k).countP zeroI : Nat)) (fun _ i => r - (intOf i).toNat)
  case atStart => exact ⟨0, Nat.zero_le _, rfl, rfl⟩
  case round =>
    obtain ⟨k, hk, rfl, rfl⟩ := hrel
    have hcl := countP_le zeroI P.R k
    by_cases hlt : k < r
    · obtain ⟨s, hs⟩ := get_lt (xs := P.R) (k := k) (by rw [HR.out]; exact hlt)
      obtain ⟨fb, foff, rfl, hfb, cf⟩ := hrow.parts.2.1.elem hs
      have hsu := countP_succ (q := zeroI) hs
      obtain ⟨c, hc⟩ : ∃ c, (P.R.take k).countP zeroI = c := ⟨_, rfl⟩
      rw [hc] at hsu hcl ⊢
      unfold zeroI at hsu
      by_cases h0 : s = 0
      · have e1 : (s == 0) = true := by rw [beq_iff_eq]; exact h0
        rw [decide_eq_true h0] at hsu
        have HS := Lib.hid hsu; clear hsu hs hc h0
        go_wp2_with fail
        go_round
        case rel => exact ⟨k + 1, by omega, by go_num, by rw [show (P.R.take (k + 1)).countP zeroI = c + 1 from HS.out]; go_num⟩
        case measure => simp [intOf]; omega
      · have e1 : (s == 0) = false := by rw [beq_eq_false_iff_ne]; exact h0
        rw [decide_eq_false h0] at hsu
        have HS := Lib.hid hsu; clear hsu hs hc h0
        go_wp2_with fail
        go_round
        case rel => exact ⟨k + 1, by omega, by go_num, by rw [show (P.R.take (k + 1)).countP zeroI = c from HS.out]⟩
        case measure => simp [intOf]; omega
    · obtain rfl : k = r := by omega
      have hall : P.R.take k = P.R := by rw [← HR.out]; exact List.take_length
      rw [hall, ← HRD.out]
      clear hall
      go_wp2_with fail
      go_ret
      exact Ret.mk hbw
set_option maxHeartbeats 2000000 in
theorem rcharge_any (v : Value) (P : Pl) (i : Nat) (w : World) (h : PlRow w v P) (hi : i < P.M.length) (hf : P.fit) : Calls Try.prog 45 #[v, .int .i64 i] w (Ret w (.int .i64 (P.chargeN i))) := by
  have hrd : P.chargeN i = (P.pages i).countP hasB := rfl
  obtain ⟨l, hl⟩ := get_lt (xs := P.M) (k := i) hi
  rw [Pl.pages_eq hl] at hrd
  have hfb := hf.2 l (mem_at hl)
  have HFB := Lib.hid hfb; clear hfb
  have HRD := Lib.hid hrd; clear hrd hf
  obtain ⟨of, or', om, kf, kr, km, rfl, kf1, kf2, kr1, kr2, km1, km2⟩ := h.form
  obtain ⟨n, hn⟩ : ∃ n, P.F.length = n := ⟨_, rfl⟩
  obtain ⟨r, hr⟩ : ∃ n, P.R.length = n := ⟨_, rfl⟩
  obtain ⟨m, hm⟩ : ∃ n, P.M.length = n := ⟨_, rfl⟩
  rw [hn] at h kf1 ⊢
  rw [hr] at h kr1 ⊢
  rw [hm] at h km1 ⊢
  have HN := Lib.hid hn; clear hn
  have HR := Lib.hid hr; clear hr
  have HM := Lib.hid hm; clear hm
  rw [HM.out] at hi
  go_enter Try.func45, Try.ntmps45
  go_wp2_with fail
  have D1 := HasBlock.made w #[.slice of n kf, .slice or' r kr, .slice om m km] 26
  have hbw : Below w.heap.size w (w.alloc (.cells #[.slice of n kf, .slice or' r kr, .slice om m km] 26)) := (Below.refl _ _).alloc (Nat.le_refl _) _
  have hrow := h.below hbw
  clear h
  generalize hW : w.alloc (.cells #[.slice of n kf, .slice or' r kr, .slice om m km] 26) = w1 at D1 hbw hrow ⊢
  clear hW
  obtain ⟨mb, moff, uo, uc, rfl, hmb, cm, u1, u2, hr⟩ := hrow.guest hl
  have HR2 := Lib.hid hr; clear hr hl hrow
  obtain ⟨q, hq⟩ : ∃ q, l.length = q := ⟨_, rfl⟩
  rw [hq] at cm u1 HR2
  have HQ := Lib.hid hq; clear hq
  obtain ⟨D1_c, D1_f, D1_z⟩ := D1.all
  go_loop [5, 6] (fun c i => ∃ k : Nat, k ≤ q ∧ i = .int .i64 k ∧ c = .int .i64 ((l.take k).countP hasB : Nat)) (fun _ i => q - (intOf i).toNat)
  case atStart => exact ⟨0, Nat.zero_le _, rfl, rfl⟩
  case round =>
    obtain ⟨k, hk, rfl, rfl⟩ := hrel
    have hcl := countP_le hasB l k
    by_cases hlt : k < q
    · obtain ⟨f, hs⟩ := get_lt (xs := l) (k := k) (by rw [HQ.out]; exact hlt)
      obtain ⟨fb, foff, rfl, hfb, cf⟩ := HR2.out.elem hs
      have hsu := countP_succ (q := hasB) hs
      have hfbd := HFB.out f (mem_at hs)
      obtain ⟨c, hc⟩ : ∃ c, (l.take k).countP hasB = c := ⟨_, rfl⟩
      rw [hc] at hsu hcl ⊢
      unfold hasB at hsu
      by_cases h0 : 0 ≤ f
      · rw [decide_eq_true h0] at hsu
        have HS := Lib.hid hsu; clear hsu hs hc
        go_wp2_with fail
        go_round
        case rel => exact ⟨k + 1, by omega, by go_num, by rw [show (l.take (k + 1)).countP hasB = c + 1 from HS.out]; go_num⟩
        case measure => simp [intOf]; omega
      · rw [decide_eq_false h0] at hsu
        have HS := Lib.hid hsu; clear hsu hs hc
        go_wp2_with fail
        go_round
        case rel => exact ⟨k + 1, by omega, by go_num, by rw [show (l.take (k + 1)).countP hasB = c from HS.out]⟩
        case measure => simp [intOf]; omega
    · obtain rfl : k = q := by omega
      have hall : l.take k = l := by rw [← HQ.out]; exact List.take_length
      rw [hall, ← HRD.out]
      clear hall
      go_wp2_with fail
      go_ret
      exact Ret.mk hbw
set_option maxHeartbeats 2000000 in
theorem rfreeF_any (v : Value) (P : Pl) (w : World) (h : PlRow w v P) (hf : P.fit) : Calls Try.prog 28 #[v] w (Ret w (.int .i64 P.free)) := by
  have hrd : P.free = if P.ok then P.freeN else 0 := rfl
  have HRD := Lib.hid hrd; clear hrd
  obtain ⟨of, or', om, kf, kr, km, rfl, kf1, kf2, kr1, kr2, km1, km2⟩ := h.form
  obtain ⟨n, hn⟩ : ∃ n, P.F.length = n := ⟨_, rfl⟩
  obtain ⟨r, hr⟩ : ∃ n, P.R.length = n := ⟨_, rfl⟩
  obtain ⟨m, hm⟩ : ∃ n, P.M.length = n := ⟨_, rfl⟩
  rw [hn] at h kf1 ⊢
  rw [hr] at h kr1 ⊢
  rw [hm] at h km1 ⊢
  have HN := Lib.hid hn; clear hn
  have HR := Lib.hid hr; clear hr
  have HM := Lib.hid hm; clear hm
  have V := fun w h => rvalid_pl (.agg #[.slice of n kf, .slice or' r kr, .slice om m km]) P w h hf
  have U := fun w h => rfree_any (.agg #[.slice of n kf, .slice or' r kr, .slice om m km]) P w h
  clear hf
  have HU := Lib.hid U; clear U
  cases hok : P.ok
  · rw [hok] at V HRD
    have HV := Lib.hid V; clear V hok
    go_enter Try.func28, Try.ntmps28
    go_wp2_with fail
    with_reducible refine (HV.out _ (h.below (by repeat (first | with_reducible exact Below.refl _ _ | with_reducible refine Below.drew ?_ | (with_reducible refine Below.alloc ?_ (by first | exact Nat.le_refl _ | omega | (dsimp only; omega) | (simp only [sizes]; omega)) _) | (with_reducible refine Below.setCell ?_ (by first | exact Nat.le_refl _ | omega | (dsimp only; omega) | (simp only [sizes]; omega)) _) | (refine Below.trans ?_ (Below.mono (by with_reducible assumption) (by first | exact Nat.le_refl _ | omega | (dsimp only; omega) | (simp only [sizes]; omega)))))))).mono ?_
    rintro e w1 ⟨rfl, hb1⟩
    obtain ⟨hc1, hf1⟩ := bcell hb1
    have hz1 := bsize hb1
    try simp only [sizes1] at hz1
    try simp only [sizes] at hc1 hf1
    go_wp2_with fail
    go_ret
    exact Ret.mk' (by rw [HRD.out]; rfl) (by repeat (first | with_reducible exact Below.refl _ _ | with_reducible refine Below.drew ?_ | (with_reducible refine Below.alloc ?_ (by first | exact Nat.le_refl _ | omega | (dsimp only; omega) | (simp only [sizes]; omega)) _) | (with_reducible refine Below.setCell ?_ (by first | exact Nat.le_refl _ | omega | (dsimp only; omega) | (simp only [sizes]; omega)) _) | (refine Below.trans ?_ (Below.mono (by with_reducible assumption) (by first | exact Nat.le_refl _ | omega | (dsimp only; omega) | (simp only [sizes]; omega))))))
  · rw [hok, if_pos rfl, ← (Pl.ok_iff.1 hok).free_eq] at HRD
    rw [hok] at V
    have HV := Lib.hid V; clear V hok
    go_enter Try.func28, Try.ntmps28
    go_wp2_with fail
    with_reducible refine (HV.out _ (h.below (by repeat (first | with_reducible exact Below.refl _ _ | with_reducible refine Below.drew ?_ | (with_reducible refine Below.alloc ?_ (by first | exact Nat.le_refl _ | omega | (dsimp only; omega) | (simp only [sizes]; omega)) _) | (with_reducible refine Below.setCell ?_ (by first | exact Nat.le_refl _ | omega | (dsimp only; omega) | (simp only [sizes]; omega)) _) | (refine Below.trans ?_ (Below.mono (by with_reducible assumption) (by first | exact Nat.le_refl _ | omega | (dsimp only; omega) | (simp only [sizes]; omega)))))))).mono ?_
    rintro e w1 ⟨rfl, hb1⟩
    have D1 := (HasBlock.made w #[.slice of n kf, .slice or' r kr, .slice om m km] 26).below hb1
    have hbw : Below w.heap.size w w1 := (by repeat (first | with_reducible exact Below.refl _ _ | with_reducible refine Below.drew ?_ | (with_reducible refine Below.alloc ?_ (by first | exact Nat.le_refl _ | omega | (dsimp only; omega) | (simp only [sizes]; omega)) _) | (with_reducible refine Below.setCell ?_ (by first | exact Nat.le_refl _ | omega | (dsimp only; omega) | (simp only [sizes]; omega)) _) | (refine Below.trans ?_ (Below.mono (by with_reducible assumption) (by first | exact Nat.le_refl _ | omega | (dsimp only; omega) | (simp only [sizes]; omega))))))
    have hrow := h.below hbw
    clear hb1 h
    obtain ⟨D1_c, D1_f, D1_z⟩ := D1.all
    go_wp2_with fail
    with_reducible refine (HU.out _ hrow).mono ?_
    rintro e w2 ⟨rfl, hb2⟩
    rw [← HRD.out]
    go_wp2_with fail
    go_ret
    exact Ret.mk (hbw.trans (hb2.mono hbw.size))
end Go.Proofs.Ytjoopjgpjkmmhaa
