/-
  A mirror's validity, in the program and in the reference, walked.
-/
import Derived.Test.YtfomfokgibijjaaStr
namespace Go.Proofs.Ytfomfokgibijjaa
open Go.RowKit

def elB (S T : List ByteArray) (c : Int) (i : Nat) : Bool :=
  match S[i]?, T[i]? with
  | some s, some t => decide (s.size = 128) && decide (t.size = 128) && (decide (c ≤ i) || decide (s = t))
  | _, _ => false
def upB (S T : List ByteArray) (c : Int) : Nat → Bool
  | 0 => true
  | k + 1 => upB S T c k && elB S T c k
def headB (S T : List ByteArray) (c : Int) : Bool := decide (1 ≤ S.length ∧ S.length ≤ 64 ∧ T.length = S.length ∧ 0 ≤ c ∧ c ≤ S.length)
def validB (S T : List ByteArray) (c : Int) : Bool := headB S T c && upB S T c S.length
theorem upB_false {S T : List ByteArray} {c : Int} {k n : Nat} (h : elB S T c k = false) (hk : k < n) : upB S T c n = false := by
  induction n with
  | zero => omega
  | succ n ih =>
    unfold upB
    by_cases e : k = n
    · subst e; rw [h, Bool.and_false]
    · rw [ih (by omega), Bool.false_and]
theorem elB_eq {S T : List ByteArray} {c : Int} {k : Nat} {s t : ByteArray} (hs : S[k]? = some s) (ht : T[k]? = some t) : elB S T c k = (decide (s.size = 128) && decide (t.size = 128) && (decide (c ≤ k) || decide (s = t))) := by
  unfold elB; rw [hs, ht]
set_option maxHeartbeats 4000000 in
theorem valid_any (vs vt : Value) (S T : List ByteArray) (c : Int) (w : World) (ha : StrRow w vs S) (hb : StrRow w vt T) (hc : -9223372036854775808 ≤ c ∧ c ≤ 9223372036854775807) : Calls Try.prog 14 #[.agg #[vs, vt, .int .i64 c]] w (Ret w (.bool (validB S T c))) := by
  obtain ⟨ao, ca, rfl, a1, a2, a3⟩ := ha.out
  obtain ⟨bo, cb, rfl, b1, b2, b3⟩ := hb.out
  unfold maxLen at a2 b2
  clear ha hb
  obtain ⟨n, hn⟩ : ∃ n, S.length = n := ⟨_, rfl⟩
  obtain ⟨m, hm⟩ : ∃ n, T.length = n := ⟨_, rfl⟩
  have HN := Lib.hid hn
  have HM := Lib.hid hm
  rw [hn] at a1 a3
  rw [hm] at b1 b3
  unfold validB headB
  rw [hn, hm]
  clear hn hm
  by_cases h1 : 1 ≤ n ∧ n ≤ 64 ∧ m = n ∧ 0 ≤ c ∧ c ≤ n
  rotate_left
  · rw [decide_eq_false h1, Bool.false_and]
    by_cases g1 : n < 1
    · clear h1
      go_enter Try.func14, Try.ntmps14
      go_wp2_with fail
      go_ret
      exact Ret.mk (by repeat (first | with_reducible exact Below.refl _ _ | with_reducible refine Below.drew ?_ | (with_reducible refine Below.alloc ?_ (by first | exact Nat.le_refl _ | omega | (simp only [sizes]; omega)) _) | (with_reducible refine Below.setCell ?_ (by first | exact Nat.le_refl _ | omega | (simp only [sizes]; omega)) _) | (refine Below.trans ?_ (Below.mono (by with_reducible assumption) (by first | exact Nat.le_refl _ | omega | (simp only [sizes]; omega))))))
    by_cases g2 : 64 < n
    · clear h1
      go_enter Try.func14, Try.ntmps14
      go_wp2_with fail
      go_ret
      exact Ret.mk (by repeat (first | with_reducible exact Below.refl _ _ | with_reducible refine Below.drew ?_ | (with_reducible refine Below.alloc ?_ (by first | exact Nat.le_refl _ | omega | (simp only [sizes]; omega)) _) | (with_reducible refine Below.setCell ?_ (by first | exact Nat.le_refl _ | omega | (simp only [sizes]; omega)) _) | (refine Below.trans ?_ (Below.mono (by with_reducible assumption) (by first | exact Nat.le_refl _ | omega | (simp only [sizes]; omega))))))
    by_cases g3 : m = n
    · by_cases g4 : c < 0
      · clear h1
        subst g3
        go_enter Try.func14, Try.ntmps14
        go_wp2_with fail
        go_ret
        exact Ret.mk (by repeat (first | with_reducible exact Below.refl _ _ | with_reducible refine Below.drew ?_ | (with_reducible refine Below.alloc ?_ (by first | exact Nat.le_refl _ | omega | (simp only [sizes]; omega)) _) | (with_reducible refine Below.setCell ?_ (by first | exact Nat.le_refl _ | omega | (simp only [sizes]; omega)) _) | (refine Below.trans ?_ (Below.mono (by with_reducible assumption) (by first | exact Nat.le_refl _ | omega | (simp only [sizes]; omega))))))
      · have g5 : (m : Int) < c := by omega
        clear h1
        subst g3
        go_enter Try.func14, Try.ntmps14
        go_wp2_with fail
        go_ret
        exact Ret.mk (by repeat (first | with_reducible exact Below.refl _ _ | with_reducible refine Below.drew ?_ | (with_reducible refine Below.alloc ?_ (by first | exact Nat.le_refl _ | omega | (simp only [sizes]; omega)) _) | (with_reducible refine Below.setCell ?_ (by first | exact Nat.le_refl _ | omega | (simp only [sizes]; omega)) _) | (refine Below.trans ?_ (Below.mono (by with_reducible assumption) (by first | exact Nat.le_refl _ | omega | (simp only [sizes]; omega))))))
    · have e1 : ((m : Int) != n) = true := by rw [bne_iff_ne]; omega
      have e2 : (m != n) = true := by rw [bne_iff_ne]; omega
      clear h1
      go_enter Try.func14, Try.ntmps14
      go_wp2_with fail
      go_ret
      exact Ret.mk (by repeat (first | with_reducible exact Below.refl _ _ | with_reducible refine Below.drew ?_ | (with_reducible refine Below.alloc ?_ (by first | exact Nat.le_refl _ | omega | (simp only [sizes]; omega)) _) | (with_reducible refine Below.setCell ?_ (by first | exact Nat.le_refl _ | omega | (simp only [sizes]; omega)) _) | (refine Below.trans ?_ (Below.mono (by with_reducible assumption) (by first | exact Nat.le_refl _ | omega | (simp only [sizes]; omega))))))
  rw [decide_eq_true h1, Bool.true_and]
  obtain ⟨h1, h2, rfl, h4, h5⟩ := h1
  clear hc
  obtain ⟨b, off, rfl, hbs, hbc⟩ := a3.resolve_left (by omega)
  obtain ⟨b', off', rfl, hbs', hbc'⟩ := b3.resolve_left (by omega)
  have HC := Lib.hid hbc; clear hbc a3
  have HC' := Lib.hid hbc'; clear hbc' b3
  go_enter Try.func14, Try.ntmps14
  go_wp2_with fail
  go_loop [36] (fun i => ∃ k : Nat, k ≤ m ∧ i = .int .i64 k ∧ Hid (upB S T c k = true)) (fun i => m - (intOf i).toNat)
  case atStart => exact ⟨0, Nat.zero_le _, rfl, rfl⟩
  case round =>
    obtain ⟨k, hk, rfl, hU⟩ := hrel
    by_cases hlt : k < m
    · obtain ⟨x, hx⟩ := get_lt (xs := S) (k := k) (by rw [HN.out]; exact hlt)
      obtain ⟨y, hy⟩ := get_lt (xs := T) (k := k) (by rw [HM.out]; exact hlt)
      have c1 := HC.out k x hx
      have c2 := HC'.out k y hy
      have HX := Lib.hid hx; clear hx
      have HY := Lib.hid hy; clear hy
      by_cases q1 : x.size = 128
      · have xe1 : ((x.size : Int) != 128) = false := by rw [bne_eq_false_iff_eq]; omega
        have xe2 : (x.size != 128) = false := by rw [bne_eq_false_iff_eq]; omega
        by_cases q2 : y.size = 128
        · have ye1 : ((y.size : Int) != 128) = false := by rw [bne_eq_false_iff_eq]; omega
          have ye2 : (y.size != 128) = false := by rw [bne_eq_false_iff_eq]; omega
          by_cases q3 : (k : Int) < c
          · by_cases hxy : x = y
            · have hup : upB S T c (k + 1) = true := by
                rw [upB, hU.out, elB_eq HX.out HY.out, decide_eq_true q1, decide_eq_true q2, decide_eq_true hxy]; simp
              have HUP := Lib.hid hup; clear hup
              clear q1 q2
              subst hxy
              go_wp2_with fail
              go_round
              case rel => exact ⟨k + 1, by omega, by go_num, HUP.out⟩
              case measure => simp [intOf]; omega
            · have hne2 := toList_ne hxy
              have hel : elB S T c k = false := by rw [elB_eq HX.out HY.out]; simp [hxy, q3]
              have HE := Lib.hid (upB_false hel hlt); clear hel
              clear q1 q2 hxy
              go_wp2_with fail
              go_ret
              exact Ret.mk' (by rw [HE.out]; rfl) (by repeat (first | with_reducible exact Below.refl _ _ | with_reducible refine Below.drew ?_ | (with_reducible refine Below.alloc ?_ (by first | exact Nat.le_refl _ | omega | (simp only [sizes]; omega)) _) | (with_reducible refine Below.setCell ?_ (by first | exact Nat.le_refl _ | omega | (simp only [sizes]; omega)) _) | (refine Below.trans ?_ (Below.mono (by with_reducible assumption) (by first | exact Nat.le_refl _ | omega | (simp only [sizes]; omega))))))
          · have hup : upB S T c (k + 1) = true := by
              rw [upB, hU.out, elB_eq HX.out HY.out, decide_eq_true q1, decide_eq_true q2, decide_eq_true (show c ≤ (k : Int) by omega)]; simp
            have HUP := Lib.hid hup; clear hup
            clear q1 q2
            go_wp2_with fail
            go_round
            case rel => exact ⟨k + 1, by omega, by go_num, HUP.out⟩
            case measure => simp [intOf]; omega
        · have ye1 : ((y.size : Int) != 128) = true := by rw [bne_iff_ne]; omega
          have ye2 : (y.size != 128) = true := by rw [bne_iff_ne]; omega
          have hel : elB S T c k = false := by rw [elB_eq HX.out HY.out]; simp [q2]
          have HE := Lib.hid (upB_false hel hlt); clear hel
          clear q1 q2
          go_wp2_with fail
          go_ret
          exact Ret.mk' (by rw [HE.out]; rfl) (by repeat (first | with_reducible exact Below.refl _ _ | with_reducible refine Below.drew ?_ | (with_reducible refine Below.alloc ?_ (by first | exact Nat.le_refl _ | omega | (simp only [sizes]; omega)) _) | (with_reducible refine Below.setCell ?_ (by first | exact Nat.le_refl _ | omega | (simp only [sizes]; omega)) _) | (refine Below.trans ?_ (Below.mono (by with_reducible assumption) (by first | exact Nat.le_refl _ | omega | (simp only [sizes]; omega))))))
      · have xe1 : ((x.size : Int) != 128) = true := by rw [bne_iff_ne]; omega
        have xe2 : (x.size != 128) = true := by rw [bne_iff_ne]; omega
        have hel : elB S T c k = false := by rw [elB_eq HX.out HY.out]; simp [q1]
        have HE := Lib.hid (upB_false hel hlt); clear hel
        clear q1
        go_wp2_with fail
        go_ret
        exact Ret.mk' (by rw [HE.out]; rfl) (by repeat (first | with_reducible exact Below.refl _ _ | with_reducible refine Below.drew ?_ | (with_reducible refine Below.alloc ?_ (by first | exact Nat.le_refl _ | omega | (simp only [sizes]; omega)) _) | (with_reducible refine Below.setCell ?_ (by first | exact Nat.le_refl _ | omega | (simp only [sizes]; omega)) _) | (refine Below.trans ?_ (Below.mono (by with_reducible assumption) (by first | exact Nat.le_refl _ | omega | (simp only [sizes]; omega))))))
    · obtain rfl : k = m := by omega
      go_wp2_with fail
      go_ret
      exact Ret.mk' (by rw [hU.out]; rfl) (by repeat (first | with_reducible exact Below.refl _ _ | with_reducible refine Below.drew ?_ | (with_reducible refine Below.alloc ?_ (by first | exact Nat.le_refl _ | omega | (simp only [sizes]; omega)) _) | (with_reducible refine Below.setCell ?_ (by first | exact Nat.le_refl _ | omega | (simp only [sizes]; omega)) _) | (refine Below.trans ?_ (Below.mono (by with_reducible assumption) (by first | exact Nat.le_refl _ | omega | (simp only [sizes]; omega))))))
end Go.Proofs.Ytfomfokgibijjaa
