/-
  PROVED: 'HostAloneSaid': for every number of frames, tax, list of claims, list of operations, guest and page, HostAlone hands back true and leaves all memory as it was. Conditions: none.
-/
import Derived.Test.YtbnngjhnkegliaaB5
import Derived.Test.YtbnngjhnkegliaaB10
import Derived.Test.YtbnngjhnkegliaaB8
import Derived.BigQuiet
import Derived.Test.YtbnngjhnkegliaaB11
namespace Go.Proofs.Ytbnngjhnkegliaa
open Go.RowKit

/-- The pages before this one, in the order of guests and pages. -/
def before (g p a b : Nat) : Prop := b < 4 ∧ a * 4 + b < g * 4 + p
/-- All pages before this one have the least frame of their content. -/
def LeastTo (P : Pl) (g p : Nat) : Prop := ∀ a b : Nat, P.at a b → before g p a b → P.least' a b
theorem LeastTo.sh {P : Pl} {g p : Nat} (h : LeastTo P g p) (hs : Shape 8 P) {a b : Nat} (ha : a < 2) (hb : b < 4) : LeastTo (P.sh a b) g p := fun c d hcd hbf => by
  have hat := (hs.at' a b).2 ⟨ha, hb⟩
  have hcd' := ((Pl.sh_law hs.ok hat).1.al.at c d).1 hcd
  exact Pl.least_keep hs.ok hat hcd' (h c d hcd' hbf)
theorem LeastTo.step {P : Pl} {g p : Nat} (h : LeastTo P g p) (hs : Shape 8 P) (hg : g < 2) (hp : p < 4) : LeastTo (P.sh g p) g (p + 1) := fun c d hcd hbf => by
  have hat := (hs.at' g p).2 ⟨hg, hp⟩
  by_cases e : c * 4 + d < g * 4 + p
  · exact h.sh hs hg hp c d hcd ⟨hbf.1, e⟩
  · obtain ⟨rfl, rfl⟩ : c = g ∧ d = p := by
      have h1 := hbf.1
      have h2 := hbf.2
      omega
    exact (Pl.sh_frames hs.ok hat).2.2.1
/-- All pages have the least frame of their content: a share changes nothing. -/
def AllLeast (P : Pl) : Prop := ∀ a b : Nat, P.at a b → P.least' a b
theorem LeastTo.all {P : Pl} (h : LeastTo P 2 0) (hs : Shape 8 P) : AllLeast P := fun a b hab => by
  have := (hs.at' a b).1 hab
  exact h a b hab ⟨this.2, by omega⟩
theorem AllLeast.sh {P : Pl} (h : AllLeast P) (hs : Shape 8 P) {g p : Nat} (hg : g < 2) (hp : p < 4) : P.sh g p = P ∧ P.sok g p = false := by
  have hat := (hs.at' g p).2 ⟨hg, hp⟩
  have h1 := (Pl.sok_least hs.ok hat).2 (h g p hat)
  exact ⟨(Pl.sh_law hs.ok hat).2 h1, h1⟩
theorem Pl.zero_text {P : Pl} (H : P.Ok) {g p : Nat} (h : P.at g p) : P.text g p = zeros128 ↔ P.fr g p < 0 := by
  constructor
  · intro e
    rcases Int.lt_or_le (P.fr g p) 0 with h0 | h0
    · exact h0
    · have := (Pl.text_good H h h0).2
      rw [e, zeros128_zero] at this
      cases this
  · intro h0
    unfold Pl.text
    rw [if_pos h0]
theorem one_str (x : ByteArray) : ∀ u ∈ [Value.string x], u.oneCell' = true := by
  intro u hu
  simp at hu
  subst hu
  rfl
/-- Whether a content has been met among the first ones, or is zeros. -/
def MetTo (m : Bool) (t z : ByteArray) (S : List ByteArray) (j : Nat) : Prop := m = true ↔ (t = z ∨ t ∈ S.take j)
theorem MetTo.yes {t z : ByteArray} {S : List ByteArray} {j : Nat} (h : MetTo true t z S j) : MetTo true t z S (j + 1) := by
  unfold MetTo at *
  simp only [true_iff] at *
  rcases h with h | h
  · exact .inl h
  · right
    rw [List.take_add_one]
    exact List.mem_append_left _ h
theorem MetTo.no {t z u : ByteArray} {S : List ByteArray} {j : Nat} (h : MetTo false t z S j) (hu : S[j]? = some u) : MetTo (decide (u = t)) t z S (j + 1) := by
  unfold MetTo at *
  have h1 : ¬ (t = z ∨ t ∈ S.take j) := fun e => by have := h.2 e; cases this
  rw [List.take_add_one, hu, decide_eq_true_eq]
  constructor
  · rintro rfl
    exact .inr (List.mem_append_right _ (by simp))
  · rintro (e | e)
    · exact absurd (.inl e) h1
    · rw [List.mem_append] at e
      rcases e with e | e
      · exact absurd (.inr e) h1
      · simp at e
        exact e.symm
theorem MetTo.zero (t z : ByteArray) (S : List ByteArray) : MetTo (decide (t = z)) t z S 0 := by
  unfold MetTo
  simp
theorem before_succ {g k : Nat} (hk : k < 4) (a b : Nat) : before g (k + 1) a b ↔ before g k a b ∨ (a = g ∧ b = k) := by
  unfold before
  omega
theorem before_next (g a b : Nat) : before (g + 1) 0 a b ↔ before g 4 a b := by
  unfold before
  omega
theorem Seen.iff {P : Pl} {v v' : Nat → Nat → Prop} {S : List ByteArray} (h : Seen P v S) (hv : ∀ a b, v' a b ↔ v a b) : Seen P v' S := by
  have e : v' = v := funext fun a => funext fun b => propext (hv a b)
  rw [e]
  exact h
theorem bytes_eq (s t : ByteArray) : (s.toList == t.toList) = decide (s = t) := by
  rw [Bool.eq_iff_iff, beq_iff_eq, decide_eq_true_eq]
  exact ⟨fun h => by
    rw [ByteArray.toList_eq, ByteArray.toList_eq] at h
    cases s with
    | mk a => cases t with
      | mk b => exact congrArg ByteArray.mk (Array.toList_inj.1 h), fun h => by rw [h]⟩
theorem LeastTo.next {P : Pl} {g : Nat} (h : LeastTo P g 4) : LeastTo P (g + 1) 0 := fun a b hab hbf => h a b hab ((before_next g a b).1 hbf)
theorem LeastTo.start (P : Pl) : LeastTo P 0 0 := fun a b _ h => by have := h.2; omega
theorem Pl.free_okL {P : Pl} (H : P.Ok) : P.free = P.freeN := by unfold Pl.free; rw [Pl.ok_iff.2 H, if_pos rfl]
end Go.Proofs.Ytbnngjhnkegliaa
namespace Go.Proofs.Ytbnngjhnkegliaa
open Go.RowKit

/-- What a read of a page that is not swapped leaves of the guests. -/
theorem mark_hand {H : Ho} {i k a : Nat} {g : Gm} (h : H.G[a]? = some g) : ∃ g', (H.mark i k).G[a]? = some g' ∧ g'.swapped = g.swapped ∧ g'.h = g.h := by
  unfold Ho.mark
  cases hg : H.G[i]? with
  | none => exact ⟨g, h, rfl, rfl⟩
  | some g0 =>
    dsimp only [Ho.setG]
    rw [List.getElem?_set]
    by_cases e : i = a
    · subst e
      rw [if_pos rfl, if_pos (lt_of_get hg)]
      rw [hg] at h
      cases h
      exact ⟨_, rfl, rfl, rfl⟩
    · rw [if_neg e]
      exact ⟨g, h, rfl, rfl⟩
theorem read_alone {H H' : Ho} {i p : Nat} (h : ReadTo H i p H') (h0 : (H.sw i p).size = 0) : (∀ a, H'.P.chargeN a = H.P.chargeN a) ∧ ∀ (a : Nat) (g : Gm), H.G[a]? = some g → ∃ g', H'.G[a]? = some g' ∧ g'.swapped = g.swapped ∧ g'.h = g.h := by
  obtain ⟨g, t, hg, ht, h⟩ := h
  rw [Ho.sw_eq hg ht] at h0
  rcases h with ⟨_, rfl⟩ | ⟨h1, _⟩
  · exact ⟨fun a => by rw [mark_P], fun a g hg => mark_hand hg⟩
  · exact absurd h0 h1
/-- A page written back with its own content. -/
theorem put_back {H H1 H2 H3 : Ho} {i p : Nat} (hok : H.Ok) (hat : H.P.at i p) (h1 : ReadTo H i p H1) (h2 : WriteTo H1 i p (H.text i p) H2) (h3 : ReadTo H2 i p H3) : H3.P.text i p = H.text i p ∧ (H.text i p = zeros128 ∨ 0 ≤ H2.P.fr i p) := by
  have hz := hok.textz hat
  obtain ⟨k1, _, _⟩ := read_keeps hok hat h1
  have hat1 := (k1.al.at i p).2 hat
  have W := write_keeps k1.ok hat1 hz h2
  have hat2 := (W.k.al.at i p).2 hat1
  obtain ⟨_, _, k3⟩ := read_keeps W.k.ok hat2 h3
  refine ⟨by rw [k3, W.text i p hat1, if_pos ⟨rfl, rfl⟩], ?_⟩
  cases hb : zeroB (H.text i p)
  · exact .inr (W.fr.2 hb)
  · exact .inl (zero_is hz hb)
end Go.Proofs.Ytbnngjhnkegliaa
namespace Go.Proofs.Ytbnngjhnkegliaa
open Go.RowKit

theorem claim_field1 (c : Clm) (w : World) : (Instr.field 35 (.agg #[.int .i64 c.r, .int .i64 c.l, .int .i64 c.s, .int .i64 c.p, .int .i64 c.a]) 1).run Try.prog w = .ok (.int .i64 c.l) w := by kernel_rfl
set_option maxRecDepth 100000 in
set_option maxHeartbeats 8000000 in
theorem limits_any (fr tx : Int) (va vb : Value) (ls os : List Int) (w : World) (ha : NumRow w va ls) (hb : NumRow w vb os) : Calls Try.prog 5 #[.int .i64 fr, .int .i64 tx, va, vb] w (Ret w (.bool true)) := by
  obtain ⟨bo, cb, rfl, b1, b2, _⟩ := hb.out
  unfold maxLen at b2
  obtain ⟨N, hN⟩ : ∃ N, os.length = N := ⟨_, rfl⟩
  rw [hN] at b1 hb ⊢
  have HN := Lib.hid hN; clear hN
  have HA := Lib.hid ha; clear ha
  have HB0 := Lib.hid hb; clear hb
  go_enter Try.func5, Try.ntmps5
  by_cases c1 : fr < 6
  · have t1 : decide (fr < 6) = true := decide_eq_true c1
    go_wp2_with fail
    with_reducible refine (awake_any _).mono ?_
    rintro e wz ⟨rfl, hbz⟩
    go_wp2_with fail
    go_ret
    exact Ret.mk hbz
  have t1 : decide (fr < 6) = false := decide_eq_false c1
  by_cases c2 : 14 < fr
  · have t2 : decide (fr > 14) = true := decide_eq_true c2
    have t2' : decide (14 < fr) = true := decide_eq_true c2
    go_wp2_with fail
    with_reducible refine (awake_any _).mono ?_
    rintro e wz ⟨rfl, hbz⟩
    go_wp2_with fail
    go_ret
    exact Ret.mk hbz
  have t2 : decide (fr > 14) = false := decide_eq_false c2
  have t2' : decide (14 < fr) = false := decide_eq_false c2
  by_cases c3 : tx < 0
  · have t3 : decide (tx < 0) = true := decide_eq_true c3
    go_wp2_with fail
    with_reducible refine (awake_any _).mono ?_
    rintro e wz ⟨rfl, hbz⟩
    go_wp2_with fail
    go_ret
    exact Ret.mk hbz
  have t3 : decide (tx < 0) = false := decide_eq_false c3
  by_cases c4 : 99 < tx
  · have t4 : decide (tx > 99) = true := decide_eq_true c4
    have t4' : decide (99 < tx) = true := decide_eq_true c4
    go_wp2_with fail
    with_reducible refine (awake_any _).mono ?_
    rintro e wz ⟨rfl, hbz⟩
    go_wp2_with fail
    go_ret
    exact Ret.mk hbz
  have t4 : decide (tx > 99) = false := decide_eq_false c4
  have t4' : decide (99 < tx) = false := decide_eq_false c4
  by_cases c5 : 60 < N
  · have t5 : decide ((N : Int) > 60) = true := decide_eq_true (by omega)
    have t5' : decide ((60 : Int) < (N : Int)) = true := decide_eq_true (by omega)
    have t5'' : decide (60 < N) = true := decide_eq_true c5
    go_wp2_with fail
    with_reducible refine (awake_any _).mono ?_
    rintro e wz ⟨rfl, hbz⟩
    go_wp2_with fail
    go_ret
    exact Ret.mk hbz
  have t5 : decide ((N : Int) > 60) = false := decide_eq_false (by omega)
  have t5' : decide ((60 : Int) < (N : Int)) = false := decide_eq_false (by omega)
  have t5'' : decide (60 < N) = false := decide_eq_false c5
  obtain ⟨n, hn⟩ : ∃ n : Nat, fr = n := ⟨fr.toNat, by omega⟩
  have hn6 : 6 ≤ n ∧ n ≤ 14 := by omega
  subst hn
  have MD := fun w h => made_any n tx va ls w hn6.1 (by omega) (by omega) h
  have hfr := madeH_fresh (n := n) (t := tx) (ls := ls) hn6.1 (by omega) (by omega) 3 (by omega)
  obtain ⟨H0, hH0⟩ : ∃ x, madeH n tx ls 3 = x := ⟨_, rfl⟩
  rw [hH0] at MD hfr
  have HMD := Lib.hid MD; clear MD hH0
  have HFR := Lib.hid hfr; clear hfr
  have hbw : Below w.heap.size w w := Below.refl _ _
  go_wp2_with fail
  with_reducible refine (HMD.out _ HA.out).mono ?_
  rintro e w1 ⟨of0, or0, om0, og0, kf0, kr0, km0, kg0, us0, gs0, rfl, O0, hb1⟩
  replace hbw := hbw.trans hb1
  clear hb1
  obtain ⟨n0, hln⟩ : ∃ n, (Pl.F (Ho.P H0)).length = n := ⟨_, rfl⟩
  obtain ⟨r0, hlr⟩ : ∃ n, (Pl.R (Ho.P H0)).length = n := ⟨_, rfl⟩
  obtain ⟨m0, hlm⟩ : ∃ n, (Pl.M (Ho.P H0)).length = n := ⟨_, rfl⟩
  obtain ⟨q0, hlq⟩ : ∃ n, (Ho.G H0).length = n := ⟨_, rfl⟩
  obtain ⟨t0, hlt0⟩ : ∃ n, Ho.t H0 = n := ⟨_, rfl⟩
  obtain ⟨d0, hld⟩ : ∃ n, Ho.d H0 = n := ⟨_, rfl⟩
  obtain ⟨s0, hls⟩ : ∃ n, Ho.n H0 = n := ⟨_, rfl⟩
  rw [hln, hlr, hlm, hlq] at O0 ⊢
  rw [hlt0, hld, hls]
  have HG0 := Lib.hid (And.intro hln (And.intro hlr (And.intro hlm (And.intro hlq (And.intro hlt0 (And.intro hld hls))))))
  clear hln hlr hlm hlq hlt0 hld hls
  go_upto_region 4 with (fail)
  have HB := HostAt.new (base' := 0) HG0.out O0 (Nat.zero_le _)
  have hz1 := hbw.size
  replace hbw := hbw.alloc hbw.size (.cells #[.slice of0 n0 kf0, .slice or0 r0 kr0, .slice om0 m0 km0, .slice og0 q0 kg0, .int .i64 t0, .int .u64 d0, .int .i64 s0] 31)
  obtain ⟨B0, hB⟩ : ∃ B, w1.heap.size = B := ⟨_, rfl⟩
  rw [hB] at HB hz1 ⊢
  generalize hW : w1.alloc (.cells #[.slice of0 n0 kf0, .slice or0 r0 kr0, .slice om0 m0 km0, .slice og0 q0 kg0, .int .i64 t0, .int .u64 d0, .int .i64 s0] 31) = w2 at HB hbw ⊢
  clear hW hB O0 HG0
  have HSH := Lib.hid HFR.out.shape; clear HFR
  go_wp2_with fail
  go_loopw [10, 11] (fun bv iv wr => ∃ (i : Nat) (H : Ho), i ≤ N ∧ bv = .bool true ∧ iv = .int .i64 i ∧ Hid (HShape n ls H) ∧ HostAt 0 B0 wr H ∧ Below w.heap.size w wr) (fun _ iv _ => N - (intOf iv).toNat)
  case atStart => exact ⟨0, H0, by omega, rfl, rfl, HSH, HB, hbw⟩
  case round =>
    clear HSH HB hbw HMD
    obtain ⟨i, H, hi, rfl, rfl, HSH, HBX, hbw⟩ := hrel
    by_cases hlt : i < N
    · obtain ⟨x, hx⟩ := get_lt (xs := os) (k := i) (by rw [HN.out]; exact hlt)
      obtain ⟨b, off, rfl, hbs, hcx⟩ := EncRow.elem (enc := Value.int .i64) HB0.out hx
      clear hx
      have cx := (hbw.cell (p := ⟨b, off + i, none⟩) hbs).trans hcx
      have hbs2 : b < wr.heap.size := by have := hbw.size; omega
      have i0 : (0 : Int) ≤ (i : Int) := by omega
      have iN : (i : Int) < (N : Int) := by omega
      have ACT := fun v w h => act_any v n ls H x w h HSH.out
      have HACT := Lib.hid ACT; clear ACT
      obtain ⟨of1, or1, om1, og1, kf1, kr1, km1, kg1, us1, gs1, D1, O1⟩ := HBX
      obtain ⟨n1, hln⟩ : ∃ n, (Pl.F (Ho.P H)).length = n := ⟨_, rfl⟩
      obtain ⟨r1, hlr⟩ : ∃ n, (Pl.R (Ho.P H)).length = n := ⟨_, rfl⟩
      obtain ⟨m1, hlm⟩ : ∃ n, (Pl.M (Ho.P H)).length = n := ⟨_, rfl⟩
      obtain ⟨q1, hlq⟩ : ∃ n, (Ho.G H).length = n := ⟨_, rfl⟩
      obtain ⟨t1, hlt1⟩ : ∃ n, Ho.t H = n := ⟨_, rfl⟩
      obtain ⟨d1, hld⟩ : ∃ n, Ho.d H = n := ⟨_, rfl⟩
      obtain ⟨s1, hls⟩ : ∃ n, Ho.n H = n := ⟨_, rfl⟩
      rw [hln, hlr, hlm, hlq] at O1 D1
      rw [hlt1, hld, hls] at D1
      have HG1 := Lib.hid (And.intro hln (And.intro hlr (And.intro hlm (And.intro hlq (And.intro hlt1 (And.intro hld hls))))))
      clear hln hlr hlm hlq hlt1 hld hls
      have HV1 : Hid (∀ w' : World, Below (wr).heap.size wr w' → HoAt w' (.agg #[.slice of1 n1 kf1, .slice or1 r1 kr1, .slice om1 m1 km1, .slice og1 q1 kg1, .int .i64 t1, .int .u64 d1, .int .i64 s1]) H) := Lib.hid (fun w' hb => by
        have := (O1.below hb).at_
        rwa [HG1.out.2.2.2.2.1, HG1.out.2.2.2.2.2.1, HG1.out.2.2.2.2.2.2] at this)
      go_wp2_with fail
      go_cut [10] from 48 to 62 (fun v wx => v = .bool true ∧ ∃ H', Hid (∃ g p s, ActTo H H' g p s) ∧ HostAt 0 B0 wx H' ∧ Below w.heap.size w wx)
      case first =>
        have D1k := D1
        obtain ⟨D1_c, D1_f, D1_z⟩ := D1.all
        have hbz := hbs2
        go_region_law (first
          | (go_simp; go_at_call 19
             with_reducible refine (HACT.out _ _ (HV1.out _ (Below.drew (Below.refl _ _)))).mono ?_
             rintro _ w16 ⟨H2, ga, pa, sa, hact, of16, or16, om16, og16, kf16, kr16, km16, kg16, us16, gs16, rfl, O16, hb16⟩
             obtain ⟨n16, hln⟩ : ∃ n, (Pl.F (Ho.P H2)).length = n := ⟨_, rfl⟩
             obtain ⟨r16, hlr⟩ : ∃ n, (Pl.R (Ho.P H2)).length = n := ⟨_, rfl⟩
             obtain ⟨m16, hlm⟩ : ∃ n, (Pl.M (Ho.P H2)).length = n := ⟨_, rfl⟩
             obtain ⟨q16, hlq⟩ : ∃ n, (Ho.G H2).length = n := ⟨_, rfl⟩
             obtain ⟨t16, hlt16⟩ : ∃ n, Ho.t H2 = n := ⟨_, rfl⟩
             obtain ⟨d16, hld⟩ : ∃ n, Ho.d H2 = n := ⟨_, rfl⟩
             obtain ⟨s16, hls⟩ : ∃ n, Ho.n H2 = n := ⟨_, rfl⟩
             rw [hln, hlr, hlm, hlq] at O16 ⊢
             rw [hlt16, hld, hls]
             have HG16 := Lib.hid (And.intro hln (And.intro hlr (And.intro hlm (And.intro hlq (And.intro hlt16 (And.intro hld hls))))))
             clear hln hlr hlm hlq hlt16 hld hls
             have HACK := Lib.hid hact
             clear hact
             have HB16 : Below wr.heap.size wr w16 := (Below.drew (Below.refl _ wr)).trans hb16
             have E0 := D1k.below HB16
             have O16z := O16.lower (base' := 0) (Nat.zero_le _)
             have hbw16 : Below w.heap.size w w16 := hbw.trans (HB16.mono hbw.size)
             have E0k := E0
             obtain ⟨E0_c, E0_f, E0_z⟩ := E0.all))
        all_goals
          go_wp2_with fail
          go_meet
          exact ⟨rfl, H2, Lib.hid ⟨_, _, _, HACK.out⟩, HostAt.fill HG16.out E0k O16z, Below.fill7 hbw16 (by omega) _ _ _ _ _ _ _⟩
      case rest =>
        clear D1 O1 HV1 HG1 hbw cx hbs2
        obtain ⟨rfl, H2, HAK, HBX, hbw⟩ := hcut
        obtain ⟨g2, p2, s2, hact⟩ := HAK.out
        have HS2 := Lib.hid (act_kept HSH.out hact).1
        clear hact HAK HACT HSH
        have HBK := HBX
        obtain ⟨of2, or2, om2, og2, kf2, kr2, km2, kg2, us2, gs2, D2, O2⟩ := HBX
        obtain ⟨n2, hln⟩ : ∃ n, (Pl.F (Ho.P H2)).length = n := ⟨_, rfl⟩
        obtain ⟨r2, hlr⟩ : ∃ n, (Pl.R (Ho.P H2)).length = n := ⟨_, rfl⟩
        obtain ⟨m2, hlm⟩ : ∃ n, (Pl.M (Ho.P H2)).length = n := ⟨_, rfl⟩
        obtain ⟨q2, hlq⟩ : ∃ n, (Ho.G H2).length = n := ⟨_, rfl⟩
        obtain ⟨t2, hlt2⟩ : ∃ n, Ho.t H2 = n := ⟨_, rfl⟩
        obtain ⟨d2, hld⟩ : ∃ n, Ho.d H2 = n := ⟨_, rfl⟩
        obtain ⟨s2, hls⟩ : ∃ n, Ho.n H2 = n := ⟨_, rfl⟩
        rw [hln, hlr, hlm, hlq] at O2 D2
        rw [hlt2, hld, hls] at D2
        have HG2 := Lib.hid (And.intro hln (And.intro hlr (And.intro hlm (And.intro hlq (And.intro hlt2 (And.intro hld hls))))))
        clear hln hlr hlm hlq hlt2 hld hls
        have HV2 : Hid (∀ w' : World, Below (wc).heap.size wc w' → HoAt w' (.agg #[.slice of2 n2 kf2, .slice or2 r2 kr2, .slice om2 m2 km2, .slice og2 q2 kg2, .int .i64 t2, .int .u64 d2, .int .i64 s2]) H2) := Lib.hid (fun w' hb => by
          have := (O2.below hb).at_
          rwa [HG2.out.2.2.2.2.1, HG2.out.2.2.2.2.2.1, HG2.out.2.2.2.2.2.2] at this)
        have hn2 : n2 = n := by rw [← HG2.out.1]; exact HS2.out.f
        have hr2 : r2 = n := by rw [← HG2.out.2.1, HS2.out.ok.p.r]; exact HS2.out.f
        rw [hn2, hr2] at D2 O2 HV2 HG2
        clear hn2 hr2
        have HRR := Lib.hid O2.row.p.parts.2.1
        have hrl := HG2.out.2.1
        have HRL := Lib.hid hrl; clear hrl
        obtain ⟨D2_c, D2_f, D2_z⟩ := D2.all
        go_wp2_with fail
        go_loop [12, 13] (fun u k => ∃ j c : Nat, j ≤ n ∧ c ≤ j ∧ k = .int .i64 j ∧ u = .int .i64 c) (fun _ k => n - (intOf k).toNat)
        case atStart => exact ⟨0, 0, by omega, by omega, rfl, rfl⟩
        case round =>
          obtain ⟨j, c, hj, hcj, rfl, rfl⟩ := hrel
          by_cases hjt : j < n
          · obtain ⟨y, hy⟩ := get_lt (xs := H2.P.R) (k := j) (by rw [HRL.out]; exact hjt)
            obtain ⟨rb, roff, rfl, hrb, hcy⟩ := EncRow.elem (enc := Value.int .i64) HRR.out hy
            clear hy
            have j0 : (0 : Int) ≤ (j : Int) := by omega
            have jn : (j : Int) < (n : Int) := by omega
            by_cases hy0 : 0 < y
            · have q1 : decide (y > 0) = true := decide_eq_true hy0
              have q2 : decide (0 < y) = true := decide_eq_true hy0
              go_wp2_with fail
              go_round
              case rel => exact ⟨j + 1, c + 1, by omega, by omega, by go_num, by go_num⟩
              case measure => simp [intOf]; omega
            · have q1 : decide (y > 0) = false := decide_eq_false hy0
              have q2 : decide (0 < y) = false := decide_eq_false hy0
              go_wp2_with fail
              go_round
              case rel => exact ⟨j + 1, c, by omega, by omega, by go_num, rfl⟩
              case measure => simp [intOf]; omega
          · obtain rfl : n = j := by omega
            have q1 : decide ((c : Int) > (n : Int)) = false := decide_eq_false (by omega)
            have q2 : decide ((n : Int) < (c : Int)) = false := decide_eq_false (by omega)
            go_wp2_with fail
            clear D2_c D2_f D2_z D2 O2 HV2 HRR HRL q1 q2
            go_loopw [14] (fun gv wr => ∃ g : Nat, g ≤ 3 ∧ gv = .int .i64 g ∧ HostAt 0 B0 wr H2 ∧ Below w.heap.size w wr) (fun gv _ => 3 - (intOf gv).toNat)
            case atStart => exact ⟨0, by omega, rfl, HBK, hbw⟩
            case round =>
              clear HBK hbw
              obtain ⟨g, hg, rfl, HBX, hbw⟩ := hrel
              have HBK := HBX
              by_cases hgt : g < 3
              · obtain ⟨of3, or3, om3, og3, kf3, kr3, km3, kg3, us3, gs3, D3, O3⟩ := HBX
                obtain ⟨n3, hln⟩ : ∃ n, (Pl.F (Ho.P H2)).length = n := ⟨_, rfl⟩
                obtain ⟨r3, hlr⟩ : ∃ n, (Pl.R (Ho.P H2)).length = n := ⟨_, rfl⟩
                obtain ⟨m3, hlm⟩ : ∃ n, (Pl.M (Ho.P H2)).length = n := ⟨_, rfl⟩
                obtain ⟨q3, hlq⟩ : ∃ n, (Ho.G H2).length = n := ⟨_, rfl⟩
                obtain ⟨t3, hlt3⟩ : ∃ n, Ho.t H2 = n := ⟨_, rfl⟩
                obtain ⟨d3, hld⟩ : ∃ n, Ho.d H2 = n := ⟨_, rfl⟩
                obtain ⟨s3, hls⟩ : ∃ n, Ho.n H2 = n := ⟨_, rfl⟩
                rw [hln, hlr, hlm, hlq] at O3 D3
                rw [hlt3, hld, hls] at D3
                have HG3 := Lib.hid (And.intro hln (And.intro hlr (And.intro hlm (And.intro hlq (And.intro hlt3 (And.intro hld hls))))))
                clear hln hlr hlm hlq hlt3 hld hls
                have HV3 : Hid (∀ w' : World, Below (wr).heap.size wr w' → HoAt w' (.agg #[.slice of3 n3 kf3, .slice or3 r3 kr3, .slice om3 m3 km3, .slice og3 q3 kg3, .int .i64 t3, .int .u64 d3, .int .i64 s3]) H2) := Lib.hid (fun w' hb => by
                  have := (O3.below hb).at_
                  rwa [HG3.out.2.2.2.2.1, HG3.out.2.2.2.2.2.1, HG3.out.2.2.2.2.2.2] at this)
                obtain ⟨X, hX⟩ := get_lt (xs := H2.G) (k := g) (by rw [HS2.out.g]; exact hgt)
                have hlm := (HS2.out.ok.gmP hX).lim
                rw [(HS2.out.cl g X hX).2] at hlm
                have RS := fun v w h => hres_ok v H2 g w h HS2.out.ok (by rw [HS2.out.g]; exact hgt)
                have AT := fun w h => at_any va ls g w h (by omega)
                have CL := fun w => claim_any (atI ls g) w
                obtain ⟨cc, hcc⟩ : ∃ c, claimI (atI ls g) = c := ⟨_, rfl⟩
                obtain ⟨ch, hch⟩ : ∃ c, H2.P.chargeN g = c := ⟨_, rfl⟩
                rw [hcc] at CL hlm
                rw [hch] at RS hlm
                have HRS := Lib.hid RS; clear RS
                have HATT := Lib.hid AT; clear AT
                have HCL := Lib.hid CL; clear CL
                clear hX hcc hch
                have q1 : decide ((ch : Int) > cc.l) = false := decide_eq_false (by omega)
                have q2 : decide (cc.l < (ch : Int)) = false := decide_eq_false (by omega)
                have g3 : (g : Int) < 3 := by omega
                have hfl := claim_field1 cc
                obtain ⟨D3_c, D3_f, D3_z⟩ := D3.all
                go_wp2_with fail
                clear D3_c D3_f D3_z
                with_reducible refine (HRS.out _ _ (HV3.out _ (Below.refl _ _))).mono ?_
                rintro e w20 ⟨rfl, hbk⟩
                replace HBK := HBK.below hbk
                replace hbw := hbw.trans (hbk.mono hbw.size)
                clear hbk D3 O3 HV3 HG3
                go_wp2_with fail
                with_reducible refine (HATT.out _ (HA.out.below hbw)).mono ?_
                rintro e w21 ⟨rfl, hbk⟩
                replace HBK := HBK.below hbk
                replace hbw := hbw.trans (hbk.mono hbw.size)
                clear hbk
                go_wp2_with fail
                with_reducible refine (HCL.out _).mono ?_
                rintro e w22 ⟨rfl, hbk⟩
                replace HBK := HBK.below hbk
                replace hbw := hbw.trans (hbk.mono hbw.size)
                clear hbk
                go_wp2_with fail
                go_roundw
                case rel => exact ⟨g + 1, by omega, by go_num, HBK, hbw⟩
                case measure => simp [intOf]; omega
              · obtain rfl : g = 3 := by omega
                go_wp2_with fail
                go_roundw
                case rel => exact ⟨i + 1, H2, by omega, rfl, by go_num, HS2, HBK, hbw⟩
                case measure => simp [intOf]; omega
    · obtain rfl : N = i := by omega
      go_wp2_with fail
      with_reducible refine (awake_any _).mono ?_
      rintro e wz ⟨rfl, hbz⟩
      replace hbw := hbw.trans (hbz.mono hbw.size)
      go_wp2_with fail
      go_ret
      exact Ret.mk hbw
end Go.Proofs.Ytbnngjhnkegliaa
namespace Go.Proofs.Ytbnngjhnkegliaa
open Go.RowKit

set_option maxRecDepth 100000 in
set_option maxHeartbeats 8000000 in
theorem alone_any (fr tx gq pq : Int) (va vb : Value) (ls os : List Int) (w : World) (ha : NumRow w va ls) (hb : NumRow w vb os) (hg : -9223372036854775808 ≤ gq ∧ gq ≤ 9223372036854775807) (hp : -9223372036854775808 ≤ pq ∧ pq ≤ 9223372036854775807) : Calls Try.prog 7 #[.int .i64 fr, .int .i64 tx, va, vb, .int .i64 gq, .int .i64 pq] w (Ret w (.bool true)) := by
  obtain ⟨bo, cb, rfl, b1, b2, _⟩ := hb.out
  unfold maxLen at b2
  obtain ⟨N, hN⟩ : ∃ N, os.length = N := ⟨_, rfl⟩
  rw [hN] at b1 hb ⊢
  have HN := Lib.hid hN; clear hN
  have HA := Lib.hid ha; clear ha
  have HB0 := Lib.hid hb; clear hb
  have R1 := fun w => round_any gq 3 w hg (by omega) (by omega)
  have R2 := fun w => round_any pq 6 w hp (by omega) (by omega)
  obtain ⟨g, hgg⟩ : ∃ g : Nat, gq % 3 = g := ⟨(gq % 3).toNat, by omega⟩
  obtain ⟨p, hpp⟩ : ∃ g : Nat, pq % 6 = g := ⟨(pq % 6).toNat, by omega⟩
  have g3 : g < 3 := by omega
  have p6 : p < 6 := by omega
  rw [hgg] at R1
  rw [hpp] at R2
  have HR1 := Lib.hid R1; clear R1 hgg
  have HR2 := Lib.hid R2; clear R2 hpp hg hp
  go_enter Try.func7, Try.ntmps7
  by_cases c1 : fr < 6
  · have t1 : decide (fr < 6) = true := decide_eq_true c1
    go_wp2_with fail
    with_reducible refine (awake_any _).mono ?_
    rintro e wz ⟨rfl, hbz⟩
    go_wp2_with fail
    go_ret
    exact Ret.mk hbz
  have t1 : decide (fr < 6) = false := decide_eq_false c1
  by_cases c2 : 14 < fr
  · have t2 : decide (fr > 14) = true := decide_eq_true c2
    have t2' : decide (14 < fr) = true := decide_eq_true c2
    go_wp2_with fail
    with_reducible refine (awake_any _).mono ?_
    rintro e wz ⟨rfl, hbz⟩
    go_wp2_with fail
    go_ret
    exact Ret.mk hbz
  have t2 : decide (fr > 14) = false := decide_eq_false c2
  have t2' : decide (14 < fr) = false := decide_eq_false c2
  by_cases c3 : tx < 0
  · have t3 : decide (tx < 0) = true := decide_eq_true c3
    go_wp2_with fail
    with_reducible refine (awake_any _).mono ?_
    rintro e wz ⟨rfl, hbz⟩
    go_wp2_with fail
    go_ret
    exact Ret.mk hbz
  have t3 : decide (tx < 0) = false := decide_eq_false c3
  by_cases c4 : 99 < tx
  · have t4 : decide (tx > 99) = true := decide_eq_true c4
    have t4' : decide (99 < tx) = true := decide_eq_true c4
    go_wp2_with fail
    with_reducible refine (awake_any _).mono ?_
    rintro e wz ⟨rfl, hbz⟩
    go_wp2_with fail
    go_ret
    exact Ret.mk hbz
  have t4 : decide (tx > 99) = false := decide_eq_false c4
  have t4' : decide (99 < tx) = false := decide_eq_false c4
  by_cases c5 : 40 < N
  · have t5 : decide ((N : Int) > 40) = true := decide_eq_true (by omega)
    have t5' : decide ((40 : Int) < (N : Int)) = true := decide_eq_true (by omega)
    have t5'' : decide (40 < N) = true := decide_eq_true c5
    go_wp2_with fail
    with_reducible refine (awake_any _).mono ?_
    rintro e wz ⟨rfl, hbz⟩
    go_wp2_with fail
    go_ret
    exact Ret.mk hbz
  have t5 : decide ((N : Int) > 40) = false := decide_eq_false (by omega)
  have t5' : decide ((40 : Int) < (N : Int)) = false := decide_eq_false (by omega)
  have t5'' : decide (40 < N) = false := decide_eq_false c5
  obtain ⟨n, hn⟩ : ∃ n : Nat, fr = n := ⟨fr.toNat, by omega⟩
  have hn6 : 6 ≤ n ∧ n ≤ 14 := by omega
  subst hn
  have MD := fun w h => made_any n tx va ls w hn6.1 (by omega) (by omega) h
  have hfr := madeH_fresh (n := n) (t := tx) (ls := ls) hn6.1 (by omega) (by omega) 3 (by omega)
  obtain ⟨H0, hH0⟩ : ∃ x, madeH n tx ls 3 = x := ⟨_, rfl⟩
  rw [hH0] at MD hfr
  have HMD := Lib.hid MD; clear MD hH0
  have HFR := Lib.hid hfr; clear hfr
  have hbw : Below w.heap.size w w := Below.refl _ _
  go_wp2_with fail
  with_reducible refine (HMD.out _ HA.out).mono ?_
  rintro e w1 ⟨of0, or0, om0, og0, kf0, kr0, km0, kg0, us0, gs0, rfl, O0, hb1⟩
  replace hbw := hbw.trans hb1
  clear hb1
  obtain ⟨n0, hln⟩ : ∃ n, (Pl.F (Ho.P H0)).length = n := ⟨_, rfl⟩
  obtain ⟨r0, hlr⟩ : ∃ n, (Pl.R (Ho.P H0)).length = n := ⟨_, rfl⟩
  obtain ⟨m0, hlm⟩ : ∃ n, (Pl.M (Ho.P H0)).length = n := ⟨_, rfl⟩
  obtain ⟨q0, hlq⟩ : ∃ n, (Ho.G H0).length = n := ⟨_, rfl⟩
  obtain ⟨t0, hlt0⟩ : ∃ n, Ho.t H0 = n := ⟨_, rfl⟩
  obtain ⟨d0, hld⟩ : ∃ n, Ho.d H0 = n := ⟨_, rfl⟩
  obtain ⟨s0, hls⟩ : ∃ n, Ho.n H0 = n := ⟨_, rfl⟩
  rw [hln, hlr, hlm, hlq] at O0 ⊢
  rw [hlt0, hld, hls]
  have HG0 := Lib.hid (And.intro hln (And.intro hlr (And.intro hlm (And.intro hlq (And.intro hlt0 (And.intro hld hls))))))
  clear hln hlr hlm hlq hlt0 hld hls
  go_upto_region 4 with (fail)
  have HB := HostAt.new (base' := 0) HG0.out O0 (Nat.zero_le _)
  have hz1 := hbw.size
  replace hbw := hbw.alloc hbw.size (.cells #[.slice of0 n0 kf0, .slice or0 r0 kr0, .slice om0 m0 km0, .slice og0 q0 kg0, .int .i64 t0, .int .u64 d0, .int .i64 s0] 31)
  obtain ⟨B0, hB⟩ : ∃ B, w1.heap.size = B := ⟨_, rfl⟩
  rw [hB] at HB hz1 ⊢
  generalize hW : w1.alloc (.cells #[.slice of0 n0 kf0, .slice or0 r0 kr0, .slice om0 m0 km0, .slice og0 q0 kg0, .int .i64 t0, .int .u64 d0, .int .i64 s0] 31) = w2 at HB hbw ⊢
  clear hW hB O0 HG0
  have HSH := Lib.hid HFR.out.shape; clear HFR HMD t1 t2 t2' t3 t4 t4' t5 t5' t5''
  go_wp2_with fail
  go_loopw [14, 15] (fun bv iv wr => ∃ (i : Nat) (H : Ho), i ≤ N ∧ bv = .bool true ∧ iv = .int .i64 i ∧ Hid (HShape n ls H) ∧ HostAt 0 B0 wr H ∧ Below w.heap.size w wr) (fun _ iv _ => N - (intOf iv).toNat)
  case atStart => exact ⟨0, H0, by omega, rfl, rfl, HSH, HB, hbw⟩
  case round =>
    clear HSH HB hbw
    obtain ⟨i, H, hi, rfl, rfl, HSH, HBX, hbw⟩ := hrel
    by_cases hlt : i < N
    · obtain ⟨x, hx⟩ := get_lt (xs := os) (k := i) (by rw [HN.out]; exact hlt)
      obtain ⟨b, off, rfl, hbs, hcx⟩ := EncRow.elem (enc := Value.int .i64) HB0.out hx
      clear hx
      have cx := (hbw.cell (p := ⟨b, off + i, none⟩) hbs).trans hcx
      have hbs2 : b < wr.heap.size := by have := hbw.size; omega
      have i0 : (0 : Int) ≤ (i : Int) := by omega
      have iN : (i : Int) < (N : Int) := by omega
      have ACT := fun v w h => act_any v n ls H x w h HSH.out
      have HACT := Lib.hid ACT; clear ACT
      obtain ⟨of1, or1, om1, og1, kf1, kr1, km1, kg1, us1, gs1, D1, O1⟩ := HBX
      obtain ⟨n1, hln⟩ : ∃ n, (Pl.F (Ho.P H)).length = n := ⟨_, rfl⟩
      obtain ⟨r1, hlr⟩ : ∃ n, (Pl.R (Ho.P H)).length = n := ⟨_, rfl⟩
      obtain ⟨m1, hlm⟩ : ∃ n, (Pl.M (Ho.P H)).length = n := ⟨_, rfl⟩
      obtain ⟨q1, hlq⟩ : ∃ n, (Ho.G H).length = n := ⟨_, rfl⟩
      obtain ⟨t1, hlt1⟩ : ∃ n, Ho.t H = n := ⟨_, rfl⟩
      obtain ⟨d1, hld⟩ : ∃ n, Ho.d H = n := ⟨_, rfl⟩
      obtain ⟨s1, hls⟩ : ∃ n, Ho.n H = n := ⟨_, rfl⟩
      rw [hln, hlr, hlm, hlq] at O1 D1
      rw [hlt1, hld, hls] at D1
      have HG1 := Lib.hid (And.intro hln (And.intro hlr (And.intro hlm (And.intro hlq (And.intro hlt1 (And.intro hld hls))))))
      clear hln hlr hlm hlq hlt1 hld hls
      have HV1 : Hid (∀ w' : World, Below (wr).heap.size wr w' → HoAt w' (.agg #[.slice of1 n1 kf1, .slice or1 r1 kr1, .slice om1 m1 km1, .slice og1 q1 kg1, .int .i64 t1, .int .u64 d1, .int .i64 s1]) H) := Lib.hid (fun w' hb => by
        have := (O1.below hb).at_
        rwa [HG1.out.2.2.2.2.1, HG1.out.2.2.2.2.2.1, HG1.out.2.2.2.2.2.2] at this)
      go_wp2_with fail
      have D1k := D1
      obtain ⟨D1_c, D1_f, D1_z⟩ := D1.all
      have hbz := hbs2
      go_region_law (first
        | (go_simp; go_at_call 19
           with_reducible refine (HACT.out _ _ (HV1.out _ (Below.drew (Below.refl _ _)))).mono ?_
           rintro _ w16 ⟨H2, ga, pa, sa, hact, of16, or16, om16, og16, kf16, kr16, km16, kg16, us16, gs16, rfl, O16, hb16⟩
           obtain ⟨n16, hln⟩ : ∃ n, (Pl.F (Ho.P H2)).length = n := ⟨_, rfl⟩
           obtain ⟨r16, hlr⟩ : ∃ n, (Pl.R (Ho.P H2)).length = n := ⟨_, rfl⟩
           obtain ⟨m16, hlm⟩ : ∃ n, (Pl.M (Ho.P H2)).length = n := ⟨_, rfl⟩
           obtain ⟨q16, hlq⟩ : ∃ n, (Ho.G H2).length = n := ⟨_, rfl⟩
           obtain ⟨t16, hlt16⟩ : ∃ n, Ho.t H2 = n := ⟨_, rfl⟩
           obtain ⟨d16, hld⟩ : ∃ n, Ho.d H2 = n := ⟨_, rfl⟩
           obtain ⟨s16, hls⟩ : ∃ n, Ho.n H2 = n := ⟨_, rfl⟩
           rw [hln, hlr, hlm, hlq] at O16 ⊢
           rw [hlt16, hld, hls]
           have HG16 := Lib.hid (And.intro hln (And.intro hlr (And.intro hlm (And.intro hlq (And.intro hlt16 (And.intro hld hls))))))
           clear hln hlr hlm hlq hlt16 hld hls
           have HACK := Lib.hid (act_kept HSH.out hact).1
           clear hact
           have HB16 : Below wr.heap.size wr w16 := (Below.drew (Below.refl _ wr)).trans hb16
           have E0 := D1k.below HB16
           have O16z := O16.lower (base' := 0) (Nat.zero_le _)
           have hbw16 : Below w.heap.size w w16 := hbw.trans (HB16.mono hbw.size)
           have E0k := E0
           obtain ⟨E0_c, E0_f, E0_z⟩ := E0.all))
      all_goals
        go_wp2_with fail
        go_roundw
        case rel => exact ⟨i + 1, H2, by omega, rfl, by go_num, HACK, HostAt.fill HG16.out E0k O16z, Below.fill7 hbw16 (by omega) _ _ _ _ _ _ _⟩
        case measure => simp [intOf]; omega
    · obtain rfl : N = i := by omega
      clear hlt hi HN HB0 HA
      go_wp2_with fail
      with_reducible refine (HR1.out _).mono ?_
      rintro e w3 ⟨rfl, hbk⟩
      replace HBX := HBX.below hbk
      replace hbw := hbw.trans (hbk.mono hbw.size)
      clear hbk
      go_wp2_with fail
      with_reducible refine (HR2.out _).mono ?_
      rintro e w4 ⟨rfl, hbk⟩
      replace HBX := HBX.below hbk
      replace hbw := hbw.trans (hbk.mono hbw.size)
      clear hbk HR1 HR2
      obtain ⟨X, hX⟩ := get_lt (xs := H.G) (k := g) (by rw [HSH.out.g]; exact g3)
      have hat := (HSH.out.at_ g p).2 ⟨g3, p6⟩
      have hXl : X.s.length = 6 := (HSH.out.ok.gmP hX).ls.trans (HSH.out.pg g g3)
      obtain ⟨t, ht⟩ := get_lt (xs := X.s) (k := p) (by rw [hXl]; exact p6)
      have hsw := Ho.sw_eq hX ht
      obtain ⟨of1, or1, om1, og1, kf1, kr1, km1, kg1, us1, gs1, D1, O1⟩ := HBX
      obtain ⟨n1, hln⟩ : ∃ n, (Pl.F (Ho.P H)).length = n := ⟨_, rfl⟩
      obtain ⟨r1, hlr⟩ : ∃ n, (Pl.R (Ho.P H)).length = n := ⟨_, rfl⟩
      obtain ⟨m1, hlm⟩ : ∃ n, (Pl.M (Ho.P H)).length = n := ⟨_, rfl⟩
      obtain ⟨q1, hlq⟩ : ∃ n, (Ho.G H).length = n := ⟨_, rfl⟩
      obtain ⟨t1, hlt1⟩ : ∃ n, Ho.t H = n := ⟨_, rfl⟩
      obtain ⟨d1, hld⟩ : ∃ n, Ho.d H = n := ⟨_, rfl⟩
      obtain ⟨s1, hls⟩ : ∃ n, Ho.n H = n := ⟨_, rfl⟩
      rw [hln, hlr, hlm, hlq] at O1 D1
      rw [hlt1, hld, hls] at D1
      have HG1 := Lib.hid (And.intro hln (And.intro hlr (And.intro hlm (And.intro hlq (And.intro hlt1 (And.intro hld hls))))))
      clear hln hlr hlm hlq hlt1 hld hls
      have HV1 : Hid (∀ w' : World, Below (w4).heap.size w4 w' → HoAt w' (.agg #[.slice of1 n1 kf1, .slice or1 r1 kr1, .slice om1 m1 km1, .slice og1 q1 kg1, .int .i64 t1, .int .u64 d1, .int .i64 s1]) H) := Lib.hid (fun w' hb => by
        have := (O1.below hb).at_
        rwa [HG1.out.2.2.2.2.1, HG1.out.2.2.2.2.2.1, HG1.out.2.2.2.2.2.2] at this)
      have hq3 : q1 = 3 := by rw [← HG1.out.2.2.2.1]; exact HSH.out.g
      rw [hq3] at D1 O1 HV1 HG1
      clear hq3
      have OR := O1.row
      rw [← HG1.out.2.2.2.1] at OR
      obtain ⟨gb, goff, so, sc, uo, uc, eo, ec, rfl, hgb, s1, s2, u1, u2, e3, e4, cs, hS, hU, hE⟩ := OR.guest hX
      have c5 : w4.cell? ⟨gb, goff + g * 9 + 5, none⟩ = _ := cs 5 _ rfl
      dsimp only at c5
      rw [hXl] at c5 hS s1
      obtain ⟨tb, toff, rfl, htb, ct⟩ := hS.elem ht
      have hii := isEmpty_iff t
      obtain ⟨eb, heb⟩ : ∃ b, decide (t.size = 0) = b := ⟨_, rfl⟩
      rw [heb] at hii
      have HQT : Hid (eb = true → ∀ H', ReadTo H g p H' → (∀ a, H'.P.chargeN a = H.P.chargeN a) ∧ ∀ (a : Nat) (g : Gm), H.G[a]? = some g → ∃ g', H'.G[a]? = some g' ∧ g'.swapped = g.swapped ∧ g'.h = g.h) := Lib.hid (fun he H' hr => read_alone hr (by rw [hsw]; rw [he] at heb; exact of_decide_eq_true heb))
      have g0 : (0 : Int) ≤ (g : Int) := by omega
      have g4 : (g : Int) < 3 := by omega
      have p0 : (0 : Int) ≤ (p : Int) := by omega
      have p7 : (p : Int) < 6 := by omega
      have RD := fun v w h => hread_ok v H g p w h HSH.out.ok hat
      have HRD := Lib.hid RD; clear RD
      have HAT := Lib.hid hat
      have hz := HSH.out.ok.textz hat
      have RT : ∀ H2, ReadTo H g p H2 → HShape n ls H2 ∧ H2.P.text g p = H.text g p := fun H2 h => ⟨HSH.out.kept (read_keeps HSH.out.ok hat h).1, (read_keeps HSH.out.ok hat h).2.2⟩
      have PB := fun H1 H2 H3 => put_back (H1 := H1) (H2 := H2) (H3 := H3) HSH.out.ok hat
      obtain ⟨tt, htt⟩ : ∃ t, H.text g p = t := ⟨_, rfl⟩
      rw [htt] at hz RT PB
      have HRT := Lib.hid RT; clear RT
      have HPB := Lib.hid PB; clear PB
      have HZT := Lib.hid hz; clear hz
      clear htt hat hX hXl ht hsw cs hS hU hE heb s1 s2 u1 u2 e3 e4 OR
      obtain ⟨D1_c, D1_f, D1_z⟩ := D1.all
      go_upto_region 12 with (fail)
      go_wp2_with fail
      clear D1_c D1_f D1_z
      with_reducible refine (HRD.out _ _ (HV1.out _ (Below.refl _ _))).mono ?_
      rintro e w16 ⟨H2, hrd, of16, or16, om16, og16, kf16, kr16, km16, kg16, us16, gs16, rfl, O16, hb16⟩
      have hrt := HRT.out H2 hrd
      rw [hrt.2]
      have HS2 := Lib.hid hrt.1
      have hqt := HQT.out
      have HQ2 : Hid (eb = true → (∀ a, H2.P.chargeN a = H.P.chargeN a) ∧ ∀ (a : Nat) (g : Gm), H.G[a]? = some g → ∃ g', H2.G[a]? = some g' ∧ g'.swapped = g.swapped ∧ g'.h = g.h) := Lib.hid (fun he => HQT.out he H2 hrd)
      have HR2 := Lib.hid hrd
      clear hrt hqt HQT HRT hrd HRD c5 ct htb hgb hii
      obtain ⟨n16, hln⟩ : ∃ n, (Pl.F (Ho.P H2)).length = n := ⟨_, rfl⟩
      obtain ⟨r16, hlr⟩ : ∃ n, (Pl.R (Ho.P H2)).length = n := ⟨_, rfl⟩
      obtain ⟨m16, hlm⟩ : ∃ n, (Pl.M (Ho.P H2)).length = n := ⟨_, rfl⟩
      obtain ⟨q16, hlq⟩ : ∃ n, (Ho.G H2).length = n := ⟨_, rfl⟩
      obtain ⟨t16, hlt16⟩ : ∃ n, Ho.t H2 = n := ⟨_, rfl⟩
      obtain ⟨d16, hld⟩ : ∃ n, Ho.d H2 = n := ⟨_, rfl⟩
      obtain ⟨s16, hls⟩ : ∃ n, Ho.n H2 = n := ⟨_, rfl⟩
      rw [hln, hlr, hlm, hlq] at O16 ⊢
      rw [hlt16, hld, hls]
      have HG16 := Lib.hid (And.intro hln (And.intro hlr (And.intro hlm (And.intro hlq (And.intro hlt16 (And.intro hld hls))))))
      clear hln hlr hlm hlq hlt16 hld hls
      replace D1 := D1.below hb16
      have O1x := O1.below hb16
      have HV1x := HV1
      replace hbw := hbw.trans (hb16.mono hbw.size)
      have O16z := O16.lower (base' := 0) (Nat.zero_le _)
      clear HV1 O1 O16 hb16 HV1x
      go_upto_region 13 with (fail)
      have D3 := HasBlock.made w16 #[.slice of16 n16 kf16, .slice or16 r16 kr16, .slice om16 m16 km16, .slice og16 q16 kg16, .int .i64 t16, .int .u64 d16, .int .i64 s16] 31
      have lB0 := D1.lt
      have hax : Below w16.heap.size w16 (w16.alloc (.cells #[.slice of16 n16 kf16, .slice or16 r16 kr16, .slice om16 m16 km16, .slice og16 q16 kg16, .int .i64 t16, .int .u64 d16, .int .i64 s16] 31)) := (Below.refl _ _).alloc (Nat.le_refl _) _
      replace D1 := D1.below hax
      replace O16z := O16z.below hax
      replace O1x := O1x.below hax
      replace hbw := hbw.trans (hax.mono hbw.size)
      clear hax
      generalize hW : w16.alloc (.cells #[.slice of16 n16 kf16, .slice or16 r16 kr16, .slice om16 m16 km16, .slice og16 q16 kg16, .int .i64 t16, .int .u64 d16, .int .i64 s16] 31) = w17 at D1 D3 O1x O16z hbw ⊢
      obtain ⟨B, hB⟩ : ∃ B, w16.heap.size = B := ⟨_, rfl⟩
      rw [hB] at D3 lB0 ⊢
      clear hB hW
      have HBa : HostAt 0 B0 w17 H := HostAt.mk HG1.out.1 HG1.out.2.1 HG1.out.2.2.1 HG1.out.2.2.2.1 HG1.out.2.2.2.2.1 HG1.out.2.2.2.2.2.1 HG1.out.2.2.2.2.2.2 D1 O1x
      have HBc : HostAt 0 B w17 H2 := HostAt.mk HG16.out.1 HG16.out.2.1 HG16.out.2.2.1 HG16.out.2.2.2.1 HG16.out.2.2.2.2.1 HG16.out.2.2.2.2.2.1 HG16.out.2.2.2.2.2.2 D3 O16z
      have hts := HZT.out
      clear D1 O1x D3 O16z HG1 HG16
      obtain ⟨sb, hsb⟩ : ∃ b, (!eb) = b := ⟨_, rfl⟩
      have HQ3 : Hid (sb = false → (∀ a, H2.P.chargeN a = H.P.chargeN a) ∧ ∀ (a : Nat) (g : Gm), H.G[a]? = some g → ∃ g', H2.G[a]? = some g' ∧ g'.swapped = g.swapped ∧ g'.h = g.h) := Lib.hid (fun he => HQ2.out (by
        rw [he] at hsb
        cases eb
        · cases hsb
        · rfl))
      rw [hsb]
      clear HQ2 hsb
      go_wp2_with fail
      go_loopw [22] (fun kv wr => ∃ k : Nat, k ≤ 3 ∧ (sb = true → k = 0) ∧ kv = .int .i64 k ∧ Below w17.heap.size w17 wr) (fun kv _ => 3 - (intOf kv).toNat)
      case atStart => exact ⟨0, by omega, fun _ => rfl, rfl, Below.refl _ _⟩
      case round =>
        obtain ⟨k, hk, hk0, rfl, hbs⟩ := hrel
        cases sb
        · by_cases hkt : k < 3
          · have HBx := HBa.below hbs
            have HBy := HBc.below hbs
            obtain ⟨X, hX⟩ := get_lt (xs := H.G) (k := k) (by rw [HSH.out.g]; exact hkt)
            obtain ⟨hch, hgs⟩ := HQ3.out rfl
            obtain ⟨Y, hY, hsy, hhy⟩ := hgs k X hX
            have RA := fun v w h => hres_ok v H k w h HSH.out.ok (by rw [HSH.out.g]; exact hkt)
            have RB := fun v w h => hres_ok v H2 k w h HS2.out.ok (by rw [HS2.out.g]; exact hkt)
            have SA := fun v w h => hswap_ok v H k X w h HSH.out.ok hX
            have SB := fun v w h => hswap_ok v H2 k Y w h HS2.out.ok hY
            rw [hch] at RB
            rw [hsy] at SB
            obtain ⟨ch, hch'⟩ : ∃ c, H.P.chargeN k = c := ⟨_, rfl⟩
            rw [hch'] at RA RB
            obtain ⟨sn, hsn⟩ : ∃ c, X.swapped = c := ⟨_, rfl⟩
            rw [hsn] at SA SB
            have HRA := Lib.hid RA; clear RA
            have HRB := Lib.hid RB; clear RB
            have HSA := Lib.hid SA; clear SA
            have HSB := Lib.hid SB; clear SB
            clear hch hgs hsy hch' hsn
            obtain ⟨of1, or1, om1, og1, kf1, kr1, km1, kg1, us1, gs1, D1, O1⟩ := HBx
            obtain ⟨n1, hln⟩ : ∃ n, (Pl.F (Ho.P H)).length = n := ⟨_, rfl⟩
            obtain ⟨r1, hlr⟩ : ∃ n, (Pl.R (Ho.P H)).length = n := ⟨_, rfl⟩
            obtain ⟨m1, hlm⟩ : ∃ n, (Pl.M (Ho.P H)).length = n := ⟨_, rfl⟩
            obtain ⟨q1, hlq⟩ : ∃ n, (Ho.G H).length = n := ⟨_, rfl⟩
            obtain ⟨t1, hlt1⟩ : ∃ n, Ho.t H = n := ⟨_, rfl⟩
            obtain ⟨d1, hld⟩ : ∃ n, Ho.d H = n := ⟨_, rfl⟩
            obtain ⟨s1, hls⟩ : ∃ n, Ho.n H = n := ⟨_, rfl⟩
            rw [hln, hlr, hlm, hlq] at O1 D1
            rw [hlt1, hld, hls] at D1
            have HG1 := Lib.hid (And.intro hln (And.intro hlr (And.intro hlm (And.intro hlq (And.intro hlt1 (And.intro hld hls))))))
            clear hln hlr hlm hlq hlt1 hld hls
            have HV1 : Hid (∀ w' : World, Below (wr).heap.size wr w' → HoAt w' (.agg #[.slice of1 n1 kf1, .slice or1 r1 kr1, .slice om1 m1 km1, .slice og1 q1 kg1, .int .i64 t1, .int .u64 d1, .int .i64 s1]) H) := Lib.hid (fun w' hb => by
              have := (O1.below hb).at_
              rwa [HG1.out.2.2.2.2.1, HG1.out.2.2.2.2.2.1, HG1.out.2.2.2.2.2.2] at this)
            have hq3 : q1 = 3 := by rw [← HG1.out.2.2.2.1]; exact HSH.out.g
            rw [hq3] at D1 O1 HV1 HG1
            clear hq3
            obtain ⟨of3, or3, om3, og3, kf3, kr3, km3, kg3, us3, gs3, D3, O3⟩ := HBy
            obtain ⟨n3, hln⟩ : ∃ n, (Pl.F (Ho.P H2)).length = n := ⟨_, rfl⟩
            obtain ⟨r3, hlr⟩ : ∃ n, (Pl.R (Ho.P H2)).length = n := ⟨_, rfl⟩
            obtain ⟨m3, hlm⟩ : ∃ n, (Pl.M (Ho.P H2)).length = n := ⟨_, rfl⟩
            obtain ⟨q3, hlq⟩ : ∃ n, (Ho.G H2).length = n := ⟨_, rfl⟩
            obtain ⟨t3, hlt3⟩ : ∃ n, Ho.t H2 = n := ⟨_, rfl⟩
            obtain ⟨d3, hld⟩ : ∃ n, Ho.d H2 = n := ⟨_, rfl⟩
            obtain ⟨s3, hls⟩ : ∃ n, Ho.n H2 = n := ⟨_, rfl⟩
            rw [hln, hlr, hlm, hlq] at O3 D3
            rw [hlt3, hld, hls] at D3
            have HG3 := Lib.hid (And.intro hln (And.intro hlr (And.intro hlm (And.intro hlq (And.intro hlt3 (And.intro hld hls))))))
            clear hln hlr hlm hlq hlt3 hld hls
            have HV3 : Hid (∀ w' : World, Below (wr).heap.size wr w' → HoAt w' (.agg #[.slice of3 n3 kf3, .slice or3 r3 kr3, .slice om3 m3 km3, .slice og3 q3 kg3, .int .i64 t3, .int .u64 d3, .int .i64 s3]) H2) := Lib.hid (fun w' hb => by
              have := (O3.below hb).at_
              rwa [HG3.out.2.2.2.2.1, HG3.out.2.2.2.2.2.1, HG3.out.2.2.2.2.2.2] at this)
            have hq3' : q3 = 3 := by rw [← HG3.out.2.2.2.1]; exact HS2.out.g
            rw [hq3'] at D3 O3 HV3 HG3
            clear hq3'
            have OR := O1.row
            rw [← HG1.out.2.2.2.1] at OR
            obtain ⟨gb, goff, so, sc, uo, uc, eo, ec, rfl, hgb, -, -, -, -, -, -, cs, -, -, -⟩ := OR.guest hX
            have c7 : wr.cell? ⟨gb, goff + k * 9 + 7, none⟩ = _ := cs 7 _ rfl
            (try dsimp only at c7)
            clear OR cs
            have OR := O3.row
            rw [← HG3.out.2.2.2.1] at OR
            obtain ⟨gb', goff', so', sc', uo', uc', eo', ec', rfl, hgb', -, -, -, -, -, -, cs, -, -, -⟩ := OR.guest hY
            have c7' : wr.cell? ⟨gb', goff' + k * 9 + 7, none⟩ = _ := cs 7 _ rfl
            (try dsimp only at c7')
            rw [hhy] at c7'
            clear OR cs hY hhy
            obtain ⟨hd, hhd⟩ : ∃ h, X.h = h := ⟨_, rfl⟩
            rw [hhd] at c7 c7'
            clear hhd hX
            have k0 : (0 : Int) ≤ (k : Int) := by omega
            have k3 : (k : Int) < 3 := by omega
            have ech : ((ch : Int) != (ch : Int)) = false := by simp
            have esn : ((sn : Int) != (sn : Int)) = false := by simp
            have ehd : (hd != hd) = false := by simp
            obtain ⟨D1_c, D1_f, D1_z⟩ := D1.all
            obtain ⟨D3_c, D3_f, D3_z⟩ := D3.all
            go_wp2_with fail
            refine wp_region_quiet_below (by kernel_rfl) (by kernel_rfl) ?_
            repeat (go_big_quiet_step (first | fail | (first | (go_at_call 18; first | with_reducible exact quiet_ret (HRA.out _ _ (HV1.out _ (below_regrown _ _ _))) | with_reducible exact quiet_ret (HRB.out _ _ (HV3.out _ (below_regrown _ _ _)))) | (go_at_call 17; first | with_reducible exact quiet_ret (HSA.out _ _ (HV1.out _ (below_regrown _ _ _))) | with_reducible exact quiet_ret (HSB.out _ _ (HV3.out _ (below_regrown _ _ _)))))))
            refine wpQuiet_nil ?_
            intro w5 hw5
            have hb5 := below_of_regrown hw5
            clear hw5
            obtain ⟨hc5, hf5⟩ := bcell hb5
            have hz5 := bsize hb5
            try simp only [sizes1] at hz5
            try simp only [sizes] at hc5 hf5
            go_wp2_with fail
            go_roundw
            case rel => exact ⟨k + 1, by omega, (fun h => by cases h), by go_num, hbs.trans (hb5.mono hbs.size)⟩
            case measure => simp [intOf]; omega
          · obtain rfl : k = 3 := by omega
            have HBy := HBc.below hbs
            replace hbw := hbw.trans (hbs.mono hbw.size)
            clear HBa HBc HQ3 hbs
            have hat2 := (HS2.out.at_ g p).2 ⟨g3, p6⟩
            have WR := fun v w h => hwrite_ok v H2 g p tt w h HS2.out.ok hat2 hts
            have HWR := Lib.hid WR; clear WR hat2
            obtain ⟨of3, or3, om3, og3, kf3, kr3, km3, kg3, us3, gs3, D3, O3⟩ := HBy
            obtain ⟨n3, hln⟩ : ∃ n, (Pl.F (Ho.P H2)).length = n := ⟨_, rfl⟩
            obtain ⟨r3, hlr⟩ : ∃ n, (Pl.R (Ho.P H2)).length = n := ⟨_, rfl⟩
            obtain ⟨m3, hlm⟩ : ∃ n, (Pl.M (Ho.P H2)).length = n := ⟨_, rfl⟩
            obtain ⟨q3, hlq⟩ : ∃ n, (Ho.G H2).length = n := ⟨_, rfl⟩
            obtain ⟨t3, hlt3⟩ : ∃ n, Ho.t H2 = n := ⟨_, rfl⟩
            obtain ⟨d3, hld⟩ : ∃ n, Ho.d H2 = n := ⟨_, rfl⟩
            obtain ⟨s3, hls⟩ : ∃ n, Ho.n H2 = n := ⟨_, rfl⟩
            rw [hln, hlr, hlm, hlq] at O3 D3
            rw [hlt3, hld, hls] at D3
            have HG3 := Lib.hid (And.intro hln (And.intro hlr (And.intro hlm (And.intro hlq (And.intro hlt3 (And.intro hld hls))))))
            clear hln hlr hlm hlq hlt3 hld hls
            have HV3 : Hid (∀ w' : World, Below (wr).heap.size wr w' → HoAt w' (.agg #[.slice of3 n3 kf3, .slice or3 r3 kr3, .slice om3 m3 km3, .slice og3 q3 kg3, .int .i64 t3, .int .u64 d3, .int .i64 s3]) H2) := Lib.hid (fun w' hb => by
              have := (O3.below hb).at_
              rwa [HG3.out.2.2.2.2.1, HG3.out.2.2.2.2.2.1, HG3.out.2.2.2.2.2.2] at this)
            obtain ⟨D3_c, D3_f, D3_z⟩ := D3.all
            go_upto_region 20 with (fail)
            go_wp2_with fail
            clear D3_c D3_f D3_z
            with_reducible refine (HWR.out _ _ (HV3.out _ (Below.refl _ _))).mono ?_
            rintro e w18 ⟨H3, hwt, of18, or18, om18, og18, kf18, kr18, km18, kg18, us18, gs18, rfl, O18, hb18⟩
            obtain ⟨n18, hln⟩ : ∃ n, (Pl.F (Ho.P H3)).length = n := ⟨_, rfl⟩
            obtain ⟨r18, hlr⟩ : ∃ n, (Pl.R (Ho.P H3)).length = n := ⟨_, rfl⟩
            obtain ⟨m18, hlm⟩ : ∃ n, (Pl.M (Ho.P H3)).length = n := ⟨_, rfl⟩
            obtain ⟨q18, hlq⟩ : ∃ n, (Ho.G H3).length = n := ⟨_, rfl⟩
            obtain ⟨t18, hlt18⟩ : ∃ n, Ho.t H3 = n := ⟨_, rfl⟩
            obtain ⟨d18, hld⟩ : ∃ n, Ho.d H3 = n := ⟨_, rfl⟩
            obtain ⟨s18, hls⟩ : ∃ n, Ho.n H3 = n := ⟨_, rfl⟩
            rw [hln, hlr, hlm, hlq] at O18 ⊢
            rw [hlt18, hld, hls]
            have HG18 := Lib.hid (And.intro hln (And.intro hlr (And.intro hlm (And.intro hlq (And.intro hlt18 (And.intro hld hls))))))
            clear hln hlr hlm hlq hlt18 hld hls
            have hat2 := (HS2.out.at_ g p).2 ⟨g3, p6⟩
            have W3 := write_keeps HS2.out.ok hat2 hts hwt
            have HS3 := Lib.hid (HS2.out.kept W3.k)
            have HPC : Hid (∀ H4, ReadTo H3 g p H4 → H4.P.text g p = tt ∧ (tt = zeros128 ∨ 0 ≤ H3.P.fr g p)) := Lib.hid (fun H4 h4 => HPB.out H2 H3 H4 HR2.out hwt h4)
            replace hbw := hbw.trans (hb18.mono hbw.size)
            replace O18 := O18.lower (base' := 0) (Nat.zero_le _)
            clear hwt hat2 W3 HWR HV3 O3 D3 HG3 hb18 HPB HR2
            go_upto_region 21 with (fail)
            have D18 := HasBlock.made w18 #[.slice of18 n18 kf18, .slice or18 r18 kr18, .slice om18 m18 km18, .slice og18 q18 kg18, .int .i64 t18, .int .u64 d18, .int .i64 s18] 31
            have hax : Below w18.heap.size w18 (w18.alloc (.cells #[.slice of18 n18 kf18, .slice or18 r18 kr18, .slice om18 m18 km18, .slice og18 q18 kg18, .int .i64 t18, .int .u64 d18, .int .i64 s18] 31)) := (Below.refl _ _).alloc (Nat.le_refl _) _
            replace O18 := O18.below hax
            skip
            replace hbw := hbw.trans (hax.mono hbw.size)
            clear hax
            generalize hW : w18.alloc (.cells #[.slice of18 n18 kf18, .slice or18 r18 kr18, .slice om18 m18 km18, .slice og18 q18 kg18, .int .i64 t18, .int .u64 d18, .int .i64 s18] 31) = w19 at *
            obtain ⟨B5, hB⟩ : ∃ B, w18.heap.size = B := ⟨_, rfl⟩
            rw [hB] at D18 ⊢
            clear hB hW
            have hat3 := (HS3.out.at_ g p).2 ⟨g3, p6⟩
            have RD := fun v w h => hread_ok v H3 g p w h HS3.out.ok hat3
            have HRD := Lib.hid RD; clear RD
            have HB5 : HostAt 0 B5 w19 H3 := HostAt.mk HG18.out.1 HG18.out.2.1 HG18.out.2.2.1 HG18.out.2.2.2.1 HG18.out.2.2.2.2.1 HG18.out.2.2.2.2.2.1 HG18.out.2.2.2.2.2.2 D18 O18
            clear D18 O18 HG18
            obtain ⟨of5, or5, om5, og5, kf5, kr5, km5, kg5, us5, gs5, D5, O5⟩ := HB5
            obtain ⟨n5, hln⟩ : ∃ n, (Pl.F (Ho.P H3)).length = n := ⟨_, rfl⟩
            obtain ⟨r5, hlr⟩ : ∃ n, (Pl.R (Ho.P H3)).length = n := ⟨_, rfl⟩
            obtain ⟨m5, hlm⟩ : ∃ n, (Pl.M (Ho.P H3)).length = n := ⟨_, rfl⟩
            obtain ⟨q5, hlq⟩ : ∃ n, (Ho.G H3).length = n := ⟨_, rfl⟩
            obtain ⟨t5, hlt5⟩ : ∃ n, Ho.t H3 = n := ⟨_, rfl⟩
            obtain ⟨d5, hld⟩ : ∃ n, Ho.d H3 = n := ⟨_, rfl⟩
            obtain ⟨s5, hls⟩ : ∃ n, Ho.n H3 = n := ⟨_, rfl⟩
            rw [hln, hlr, hlm, hlq] at O5 D5
            rw [hlt5, hld, hls] at D5
            have HG5 := Lib.hid (And.intro hln (And.intro hlr (And.intro hlm (And.intro hlq (And.intro hlt5 (And.intro hld hls))))))
            clear hln hlr hlm hlq hlt5 hld hls
            have HV5 : Hid (∀ w' : World, Below (w19).heap.size w19 w' → HoAt w' (.agg #[.slice of5 n5 kf5, .slice or5 r5 kr5, .slice om5 m5 km5, .slice og5 q5 kg5, .int .i64 t5, .int .u64 d5, .int .i64 s5]) H3) := Lib.hid (fun w' hb => by
              have := (O5.below hb).at_
              rwa [HG5.out.2.2.2.2.1, HG5.out.2.2.2.2.2.1, HG5.out.2.2.2.2.2.2] at this)
            obtain ⟨D5_c, D5_f, D5_z⟩ := D5.all
            go_wp2_with fail
            clear D5_c D5_f D5_z
            with_reducible refine (HRD.out _ _ (HV5.out _ (Below.refl _ _))).mono ?_
            rintro e w20 ⟨H4, hrd, of20, or20, om20, og20, kf20, kr20, km20, kg20, us20, gs20, rfl, O20, hb20⟩
            obtain ⟨e1, e2⟩ := HPC.out H4 hrd
            rw [e1]
            obtain ⟨n20, hln⟩ : ∃ n, (Pl.F (Ho.P H4)).length = n := ⟨_, rfl⟩
            obtain ⟨r20, hlr⟩ : ∃ n, (Pl.R (Ho.P H4)).length = n := ⟨_, rfl⟩
            obtain ⟨m20, hlm⟩ : ∃ n, (Pl.M (Ho.P H4)).length = n := ⟨_, rfl⟩
            obtain ⟨q20, hlq⟩ : ∃ n, (Ho.G H4).length = n := ⟨_, rfl⟩
            obtain ⟨t20, hlt20⟩ : ∃ n, Ho.t H4 = n := ⟨_, rfl⟩
            obtain ⟨d20, hld⟩ : ∃ n, Ho.d H4 = n := ⟨_, rfl⟩
            obtain ⟨s20, hls⟩ : ∃ n, Ho.n H4 = n := ⟨_, rfl⟩
            rw [hln, hlr, hlm, hlq] at O20 ⊢
            rw [hlt20, hld, hls]
            have HG20 := Lib.hid (And.intro hln (And.intro hlr (And.intro hlm (And.intro hlq (And.intro hlt20 (And.intro hld hls))))))
            clear hln hlr hlm hlq hlt20 hld hls
            have HE2 := Lib.hid e2
            clear e1 e2 hrd HRD HV5 HPC HG20
            replace D5 := D5.below hb20
            replace O5 := O5.below hb20
            replace hbw := hbw.trans (hb20.mono hbw.size)
            clear hb20
            go_upto_region 22 with (fail)
            have D20 := HasBlock.made w20 #[.slice of20 n20 kf20, .slice or20 r20 kr20, .slice om20 m20 km20, .slice og20 q20 kg20, .int .i64 t20, .int .u64 d20, .int .i64 s20] 31
            have hax : Below w20.heap.size w20 (w20.alloc (.cells #[.slice of20 n20 kf20, .slice or20 r20 kr20, .slice om20 m20 km20, .slice og20 q20 kg20, .int .i64 t20, .int .u64 d20, .int .i64 s20] 31)) := (Below.refl _ _).alloc (Nat.le_refl _) _
            replace O20 := O20.below hax
            (replace D5 := D5.below hax; replace O5 := O5.below hax)
            replace hbw := hbw.trans (hax.mono hbw.size)
            clear hax
            generalize hW : w20.alloc (.cells #[.slice of20 n20 kf20, .slice or20 r20 kr20, .slice om20 m20 km20, .slice og20 q20 kg20, .int .i64 t20, .int .u64 d20, .int .i64 s20] 31) = w21 at *
            obtain ⟨B6, hB⟩ : ∃ B, w20.heap.size = B := ⟨_, rfl⟩
            rw [hB] at D20 ⊢
            clear hB hW
            clear D20 O20
            obtain ⟨zz, hzz⟩ : ∃ z, zeros128 = z := ⟨_, rfl⟩
            have PZ : ∀ w, Calls Try.prog 14 #[.int .i64 0] w (Ret w (.string zeros128)) := fun w => by
              have h := page_any 0 w (by omega)
              rwa [pageS_zero] at h
            rw [hzz] at PZ HE2
            have HPZ := Lib.hid PZ; clear PZ hzz
            go_wp2_with fail
            with_reducible refine (HPZ.out _).mono ?_
            rintro e w22 ⟨rfl, hbk⟩
            replace D5 := D5.below hbk
            replace O5 := O5.below hbk
            replace hbw := hbw.trans (hbk.mono hbw.size)
            clear hbk HPZ
            have eZ : (tt.toList == zz.toList) = decide (tt = zz) := bytes_eq tt zz
            obtain ⟨l, f, hl, hf⟩ := hat3
            have hfr := Pl.fr_eq hl hf
            have hm5 : m5 = 3 := by rw [← HG5.out.2.2.1, ← HS3.out.ok.m]; exact HS3.out.g
            have hl6 : l.length = 6 := by have := HS3.out.pg g g3; rwa [Pl.pages_eq hl] at this
            rw [hm5] at D5 O5
            obtain ⟨mb, km', fb, lc, e0, hus, cm0, cf0, _, _, hmb, _, hfb, _⟩ := O5.p.page hl hf
            injection e0 with e0 e9 e10
            subst e0 e10
            clear e9
            rw [hl6] at cm0
            by_cases hzero : tt = zz
            · rw [decide_eq_true hzero] at eZ
              clear HE2 hzero
              obtain ⟨D5_c, D5_f, D5_z⟩ := D5.all
              go_wp2_with fail
              with_reducible refine (awake_any _).mono ?_
              rintro e wz ⟨rfl, hbz⟩
              replace hbw := hbw.trans (hbz.mono hbw.size)
              go_wp2_with fail
              go_ret
              exact Ret.mk hbw
            · rw [decide_eq_false hzero] at eZ
              have hf0 : 0 ≤ f := by rw [← hfr]; exact HE2.out.resolve_left hzero
              clear HE2 hzero hfr
              obtain ⟨D5_c, D5_f, D5_z⟩ := D5.all
              go_wp2_with fail
              with_reducible refine (awake_any _).mono ?_
              rintro e wz ⟨rfl, hbz⟩
              replace hbw := hbw.trans (hbz.mono hbw.size)
              go_wp2_with fail
              go_ret
              exact Ret.mk hbw
        · obtain rfl := hk0 rfl
          have HBy := HBc.below hbs
          replace hbw := hbw.trans (hbs.mono hbw.size)
          clear HBa HBc HQ3 hbs
          have hat2 := (HS2.out.at_ g p).2 ⟨g3, p6⟩
          have WR := fun v w h => hwrite_ok v H2 g p tt w h HS2.out.ok hat2 hts
          have HWR := Lib.hid WR; clear WR hat2
          obtain ⟨of3, or3, om3, og3, kf3, kr3, km3, kg3, us3, gs3, D3, O3⟩ := HBy
          obtain ⟨n3, hln⟩ : ∃ n, (Pl.F (Ho.P H2)).length = n := ⟨_, rfl⟩
          obtain ⟨r3, hlr⟩ : ∃ n, (Pl.R (Ho.P H2)).length = n := ⟨_, rfl⟩
          obtain ⟨m3, hlm⟩ : ∃ n, (Pl.M (Ho.P H2)).length = n := ⟨_, rfl⟩
          obtain ⟨q3, hlq⟩ : ∃ n, (Ho.G H2).length = n := ⟨_, rfl⟩
          obtain ⟨t3, hlt3⟩ : ∃ n, Ho.t H2 = n := ⟨_, rfl⟩
          obtain ⟨d3, hld⟩ : ∃ n, Ho.d H2 = n := ⟨_, rfl⟩
          obtain ⟨s3, hls⟩ : ∃ n, Ho.n H2 = n := ⟨_, rfl⟩
          rw [hln, hlr, hlm, hlq] at O3 D3
          rw [hlt3, hld, hls] at D3
          have HG3 := Lib.hid (And.intro hln (And.intro hlr (And.intro hlm (And.intro hlq (And.intro hlt3 (And.intro hld hls))))))
          clear hln hlr hlm hlq hlt3 hld hls
          have HV3 : Hid (∀ w' : World, Below (wr).heap.size wr w' → HoAt w' (.agg #[.slice of3 n3 kf3, .slice or3 r3 kr3, .slice om3 m3 km3, .slice og3 q3 kg3, .int .i64 t3, .int .u64 d3, .int .i64 s3]) H2) := Lib.hid (fun w' hb => by
            have := (O3.below hb).at_
            rwa [HG3.out.2.2.2.2.1, HG3.out.2.2.2.2.2.1, HG3.out.2.2.2.2.2.2] at this)
          obtain ⟨D3_c, D3_f, D3_z⟩ := D3.all
          go_upto_region 20 with (fail)
          go_wp2_with fail
          clear D3_c D3_f D3_z
          with_reducible refine (HWR.out _ _ (HV3.out _ (Below.refl _ _))).mono ?_
          rintro e w18 ⟨H3, hwt, of18, or18, om18, og18, kf18, kr18, km18, kg18, us18, gs18, rfl, O18, hb18⟩
          obtain ⟨n18, hln⟩ : ∃ n, (Pl.F (Ho.P H3)).length = n := ⟨_, rfl⟩
          obtain ⟨r18, hlr⟩ : ∃ n, (Pl.R (Ho.P H3)).length = n := ⟨_, rfl⟩
          obtain ⟨m18, hlm⟩ : ∃ n, (Pl.M (Ho.P H3)).length = n := ⟨_, rfl⟩
          obtain ⟨q18, hlq⟩ : ∃ n, (Ho.G H3).length = n := ⟨_, rfl⟩
          obtain ⟨t18, hlt18⟩ : ∃ n, Ho.t H3 = n := ⟨_, rfl⟩
          obtain ⟨d18, hld⟩ : ∃ n, Ho.d H3 = n := ⟨_, rfl⟩
          obtain ⟨s18, hls⟩ : ∃ n, Ho.n H3 = n := ⟨_, rfl⟩
          rw [hln, hlr, hlm, hlq] at O18 ⊢
          rw [hlt18, hld, hls]
          have HG18 := Lib.hid (And.intro hln (And.intro hlr (And.intro hlm (And.intro hlq (And.intro hlt18 (And.intro hld hls))))))
          clear hln hlr hlm hlq hlt18 hld hls
          have hat2 := (HS2.out.at_ g p).2 ⟨g3, p6⟩
          have W3 := write_keeps HS2.out.ok hat2 hts hwt
          have HS3 := Lib.hid (HS2.out.kept W3.k)
          have HPC : Hid (∀ H4, ReadTo H3 g p H4 → H4.P.text g p = tt ∧ (tt = zeros128 ∨ 0 ≤ H3.P.fr g p)) := Lib.hid (fun H4 h4 => HPB.out H2 H3 H4 HR2.out hwt h4)
          replace hbw := hbw.trans (hb18.mono hbw.size)
          replace O18 := O18.lower (base' := 0) (Nat.zero_le _)
          clear hwt hat2 W3 HWR HV3 O3 D3 HG3 hb18 HPB HR2
          go_upto_region 21 with (fail)
          have D18 := HasBlock.made w18 #[.slice of18 n18 kf18, .slice or18 r18 kr18, .slice om18 m18 km18, .slice og18 q18 kg18, .int .i64 t18, .int .u64 d18, .int .i64 s18] 31
          have hax : Below w18.heap.size w18 (w18.alloc (.cells #[.slice of18 n18 kf18, .slice or18 r18 kr18, .slice om18 m18 km18, .slice og18 q18 kg18, .int .i64 t18, .int .u64 d18, .int .i64 s18] 31)) := (Below.refl _ _).alloc (Nat.le_refl _) _
          replace O18 := O18.below hax
          skip
          replace hbw := hbw.trans (hax.mono hbw.size)
          clear hax
          generalize hW : w18.alloc (.cells #[.slice of18 n18 kf18, .slice or18 r18 kr18, .slice om18 m18 km18, .slice og18 q18 kg18, .int .i64 t18, .int .u64 d18, .int .i64 s18] 31) = w19 at *
          obtain ⟨B5, hB⟩ : ∃ B, w18.heap.size = B := ⟨_, rfl⟩
          rw [hB] at D18 ⊢
          clear hB hW
          have hat3 := (HS3.out.at_ g p).2 ⟨g3, p6⟩
          have RD := fun v w h => hread_ok v H3 g p w h HS3.out.ok hat3
          have HRD := Lib.hid RD; clear RD
          have HB5 : HostAt 0 B5 w19 H3 := HostAt.mk HG18.out.1 HG18.out.2.1 HG18.out.2.2.1 HG18.out.2.2.2.1 HG18.out.2.2.2.2.1 HG18.out.2.2.2.2.2.1 HG18.out.2.2.2.2.2.2 D18 O18
          clear D18 O18 HG18
          obtain ⟨of5, or5, om5, og5, kf5, kr5, km5, kg5, us5, gs5, D5, O5⟩ := HB5
          obtain ⟨n5, hln⟩ : ∃ n, (Pl.F (Ho.P H3)).length = n := ⟨_, rfl⟩
          obtain ⟨r5, hlr⟩ : ∃ n, (Pl.R (Ho.P H3)).length = n := ⟨_, rfl⟩
          obtain ⟨m5, hlm⟩ : ∃ n, (Pl.M (Ho.P H3)).length = n := ⟨_, rfl⟩
          obtain ⟨q5, hlq⟩ : ∃ n, (Ho.G H3).length = n := ⟨_, rfl⟩
          obtain ⟨t5, hlt5⟩ : ∃ n, Ho.t H3 = n := ⟨_, rfl⟩
          obtain ⟨d5, hld⟩ : ∃ n, Ho.d H3 = n := ⟨_, rfl⟩
          obtain ⟨s5, hls⟩ : ∃ n, Ho.n H3 = n := ⟨_, rfl⟩
          rw [hln, hlr, hlm, hlq] at O5 D5
          rw [hlt5, hld, hls] at D5
          have HG5 := Lib.hid (And.intro hln (And.intro hlr (And.intro hlm (And.intro hlq (And.intro hlt5 (And.intro hld hls))))))
          clear hln hlr hlm hlq hlt5 hld hls
          have HV5 : Hid (∀ w' : World, Below (w19).heap.size w19 w' → HoAt w' (.agg #[.slice of5 n5 kf5, .slice or5 r5 kr5, .slice om5 m5 km5, .slice og5 q5 kg5, .int .i64 t5, .int .u64 d5, .int .i64 s5]) H3) := Lib.hid (fun w' hb => by
            have := (O5.below hb).at_
            rwa [HG5.out.2.2.2.2.1, HG5.out.2.2.2.2.2.1, HG5.out.2.2.2.2.2.2] at this)
          obtain ⟨D5_c, D5_f, D5_z⟩ := D5.all
          go_wp2_with fail
          clear D5_c D5_f D5_z
          with_reducible refine (HRD.out _ _ (HV5.out _ (Below.refl _ _))).mono ?_
          rintro e w20 ⟨H4, hrd, of20, or20, om20, og20, kf20, kr20, km20, kg20, us20, gs20, rfl, O20, hb20⟩
          obtain ⟨e1, e2⟩ := HPC.out H4 hrd
          rw [e1]
          obtain ⟨n20, hln⟩ : ∃ n, (Pl.F (Ho.P H4)).length = n := ⟨_, rfl⟩
          obtain ⟨r20, hlr⟩ : ∃ n, (Pl.R (Ho.P H4)).length = n := ⟨_, rfl⟩
          obtain ⟨m20, hlm⟩ : ∃ n, (Pl.M (Ho.P H4)).length = n := ⟨_, rfl⟩
          obtain ⟨q20, hlq⟩ : ∃ n, (Ho.G H4).length = n := ⟨_, rfl⟩
          obtain ⟨t20, hlt20⟩ : ∃ n, Ho.t H4 = n := ⟨_, rfl⟩
          obtain ⟨d20, hld⟩ : ∃ n, Ho.d H4 = n := ⟨_, rfl⟩
          obtain ⟨s20, hls⟩ : ∃ n, Ho.n H4 = n := ⟨_, rfl⟩
          rw [hln, hlr, hlm, hlq] at O20 ⊢
          rw [hlt20, hld, hls]
          have HG20 := Lib.hid (And.intro hln (And.intro hlr (And.intro hlm (And.intro hlq (And.intro hlt20 (And.intro hld hls))))))
          clear hln hlr hlm hlq hlt20 hld hls
          have HE2 := Lib.hid e2
          clear e1 e2 hrd HRD HV5 HPC HG20
          replace D5 := D5.below hb20
          replace O5 := O5.below hb20
          replace hbw := hbw.trans (hb20.mono hbw.size)
          clear hb20
          go_upto_region 22 with (fail)
          have D20 := HasBlock.made w20 #[.slice of20 n20 kf20, .slice or20 r20 kr20, .slice om20 m20 km20, .slice og20 q20 kg20, .int .i64 t20, .int .u64 d20, .int .i64 s20] 31
          have hax : Below w20.heap.size w20 (w20.alloc (.cells #[.slice of20 n20 kf20, .slice or20 r20 kr20, .slice om20 m20 km20, .slice og20 q20 kg20, .int .i64 t20, .int .u64 d20, .int .i64 s20] 31)) := (Below.refl _ _).alloc (Nat.le_refl _) _
          replace O20 := O20.below hax
          (replace D5 := D5.below hax; replace O5 := O5.below hax)
          replace hbw := hbw.trans (hax.mono hbw.size)
          clear hax
          generalize hW : w20.alloc (.cells #[.slice of20 n20 kf20, .slice or20 r20 kr20, .slice om20 m20 km20, .slice og20 q20 kg20, .int .i64 t20, .int .u64 d20, .int .i64 s20] 31) = w21 at *
          obtain ⟨B6, hB⟩ : ∃ B, w20.heap.size = B := ⟨_, rfl⟩
          rw [hB] at D20 ⊢
          clear hB hW
          clear D20 O20
          obtain ⟨zz, hzz⟩ : ∃ z, zeros128 = z := ⟨_, rfl⟩
          have PZ : ∀ w, Calls Try.prog 14 #[.int .i64 0] w (Ret w (.string zeros128)) := fun w => by
            have h := page_any 0 w (by omega)
            rwa [pageS_zero] at h
          rw [hzz] at PZ HE2
          have HPZ := Lib.hid PZ; clear PZ hzz
          go_wp2_with fail
          with_reducible refine (HPZ.out _).mono ?_
          rintro e w22 ⟨rfl, hbk⟩
          replace D5 := D5.below hbk
          replace O5 := O5.below hbk
          replace hbw := hbw.trans (hbk.mono hbw.size)
          clear hbk HPZ
          have eZ : (tt.toList == zz.toList) = decide (tt = zz) := bytes_eq tt zz
          obtain ⟨l, f, hl, hf⟩ := hat3
          have hfr := Pl.fr_eq hl hf
          have hm5 : m5 = 3 := by rw [← HG5.out.2.2.1, ← HS3.out.ok.m]; exact HS3.out.g
          have hl6 : l.length = 6 := by have := HS3.out.pg g g3; rwa [Pl.pages_eq hl] at this
          rw [hm5] at D5 O5
          obtain ⟨mb, km', fb, lc, e0, hus, cm0, cf0, _, _, hmb, _, hfb, _⟩ := O5.p.page hl hf
          injection e0 with e0 e9 e10
          subst e0 e10
          clear e9
          rw [hl6] at cm0
          by_cases hzero : tt = zz
          · rw [decide_eq_true hzero] at eZ
            clear HE2 hzero
            obtain ⟨D5_c, D5_f, D5_z⟩ := D5.all
            go_wp2_with fail
            with_reducible refine (awake_any _).mono ?_
            rintro e wz ⟨rfl, hbz⟩
            replace hbw := hbw.trans (hbz.mono hbw.size)
            go_wp2_with fail
            go_ret
            exact Ret.mk hbw
          · rw [decide_eq_false hzero] at eZ
            have hf0 : 0 ≤ f := by rw [← hfr]; exact HE2.out.resolve_left hzero
            clear HE2 hzero hfr
            obtain ⟨D5_c, D5_f, D5_z⟩ := D5.all
            go_wp2_with fail
            with_reducible refine (awake_any _).mono ?_
            rintro e wz ⟨rfl, hbz⟩
            replace hbw := hbw.trans (hbz.mono hbw.size)
            go_wp2_with fail
            go_ret
            exact Ret.mk hbw
end Go.Proofs.Ytbnngjhnkegliaa
namespace Go.Proofs.Ytbnngjhnkegliaa
open Go.ChangeShapes Go.WideShapes Go.ChangeAt Go.RowKit Go.ChangeMaps

set_option maxRecDepth 100000 in
theorem hostAlone_contract {H : Type} {enc : TypeId × Value → H} (W : World) (base : Nat) (args : Array Value) (ds gs : List (DataW H)) (before : List MemPlace)
    (hval0 : ∀ (j : Nat) t v, Try.f7.params[j]? = some t → args[j]? = some v → Value.okWide Try.prog W .any base t v)
    (hW : DataW.Whole enc Try.prog Try.f7.params.toList Rows.hostAloneSpec.vars false W args.toList ds gs before) :
    Calls Try.prog 7 args W fun e W' => ∃ v, e = .returned v ∧ Rows.hostAloneSpec.post enc Try.prog Try.f7 false true false false W args v W' := by
  have hW0 := hW
  obtain ⟨p, q, hA0, hV, _, _, _⟩ := hW
  have hA : DataW.TrodAll enc Try.prog W 0 (fun _ => true) true Try.f7.params.toList args.toList ds p := hA0
  clear hA0
  rw [Try.params7] at hA hval0
  obtain ⟨v0, vs0, d0, ds0, p0, q0, hargs0, rfl, _, h0, r0⟩ := trodAll_cons hA
  obtain ⟨v1, vs1, d1, ds1, p1, q1, hargs1, rfl, _, h1, r1⟩ := trodAll_cons r0
  obtain ⟨v2, vs2, d2, ds2, p2, q2, hargs2, rfl, _, h2, r2⟩ := trodAll_cons r1
  obtain ⟨v3, vs3, d3, ds3, p3, q3, hargs3, rfl, _, h3, r3⟩ := trodAll_cons r2
  obtain ⟨v4, vs4, d4, ds4, p4, q4, hargs4, rfl, _, h4, r4⟩ := trodAll_cons r3
  obtain ⟨v5, vs5, d5, ds5, p5, q5, hargs5, rfl, _, h5, r5⟩ := trodAll_cons r4
  obtain ⟨hnil, rfl, _⟩ := trodAll_nil r5
  obtain rfl : args = #[v0, v1, v2, v3, v4, v5] := by cases args; simp_all
  obtain ⟨F, rfl, _, _, _⟩ := open_int Try.underlying3 (hval0 0 _ v0 rfl rfl) h0
  obtain ⟨X, rfl, _, _, _⟩ := open_int Try.underlying3 (hval0 1 _ v1 rfl rfl) h1
  obtain ⟨ao, xs, ca, rfl, ha, _, _⟩ := open_intRow Try.underlying22 Try.underlying3 (by kernel_rfl) (hval0 2 _ v2 rfl rfl) h2
  obtain ⟨bo, ys, cb, rfl, hb, _, _⟩ := open_intRow Try.underlying22 Try.underlying3 (by kernel_rfl) (hval0 3 _ v3 rfl rfl) h3
  obtain ⟨G, rfl, _, _, hg⟩ := open_int Try.underlying3 (hval0 4 _ v4 rfl rfl) h4
  obtain ⟨P, rfl, _, _, hp⟩ := open_int Try.underlying3 (hval0 5 _ v5 rfl rfl) h5
  refine Calls.mono (R := Ret W (.bool true)) ?_ (fun e W' ⟨he, hb⟩ => ⟨_, he, law_post rfl hW0 hb (of_decide_eq_true (by kernel_rfl)) 4 rfl Try.underlying4 (fun _ => rfl)⟩)
  exact alone_any F X G P _ _ xs ys W ha hb (bounds_i64 hg) (bounds_i64 hp)

set_option maxRecDepth 100000 in
theorem hostAlone_lifted (os : Os) (started : os.Started) (H : Type) (enc : TypeId × Value → H) :
    ReturnsInHanded {} Try.checked os 7 .any (Rows.hostAloneSpec.pre6 enc Try.prog Try.f7 Rows.hostAloneRow.domain false) (Rows.hostAloneSpec.post enc Try.prog Try.f7 false true false false) := by
  refine returnsInHanded_of_change (C := Try.checked) Try.own started (by kernel_rfl) Try.func7
    (ChangeSpec.witness6 (enc := enc) (C := Try.checked) false ⟨#[], #[.int .i64 0, .int .i64 0, .slice none 0 0, .slice none 0 0, .int .i64 0, .int .i64 0], []⟩ 8 (by kernel_rfl) (by kernel_rfl) (by kernel_rfl) (by kernel_rfl)) ?_
  intro W base args ds gs before hval0 hW _ _
  exact hostAlone_contract W base args ds gs before hval0 hW

theorem hostAlone_holds : Rows.HostAloneSaid :=
  OpenClaim.holds_of_wide 7 Try.f7 rfl rfl rfl rfl rfl rfl rfl ⟨rfl, rfl, rfl, rfl, rfl⟩ rfl rfl rfl rfl rfl (by kernel_rfl) Try.func7 (by kernel_rfl)
    (of_decide_eq_true (by kernel_rfl)) (by unfold Func.isWrapper; first | (rw [if_pos (by decide +kernel)]; kernel_rfl) | (rw [if_neg (by decide +kernel)]; exact ⟨rfl, rfl⟩))
    (fun os started H enc _ => hostAlone_lifted os started H enc)
end Go.Proofs.Ytbnngjhnkegliaa
