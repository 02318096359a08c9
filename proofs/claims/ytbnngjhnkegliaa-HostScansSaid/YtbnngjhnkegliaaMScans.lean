/-
  PROVED: 'HostScansSaid': for every number of frames, tax, list of claims and list of operations, HostScans hands back true and leaves all memory as it was. Conditions: none.
-/
import Derived.Test.YtbnngjhnkegliaaB5
import Derived.Test.YtbnngjhnkegliaaB8
import Derived.Test.YtbnngjhnkegliaaB10
import Derived.BigQuiet
import Derived.Test.YtbnngjhnkegliaaB11
namespace Go.Proofs.Ytbnngjhnkegliaa
open Go.RowKit

/-- The pages before this one, in the order of guests and pages. -/
def before (g p a b : Nat) : Prop := b < 4 ∧ a * 4 + b < g * 4 + p
/-- All pages before this one have the least frame of their content. -/
def LeastTo (P : Pl) (g p : Nat) : Prop := ∀ a b : Nat, P.at a b → before g p a b → P.least' a b
theorem LeastTo.sh {P : Pl} {g p : Nat} (h : LeastTo P g p) (hs : Shape 8 P) {a b : Nat} (ha : a < 2) (hb : b < 4) : LeastTo (P.sh a b) g p := fun c d hcd hbf => by
  have hat := (hs.at' a b).2 ⟨ha, hb⟩
  have hcd' := ((Pl.sh_law hs.ok hat).1.al.at c d).1 hcd
  exact Pl.least_keep hs.ok hat hcd' (h c d hcd' hbf)
theorem LeastTo.step {P : Pl} {g p : Nat} (h : LeastTo P g p) (hs : Shape 8 P) (hg : g < 2) (hp : p < 4) : LeastTo (P.sh g p) g (p + 1) := fun c d hcd hbf => by
  have hat := (hs.at' g p).2 ⟨hg, hp⟩
  by_cases e : c * 4 + d < g * 4 + p
  · exact h.sh hs hg hp c d hcd ⟨hbf.1, e⟩
  · obtain ⟨rfl, rfl⟩ : c = g ∧ d = p := by
      have h1 := hbf.1
      have h2 := hbf.2
      omega
    exact (Pl.sh_frames hs.ok hat).2.2.1
/-- All pages have the least frame of their content: a share changes nothing. -/
def AllLeast (P : Pl) : Prop := ∀ a b : Nat, P.at a b → P.least' a b
theorem LeastTo.all {P : Pl} (h : LeastTo P 2 0) (hs : Shape 8 P) : AllLeast P := fun a b hab => by
  have := (hs.at' a b).1 hab
  exact h a b hab ⟨this.2, by omega⟩
theorem AllLeast.sh {P : Pl} (h : AllLeast P) (hs : Shape 8 P) {g p : Nat} (hg : g < 2) (hp : p < 4) : P.sh g p = P ∧ P.sok g p = false := by
  have hat := (hs.at' g p).2 ⟨hg, hp⟩
  have h1 := (Pl.sok_least hs.ok hat).2 (h g p hat)
  exact ⟨(Pl.sh_law hs.ok hat).2 h1, h1⟩
theorem Pl.zero_text {P : Pl} (H : P.Ok) {g p : Nat} (h : P.at g p) : P.text g p = zeros128 ↔ P.fr g p < 0 := by
  constructor
  · intro e
    rcases Int.lt_or_le (P.fr g p) 0 with h0 | h0
    · exact h0
    · have := (Pl.text_good H h h0).2
      rw [e, zeros128_zero] at this
      cases this
  · intro h0
    unfold Pl.text
    rw [if_pos h0]
theorem one_str (x : ByteArray) : ∀ u ∈ [Value.string x], u.oneCell' = true := by
  intro u hu
  simp at hu
  subst hu
  rfl
/-- Whether a content has been met among the first ones, or is zeros. -/
def MetTo (m : Bool) (t z : ByteArray) (S : List ByteArray) (j : Nat) : Prop := m = true ↔ (t = z ∨ t ∈ S.take j)
theorem MetTo.yes {t z : ByteArray} {S : List ByteArray} {j : Nat} (h : MetTo true t z S j) : MetTo true t z S (j + 1) := by
  unfold MetTo at *
  simp only [true_iff] at *
  rcases h with h | h
  · exact .inl h
  · right
    rw [List.take_add_one]
    exact List.mem_append_left _ h
theorem MetTo.no {t z u : ByteArray} {S : List ByteArray} {j : Nat} (h : MetTo false t z S j) (hu : S[j]? = some u) : MetTo (decide (u = t)) t z S (j + 1) := by
  unfold MetTo at *
  have h1 : ¬ (t = z ∨ t ∈ S.take j) := fun e => by have := h.2 e; cases this
  rw [List.take_add_one, hu, decide_eq_true_eq]
  constructor
  · rintro rfl
    exact .inr (List.mem_append_right _ (by simp))
  · rintro (e | e)
    · exact absurd (.inl e) h1
    · rw [List.mem_append] at e
      rcases e with e | e
      · exact absurd (.inr e) h1
      · simp at e
        exact e.symm
theorem MetTo.zero (t z : ByteArray) (S : List ByteArray) : MetTo (decide (t = z)) t z S 0 := by
  unfold MetTo
  simp
theorem before_succ {g k : Nat} (hk : k < 4) (a b : Nat) : before g (k + 1) a b ↔ before g k a b ∨ (a = g ∧ b = k) := by
  unfold before
  omega
theorem before_next (g a b : Nat) : before (g + 1) 0 a b ↔ before g 4 a b := by
  unfold before
  omega
theorem Seen.iff {P : Pl} {v v' : Nat → Nat → Prop} {S : List ByteArray} (h : Seen P v S) (hv : ∀ a b, v' a b ↔ v a b) : Seen P v' S := by
  have e : v' = v := funext fun a => funext fun b => propext (hv a b)
  rw [e]
  exact h
theorem bytes_eq (s t : ByteArray) : (s.toList == t.toList) = decide (s = t) := by
  rw [Bool.eq_iff_iff, beq_iff_eq, decide_eq_true_eq]
  exact ⟨fun h => by
    rw [ByteArray.toList_eq, ByteArray.toList_eq] at h
    cases s with
    | mk a => cases t with
      | mk b => exact congrArg ByteArray.mk (Array.toList_inj.1 h), fun h => by rw [h]⟩
theorem LeastTo.next {P : Pl} {g : Nat} (h : LeastTo P g 4) : LeastTo P (g + 1) 0 := fun a b hab hbf => h a b hab ((before_next g a b).1 hbf)
theorem LeastTo.start (P : Pl) : LeastTo P 0 0 := fun a b _ h => by have := h.2; omega
theorem Pl.free_okL {P : Pl} (H : P.Ok) : P.free = P.freeN := by unfold Pl.free; rw [Pl.ok_iff.2 H, if_pos rfl]
end Go.Proofs.Ytbnngjhnkegliaa
namespace Go.Proofs.Ytbnngjhnkegliaa
open Go.RowKit

/-- Every page has the least frame of its content. -/
def LeastAll (P : Pl) : Prop := ∀ a b : Nat, P.at a b → P.least' a b
/-- The pages that a scan has met. -/
def LeastSo (O : List (Nat × Nat)) (s k : Nat) (P : Pl) : Prop := ∀ (j : Nat) (x : Nat × Nat), j < k → O[(s + j) % O.length]? = some x → P.least' x.1 x.2
theorem scan1_n {H : Ho} (hok : H.Ok) (h0 : 0 < H.ord.length) {s : Nat} (hs : H.n = s) : (H.scan1 H.ord).n = ((s + 1) % H.ord.length : Nat) := by
  have hb := hok.n
  rw [← ord_len] at hb
  obtain ⟨x, hx⟩ := get_lt (xs := H.ord) (k := H.n.toNat) (by omega)
  unfold Ho.scan1
  rw [hx]
  dsimp only
  rw [hs]
  exact (Int.natCast_emod (s + 1) H.ord.length).symm
theorem scan1_at {H : Ho} {x : Nat × Nat} (hx : H.ord[H.n.toNat]? = some x) : (H.scan1 H.ord).P = H.P.sh x.1 x.2 := by
  unfold Ho.scan1
  rw [hx]
theorem scanN_least {H : Ho} (hok : H.Ok) (h0 : 0 < H.ord.length) {s : Nat} (hs : H.n = s) : ∀ k : Nat, (Ho.scanN H.ord H k).n = ((s + k) % H.ord.length : Nat) ∧ LeastSo H.ord s k (Ho.scanN H.ord H k).P
  | 0 => by
    have hb := hok.n
    rw [← ord_len] at hb
    refine ⟨?_, fun j x hj => absurd hj (Nat.not_lt_zero _)⟩
    show H.n = _
    rw [hs, Nat.add_zero, Nat.mod_eq_of_lt (by omega)]
  | k + 1 => by
    obtain ⟨h1, h2⟩ := scanN_least hok h0 hs k
    have S := scanN_scanned hok k
    have ho := ord_alike S.k.al
    show ((Ho.scanN H.ord H k).scan1 H.ord).n = _ ∧ LeastSo H.ord s (k + 1) ((Ho.scanN H.ord H k).scan1 H.ord).P
    obtain ⟨K, hK⟩ : ∃ K, Ho.scanN H.ord H k = K := ⟨_, rfl⟩
    rw [hK] at h1 h2 S ho ⊢
    rw [← ho] at h0 h1 h2 ⊢
    refine ⟨?_, fun j x hj hx => ?_⟩
    · rw [scan1_n S.k.ok h0 h1, Nat.mod_add_mod]
      rfl
    · obtain ⟨y, hy⟩ := get_lt (xs := K.ord) (k := K.n.toNat) (by rw [h1, Int.toNat_natCast]; exact Nat.mod_lt _ h0)
      rw [scan1_at hy]
      have haty : K.P.at y.1 y.2 := ord_mem.1 (mem_at hy)
      have hatx : K.P.at x.1 x.2 := ord_mem.1 (mem_at hx)
      by_cases e : j = k
      · subst e
        rw [h1, Int.toNat_natCast, hx] at hy
        injection hy with hy
        subst hy
        exact (Pl.sh_frames S.k.ok.p haty).2.2.1
      · exact Pl.least_keep S.k.ok.p haty hatx (h2 j x (by omega) hx)
theorem mod_reach {L s t : Nat} (ht : t < L) (hs : s < L) : ∃ j, j < L ∧ (s + j) % L = t := by
  by_cases h : s ≤ t
  · exact ⟨t - s, by omega, by rw [show s + (t - s) = t by omega, Nat.mod_eq_of_lt ht]⟩
  · exact ⟨L - s + t, by omega, by rw [show s + (L - s + t) = t + L by omega, Nat.add_mod_right, Nat.mod_eq_of_lt ht]⟩
theorem scan_all {H : Ho} (hok : H.Ok) {n : Int} (hn : (H.ord.length : Int) ≤ n) (h0 : 0 < H.ord.length) : LeastAll (H.scan n).P := by
  have hb := hok.n
  rw [← ord_len] at hb
  obtain ⟨s, hs⟩ : ∃ s : Nat, H.n = s := ⟨H.n.toNat, by omega⟩
  unfold Ho.scan
  rw [if_neg (by omega), show min n.toNat H.ord.length = H.ord.length by omega]
  intro a b hab
  have S := scanN_scanned hok H.ord.length
  obtain ⟨_, h2⟩ := scanN_least hok h0 hs H.ord.length
  have hm : (a, b) ∈ H.ord := by rw [ord_mem]; exact (S.k.al.at a b).1 hab
  obtain ⟨t, ht⟩ := List.getElem?_of_mem hm
  obtain ⟨j, hj, e⟩ := mod_reach (lt_of_get ht) (show s < H.ord.length by omega)
  exact h2 j (a, b) hj (by rw [e]; exact ht)
theorem HShape.ord18 {n : Nat} {ls : List Int} {H : Ho} (h : HShape n ls H) : H.ord.length = 18 := by
  have hm : H.P.M.length = 3 := by rw [← h.ok.m]; exact h.g
  unfold Ho.ord
  rw [hm]
  have e : ∀ k, k < 3 → (ordTo H.P (k + 1)).length = (ordTo H.P k).length + 6 := fun k hk => by
    rw [ordTo_succ, List.length_append, List.length_map, List.length_range, h.pg k hk]
  rw [e 2 (by omega), e 1 (by omega), e 0 (by omega)]
  rfl
/-- What two scans of all pages leave. -/
theorem scan_twice {n : Nat} {ls : List Int} {H : Ho} (h : HShape n ls H) : HShape n ls ((H.scan 18).scan 18) ∧ Scanned H ((H.scan 18).scan 18) ∧ LeastAll ((H.scan 18).scan 18).P := by
  have S1 := scan_scanned h.ok 18
  have h1 := h.kept S1.k
  have S2 := scan_scanned h1.ok 18
  refine ⟨h1.kept S2.k, S1.trans S2, scan_all h1.ok ?_ ?_⟩
  · rw [h1.ord18]
    omega
  · rw [h1.ord18]
    omega
/-- The frames that have pages are those that are not free. -/
def posB (x : Int) : Bool := decide (0 < x)
theorem Pl.used_refs {P : Pl} (H : P.Ok) : ∀ k : Nat, k ≤ P.F.length → (P.F.take k).countP emptyB + (P.R.take k).countP posB = k
  | 0, _ => rfl
  | k + 1, h => by
    have ih := Pl.used_refs H k (by omega)
    obtain ⟨s, hs, hx, h1, _⟩ := H.fr k (by omega)
    rw [countP_succ hs, countP_succ hx]
    unfold emptyB posB
    unfold emptyB posB at ih
    by_cases h0 : s.size = 0
    · rw [if_pos (decide_eq_true h0), if_neg (by rw [decide_eq_true_eq, h1.2 h0]; omega)]
      omega
    · rw [if_neg (by rw [decide_eq_true_eq]; exact h0), if_pos (decide_eq_true (show (0 : Int) < (P.cnt k : Nat) by have : P.cnt k ≠ 0 := fun e => h0 (h1.1 e); omega))]
      omega
theorem Pl.refs_all {P : Pl} (H : P.Ok) : P.freeN + P.R.countP posB = P.F.length := by
  have := Pl.used_refs H P.F.length (Nat.le_refl _)
  rwa [List.take_length, ← H.r, List.take_length, H.r] at this
/-- As many frames have pages as there are contents. -/
theorem seen_refs {P : Pl} {vis : Nat → Nat → Prop} {S : List ByteArray} (h : Seen P vis S) (H : P.Ok) (hv : ∀ a b, P.at a b → vis a b) (hl : LeastAll P) : P.R.countP posB = S.length := by
  have h1 := h.count H hv hl
  have h2 := Pl.refs_all H
  omega
/-- A page with a frame has its content there. -/
theorem Pl.text_frame {P : Pl} (H : P.Ok) {a b : Nat} (hat : P.at a b) (h0 : 0 ≤ P.fr a b) : ∃ v : Nat, P.fr a b = v ∧ v < P.F.length ∧ P.F[v]? = some (P.text a b) := by
  have hb := H.at_bd hat
  obtain ⟨v, hv⟩ : ∃ v : Nat, P.fr a b = v := ⟨(P.fr a b).toNat, by omega⟩
  obtain ⟨s, hs⟩ := get_lt (xs := P.F) (k := v) (by omega)
  refine ⟨v, hv, by omega, ?_⟩
  rw [hs]
  unfold Pl.text
  rw [hv, if_neg (by omega), Int.toNat_natCast]
  unfold Pl.txt
  rw [hs]
  rfl
/-- The pages before this one, of guests of six pages. -/
def before6 (g p a b : Nat) : Prop := b < 6 ∧ a * 6 + b < g * 6 + p
theorem before6_succ {g k : Nat} (hk : k < 6) (a b : Nat) : before6 g (k + 1) a b ↔ before6 g k a b ∨ (a = g ∧ b = k) := by
  unfold before6
  omega
theorem before6_next (g a b : Nat) : before6 (g + 1) 0 a b ↔ before6 g 6 a b := by
  unfold before6
  omega
end Go.Proofs.Ytbnngjhnkegliaa
namespace Go.Proofs.Ytbnngjhnkegliaa
open Go.RowKit

theorem claim_field1 (c : Clm) (w : World) : (Instr.field 35 (.agg #[.int .i64 c.r, .int .i64 c.l, .int .i64 c.s, .int .i64 c.p, .int .i64 c.a]) 1).run Try.prog w = .ok (.int .i64 c.l) w := by kernel_rfl
set_option maxRecDepth 100000 in
set_option maxHeartbeats 8000000 in
theorem limits_any (fr tx : Int) (va vb : Value) (ls os : List Int) (w : World) (ha : NumRow w va ls) (hb : NumRow w vb os) : Calls Try.prog 5 #[.int .i64 fr, .int .i64 tx, va, vb] w (Ret w (.bool true)) := by
  obtain ⟨bo, cb, rfl, b1, b2, _⟩ := hb.out
  unfold maxLen at b2
  obtain ⟨N, hN⟩ : ∃ N, os.length = N := ⟨_, rfl⟩
  rw [hN] at b1 hb ⊢
  have HN := Lib.hid hN; clear hN
  have HA := Lib.hid ha; clear ha
  have HB0 := Lib.hid hb; clear hb
  go_enter Try.func5, Try.ntmps5
  by_cases c1 : fr < 6
  · have t1 : decide (fr < 6) = true := decide_eq_true c1
    go_wp2_with fail
    with_reducible refine (awake_any _).mono ?_
    rintro e wz ⟨rfl, hbz⟩
    go_wp2_with fail
    go_ret
    exact Ret.mk hbz
  have t1 : decide (fr < 6) = false := decide_eq_false c1
  by_cases c2 : 14 < fr
  · have t2 : decide (fr > 14) = true := decide_eq_true c2
    have t2' : decide (14 < fr) = true := decide_eq_true c2
    go_wp2_with fail
    with_reducible refine (awake_any _).mono ?_
    rintro e wz ⟨rfl, hbz⟩
    go_wp2_with fail
    go_ret
    exact Ret.mk hbz
  have t2 : decide (fr > 14) = false := decide_eq_false c2
  have t2' : decide (14 < fr) = false := decide_eq_false c2
  by_cases c3 : tx < 0
  · have t3 : decide (tx < 0) = true := decide_eq_true c3
    go_wp2_with fail
    with_reducible refine (awake_any _).mono ?_
    rintro e wz ⟨rfl, hbz⟩
    go_wp2_with fail
    go_ret
    exact Ret.mk hbz
  have t3 : decide (tx < 0) = false := decide_eq_false c3
  by_cases c4 : 99 < tx
  · have t4 : decide (tx > 99) = true := decide_eq_true c4
    have t4' : decide (99 < tx) = true := decide_eq_true c4
    go_wp2_with fail
    with_reducible refine (awake_any _).mono ?_
    rintro e wz ⟨rfl, hbz⟩
    go_wp2_with fail
    go_ret
    exact Ret.mk hbz
  have t4 : decide (tx > 99) = false := decide_eq_false c4
  have t4' : decide (99 < tx) = false := decide_eq_false c4
  by_cases c5 : 60 < N
  · have t5 : decide ((N : Int) > 60) = true := decide_eq_true (by omega)
    have t5' : decide ((60 : Int) < (N : Int)) = true := decide_eq_true (by omega)
    have t5'' : decide (60 < N) = true := decide_eq_true c5
    go_wp2_with fail
    with_reducible refine (awake_any _).mono ?_
    rintro e wz ⟨rfl, hbz⟩
    go_wp2_with fail
    go_ret
    exact Ret.mk hbz
  have t5 : decide ((N : Int) > 60) = false := decide_eq_false (by omega)
  have t5' : decide ((60 : Int) < (N : Int)) = false := decide_eq_false (by omega)
  have t5'' : decide (60 < N) = false := decide_eq_false c5
  obtain ⟨n, hn⟩ : ∃ n : Nat, fr = n := ⟨fr.toNat, by omega⟩
  have hn6 : 6 ≤ n ∧ n ≤ 14 := by omega
  subst hn
  have MD := fun w h => made_any n tx va ls w hn6.1 (by omega) (by omega) h
  have hfr := madeH_fresh (n := n) (t := tx) (ls := ls) hn6.1 (by omega) (by omega) 3 (by omega)
  obtain ⟨H0, hH0⟩ : ∃ x, madeH n tx ls 3 = x := ⟨_, rfl⟩
  rw [hH0] at MD hfr
  have HMD := Lib.hid MD; clear MD hH0
  have HFR := Lib.hid hfr; clear hfr
  have hbw : Below w.heap.size w w := Below.refl _ _
  go_wp2_with fail
  with_reducible refine (HMD.out _ HA.out).mono ?_
  rintro e w1 ⟨of0, or0, om0, og0, kf0, kr0, km0, kg0, us0, gs0, rfl, O0, hb1⟩
  replace hbw := hbw.trans hb1
  clear hb1
  obtain ⟨n0, hln⟩ : ∃ n, (Pl.F (Ho.P H0)).length = n := ⟨_, rfl⟩
  obtain ⟨r0, hlr⟩ : ∃ n, (Pl.R (Ho.P H0)).length = n := ⟨_, rfl⟩
  obtain ⟨m0, hlm⟩ : ∃ n, (Pl.M (Ho.P H0)).length = n := ⟨_, rfl⟩
  obtain ⟨q0, hlq⟩ : ∃ n, (Ho.G H0).length = n := ⟨_, rfl⟩
  obtain ⟨t0, hlt0⟩ : ∃ n, Ho.t H0 = n := ⟨_, rfl⟩
  obtain ⟨d0, hld⟩ : ∃ n, Ho.d H0 = n := ⟨_, rfl⟩
  obtain ⟨s0, hls⟩ : ∃ n, Ho.n H0 = n := ⟨_, rfl⟩
  rw [hln, hlr, hlm, hlq] at O0 ⊢
  rw [hlt0, hld, hls]
  have HG0 := Lib.hid (And.intro hln (And.intro hlr (And.intro hlm (And.intro hlq (And.intro hlt0 (And.intro hld hls))))))
  clear hln hlr hlm hlq hlt0 hld hls
  go_upto_region 4 with (fail)
  have HB := HostAt.new (base' := 0) HG0.out O0 (Nat.zero_le _)
  have hz1 := hbw.size
  replace hbw := hbw.alloc hbw.size (.cells #[.slice of0 n0 kf0, .slice or0 r0 kr0, .slice om0 m0 km0, .slice og0 q0 kg0, .int .i64 t0, .int .u64 d0, .int .i64 s0] 31)
  obtain ⟨B0, hB⟩ : ∃ B, w1.heap.size = B := ⟨_, rfl⟩
  rw [hB] at HB hz1 ⊢
  generalize hW : w1.alloc (.cells #[.slice of0 n0 kf0, .slice or0 r0 kr0, .slice om0 m0 km0, .slice og0 q0 kg0, .int .i64 t0, .int .u64 d0, .int .i64 s0] 31) = w2 at HB hbw ⊢
  clear hW hB O0 HG0
  have HSH := Lib.hid HFR.out.shape; clear HFR
  go_wp2_with fail
  go_loopw [10, 11] (fun bv iv wr => ∃ (i : Nat) (H : Ho), i ≤ N ∧ bv = .bool true ∧ iv = .int .i64 i ∧ Hid (HShape n ls H) ∧ HostAt 0 B0 wr H ∧ Below w.heap.size w wr) (fun _ iv _ => N - (intOf iv).toNat)
  case atStart => exact ⟨0, H0, by omega, rfl, rfl, HSH, HB, hbw⟩
  case round =>
    clear HSH HB hbw HMD
    obtain ⟨i, H, hi, rfl, rfl, HSH, HBX, hbw⟩ := hrel
    by_cases hlt : i < N
    · obtain ⟨x, hx⟩ := get_lt (xs := os) (k := i) (by rw [HN.out]; exact hlt)
      obtain ⟨b, off, rfl, hbs, hcx⟩ := EncRow.elem (enc := Value.int .i64) HB0.out hx
      clear hx
      have cx := (hbw.cell (p := ⟨b, off + i, none⟩) hbs).trans hcx
      have hbs2 : b < wr.heap.size := by have := hbw.size; omega
      have i0 : (0 : Int) ≤ (i : Int) := by omega
      have iN : (i : Int) < (N : Int) := by omega
      have ACT := fun v w h => act_any v n ls H x w h HSH.out
      have HACT := Lib.hid ACT; clear ACT
      obtain ⟨of1, or1, om1, og1, kf1, kr1, km1, kg1, us1, gs1, D1, O1⟩ := HBX
      obtain ⟨n1, hln⟩ : ∃ n, (Pl.F (Ho.P H)).length = n := ⟨_, rfl⟩
      obtain ⟨r1, hlr⟩ : ∃ n, (Pl.R (Ho.P H)).length = n := ⟨_, rfl⟩
      obtain ⟨m1, hlm⟩ : ∃ n, (Pl.M (Ho.P H)).length = n := ⟨_, rfl⟩
      obtain ⟨q1, hlq⟩ : ∃ n, (Ho.G H).length = n := ⟨_, rfl⟩
      obtain ⟨t1, hlt1⟩ : ∃ n, Ho.t H = n := ⟨_, rfl⟩
      obtain ⟨d1, hld⟩ : ∃ n, Ho.d H = n := ⟨_, rfl⟩
      obtain ⟨s1, hls⟩ : ∃ n, Ho.n H = n := ⟨_, rfl⟩
      rw [hln, hlr, hlm, hlq] at O1 D1
      rw [hlt1, hld, hls] at D1
      have HG1 := Lib.hid (And.intro hln (And.intro hlr (And.intro hlm (And.intro hlq (And.intro hlt1 (And.intro hld hls))))))
      clear hln hlr hlm hlq hlt1 hld hls
      have HV1 : Hid (∀ w' : World, Below (wr).heap.size wr w' → HoAt w' (.agg #[.slice of1 n1 kf1, .slice or1 r1 kr1, .slice om1 m1 km1, .slice og1 q1 kg1, .int .i64 t1, .int .u64 d1, .int .i64 s1]) H) := Lib.hid (fun w' hb => by
        have := (O1.below hb).at_
        rwa [HG1.out.2.2.2.2.1, HG1.out.2.2.2.2.2.1, HG1.out.2.2.2.2.2.2] at this)
      go_wp2_with fail
      go_cut [10] from 48 to 62 (fun v wx => v = .bool true ∧ ∃ H', Hid (∃ g p s, ActTo H H' g p s) ∧ HostAt 0 B0 wx H' ∧ Below w.heap.size w wx)
      case first =>
        have D1k := D1
        obtain ⟨D1_c, D1_f, D1_z⟩ := D1.all
        have hbz := hbs2
        go_region_law (first
          | (go_simp; go_at_call 19
             with_reducible refine (HACT.out _ _ (HV1.out _ (Below.drew (Below.refl _ _)))).mono ?_
             rintro _ w16 ⟨H2, ga, pa, sa, hact, of16, or16, om16, og16, kf16, kr16, km16, kg16, us16, gs16, rfl, O16, hb16⟩
             obtain ⟨n16, hln⟩ : ∃ n, (Pl.F (Ho.P H2)).length = n := ⟨_, rfl⟩
             obtain ⟨r16, hlr⟩ : ∃ n, (Pl.R (Ho.P H2)).length = n := ⟨_, rfl⟩
             obtain ⟨m16, hlm⟩ : ∃ n, (Pl.M (Ho.P H2)).length = n := ⟨_, rfl⟩
             obtain ⟨q16, hlq⟩ : ∃ n, (Ho.G H2).length = n := ⟨_, rfl⟩
             obtain ⟨t16, hlt16⟩ : ∃ n, Ho.t H2 = n := ⟨_, rfl⟩
             obtain ⟨d16, hld⟩ : ∃ n, Ho.d H2 = n := ⟨_, rfl⟩
             obtain ⟨s16, hls⟩ : ∃ n, Ho.n H2 = n := ⟨_, rfl⟩
             rw [hln, hlr, hlm, hlq] at O16 ⊢
             rw [hlt16, hld, hls]
             have HG16 := Lib.hid (And.intro hln (And.intro hlr (And.intro hlm (And.intro hlq (And.intro hlt16 (And.intro hld hls))))))
             clear hln hlr hlm hlq hlt16 hld hls
             have HACK := Lib.hid hact
             clear hact
             have HB16 : Below wr.heap.size wr w16 := (Below.drew (Below.refl _ wr)).trans hb16
             have E0 := D1k.below HB16
             have O16z := O16.lower (base' := 0) (Nat.zero_le _)
             have hbw16 : Below w.heap.size w w16 := hbw.trans (HB16.mono hbw.size)
             have E0k := E0
             obtain ⟨E0_c, E0_f, E0_z⟩ := E0.all))
        all_goals
          go_wp2_with fail
          go_meet
          exact ⟨rfl, H2, Lib.hid ⟨_, _, _, HACK.out⟩, HostAt.fill HG16.out E0k O16z, Below.fill7 hbw16 (by omega) _ _ _ _ _ _ _⟩
      case rest =>
        clear D1 O1 HV1 HG1 hbw cx hbs2
        obtain ⟨rfl, H2, HAK, HBX, hbw⟩ := hcut
        obtain ⟨g2, p2, s2, hact⟩ := HAK.out
        have HS2 := Lib.hid (act_kept HSH.out hact).1
        clear hact HAK HACT HSH
        have HBK := HBX
        obtain ⟨of2, or2, om2, og2, kf2, kr2, km2, kg2, us2, gs2, D2, O2⟩ := HBX
        obtain ⟨n2, hln⟩ : ∃ n, (Pl.F (Ho.P H2)).length = n := ⟨_, rfl⟩
        obtain ⟨r2, hlr⟩ : ∃ n, (Pl.R (Ho.P H2)).length = n := ⟨_, rfl⟩
        obtain ⟨m2, hlm⟩ : ∃ n, (Pl.M (Ho.P H2)).length = n := ⟨_, rfl⟩
        obtain ⟨q2, hlq⟩ : ∃ n, (Ho.G H2).length = n := ⟨_, rfl⟩
        obtain ⟨t2, hlt2⟩ : ∃ n, Ho.t H2 = n := ⟨_, rfl⟩
        obtain ⟨d2, hld⟩ : ∃ n, Ho.d H2 = n := ⟨_, rfl⟩
        obtain ⟨s2, hls⟩ : ∃ n, Ho.n H2 = n := ⟨_, rfl⟩
        rw [hln, hlr, hlm, hlq] at O2 D2
        rw [hlt2, hld, hls] at D2
        have HG2 := Lib.hid (And.intro hln (And.intro hlr (And.intro hlm (And.intro hlq (And.intro hlt2 (And.intro hld hls))))))
        clear hln hlr hlm hlq hlt2 hld hls
        have HV2 : Hid (∀ w' : World, Below (wc).heap.size wc w' → HoAt w' (.agg #[.slice of2 n2 kf2, .slice or2 r2 kr2, .slice om2 m2 km2, .slice og2 q2 kg2, .int .i64 t2, .int .u64 d2, .int .i64 s2]) H2) := Lib.hid (fun w' hb => by
          have := (O2.below hb).at_
          rwa [HG2.out.2.2.2.2.1, HG2.out.2.2.2.2.2.1, HG2.out.2.2.2.2.2.2] at this)
        have hn2 : n2 = n := by rw [← HG2.out.1]; exact HS2.out.f
        have hr2 : r2 = n := by rw [← HG2.out.2.1, HS2.out.ok.p.r]; exact HS2.out.f
        rw [hn2, hr2] at D2 O2 HV2 HG2
        clear hn2 hr2
        have HRR := Lib.hid O2.row.p.parts.2.1
        have hrl := HG2.out.2.1
        have HRL := Lib.hid hrl; clear hrl
        obtain ⟨D2_c, D2_f, D2_z⟩ := D2.all
        go_wp2_with fail
        go_loop [12, 13] (fun u k => ∃ j c : Nat, j ≤ n ∧ c ≤ j ∧ k = .int .i64 j ∧ u = .int .i64 c) (fun _ k => n - (intOf k).toNat)
        case atStart => exact ⟨0, 0, by omega, by omega, rfl, rfl⟩
        case round =>
          obtain ⟨j, c, hj, hcj, rfl, rfl⟩ := hrel
          by_cases hjt : j < n
          · obtain ⟨y, hy⟩ := get_lt (xs := H2.P.R) (k := j) (by rw [HRL.out]; exact hjt)
            obtain ⟨rb, roff, rfl, hrb, hcy⟩ := EncRow.elem (enc := Value.int .i64) HRR.out hy
            clear hy
            have j0 : (0 : Int) ≤ (j : Int) := by omega
            have jn : (j : Int) < (n : Int) := by omega
            by_cases hy0 : 0 < y
            · have q1 : decide (y > 0) = true := decide_eq_true hy0
              have q2 : decide (0 < y) = true := decide_eq_true hy0
              go_wp2_with fail
              go_round
              case rel => exact ⟨j + 1, c + 1, by omega, by omega, by go_num, by go_num⟩
              case measure => simp [intOf]; omega
            · have q1 : decide (y > 0) = false := decide_eq_false hy0
              have q2 : decide (0 < y) = false := decide_eq_false hy0
              go_wp2_with fail
              go_round
              case rel => exact ⟨j + 1, c, by omega, by omega, by go_num, rfl⟩
              case measure => simp [intOf]; omega
          · obtain rfl : n = j := by omega
            have q1 : decide ((c : Int) > (n : Int)) = false := decide_eq_false (by omega)
            have q2 : decide ((n : Int) < (c : Int)) = false := decide_eq_false (by omega)
            go_wp2_with fail
            clear D2_c D2_f D2_z D2 O2 HV2 HRR HRL q1 q2
            go_loopw [14] (fun gv wr => ∃ g : Nat, g ≤ 3 ∧ gv = .int .i64 g ∧ HostAt 0 B0 wr H2 ∧ Below w.heap.size w wr) (fun gv _ => 3 - (intOf gv).toNat)
            case atStart => exact ⟨0, by omega, rfl, HBK, hbw⟩
            case round =>
              clear HBK hbw
              obtain ⟨g, hg, rfl, HBX, hbw⟩ := hrel
              have HBK := HBX
              by_cases hgt : g < 3
              · obtain ⟨of3, or3, om3, og3, kf3, kr3, km3, kg3, us3, gs3, D3, O3⟩ := HBX
                obtain ⟨n3, hln⟩ : ∃ n, (Pl.F (Ho.P H2)).length = n := ⟨_, rfl⟩
                obtain ⟨r3, hlr⟩ : ∃ n, (Pl.R (Ho.P H2)).length = n := ⟨_, rfl⟩
                obtain ⟨m3, hlm⟩ : ∃ n, (Pl.M (Ho.P H2)).length = n := ⟨_, rfl⟩
                obtain ⟨q3, hlq⟩ : ∃ n, (Ho.G H2).length = n := ⟨_, rfl⟩
                obtain ⟨t3, hlt3⟩ : ∃ n, Ho.t H2 = n := ⟨_, rfl⟩
                obtain ⟨d3, hld⟩ : ∃ n, Ho.d H2 = n := ⟨_, rfl⟩
                obtain ⟨s3, hls⟩ : ∃ n, Ho.n H2 = n := ⟨_, rfl⟩
                rw [hln, hlr, hlm, hlq] at O3 D3
                rw [hlt3, hld, hls] at D3
                have HG3 := Lib.hid (And.intro hln (And.intro hlr (And.intro hlm (And.intro hlq (And.intro hlt3 (And.intro hld hls))))))
                clear hln hlr hlm hlq hlt3 hld hls
                have HV3 : Hid (∀ w' : World, Below (wr).heap.size wr w' → HoAt w' (.agg #[.slice of3 n3 kf3, .slice or3 r3 kr3, .slice om3 m3 km3, .slice og3 q3 kg3, .int .i64 t3, .int .u64 d3, .int .i64 s3]) H2) := Lib.hid (fun w' hb => by
                  have := (O3.below hb).at_
                  rwa [HG3.out.2.2.2.2.1, HG3.out.2.2.2.2.2.1, HG3.out.2.2.2.2.2.2] at this)
                obtain ⟨X, hX⟩ := get_lt (xs := H2.G) (k := g) (by rw [HS2.out.g]; exact hgt)
                have hlm := (HS2.out.ok.gmP hX).lim
                rw [(HS2.out.cl g X hX).2] at hlm
                have RS := fun v w h => hres_ok v H2 g w h HS2.out.ok (by rw [HS2.out.g]; exact hgt)
                have AT := fun w h => at_any va ls g w h (by omega)
                have CL := fun w => claim_any (atI ls g) w
                obtain ⟨cc, hcc⟩ : ∃ c, claimI (atI ls g) = c := ⟨_, rfl⟩
                obtain ⟨ch, hch⟩ : ∃ c, H2.P.chargeN g = c := ⟨_, rfl⟩
                rw [hcc] at CL hlm
                rw [hch] at RS hlm
                have HRS := Lib.hid RS; clear RS
                have HATT := Lib.hid AT; clear AT
                have HCL := Lib.hid CL; clear CL
                clear hX hcc hch
                have q1 : decide ((ch : Int) > cc.l) = false := decide_eq_false (by omega)
                have q2 : decide (cc.l < (ch : Int)) = false := decide_eq_false (by omega)
                have g3 : (g : Int) < 3 := by omega
                have hfl := claim_field1 cc
                obtain ⟨D3_c, D3_f, D3_z⟩ := D3.all
                go_wp2_with fail
                clear D3_c D3_f D3_z
                with_reducible refine (HRS.out _ _ (HV3.out _ (Below.refl _ _))).mono ?_
                rintro e w20 ⟨rfl, hbk⟩
                replace HBK := HBK.below hbk
                replace hbw := hbw.trans (hbk.mono hbw.size)
                clear hbk D3 O3 HV3 HG3
                go_wp2_with fail
                with_reducible refine (HATT.out _ (HA.out.below hbw)).mono ?_
                rintro e w21 ⟨rfl, hbk⟩
                replace HBK := HBK.below hbk
                replace hbw := hbw.trans (hbk.mono hbw.size)
                clear hbk
                go_wp2_with fail
                with_reducible refine (HCL.out _).mono ?_
                rintro e w22 ⟨rfl, hbk⟩
                replace HBK := HBK.below hbk
                replace hbw := hbw.trans (hbk.mono hbw.size)
                clear hbk
                go_wp2_with fail
                go_roundw
                case rel => exact ⟨g + 1, by omega, by go_num, HBK, hbw⟩
                case measure => simp [intOf]; omega
              · obtain rfl : g = 3 := by omega
                go_wp2_with fail
                go_roundw
                case rel => exact ⟨i + 1, H2, by omega, rfl, by go_num, HS2, HBK, hbw⟩
                case measure => simp [intOf]; omega
    · obtain rfl : N = i := by omega
      go_wp2_with fail
      with_reducible refine (awake_any _).mono ?_
      rintro e wz ⟨rfl, hbz⟩
      replace hbw := hbw.trans (hbz.mono hbw.size)
      go_wp2_with fail
      go_ret
      exact Ret.mk hbw
end Go.Proofs.Ytbnngjhnkegliaa
namespace Go.Proofs.Ytbnngjhnkegliaa
open Go.RowKit

set_option maxRecDepth 100000 in
set_option maxHeartbeats 8000000 in
theorem scans_any (fr tx : Int) (va vb : Value) (ls os : List Int) (w : World) (ha : NumRow w va ls) (hb : NumRow w vb os) : Calls Try.prog 6 #[.int .i64 fr, .int .i64 tx, va, vb] w (Ret w (.bool true)) := by
  obtain ⟨bo, cb, rfl, b1, b2, _⟩ := hb.out
  unfold maxLen at b2
  obtain ⟨N, hN⟩ : ∃ N, os.length = N := ⟨_, rfl⟩
  rw [hN] at b1 hb ⊢
  have HN := Lib.hid hN; clear hN
  have HA := Lib.hid ha; clear ha
  have HB0 := Lib.hid hb; clear hb
  go_enter Try.func6, Try.ntmps6
  by_cases c1 : fr < 6
  · have t1 : decide (fr < 6) = true := decide_eq_true c1
    go_wp2_with fail
    with_reducible refine (awake_any _).mono ?_
    rintro e wz ⟨rfl, hbz⟩
    go_wp2_with fail
    go_ret
    exact Ret.mk hbz
  have t1 : decide (fr < 6) = false := decide_eq_false c1
  by_cases c2 : 14 < fr
  · have t2 : decide (fr > 14) = true := decide_eq_true c2
    have t2' : decide (14 < fr) = true := decide_eq_true c2
    go_wp2_with fail
    with_reducible refine (awake_any _).mono ?_
    rintro e wz ⟨rfl, hbz⟩
    go_wp2_with fail
    go_ret
    exact Ret.mk hbz
  have t2 : decide (fr > 14) = false := decide_eq_false c2
  have t2' : decide (14 < fr) = false := decide_eq_false c2
  by_cases c3 : tx < 0
  · have t3 : decide (tx < 0) = true := decide_eq_true c3
    go_wp2_with fail
    with_reducible refine (awake_any _).mono ?_
    rintro e wz ⟨rfl, hbz⟩
    go_wp2_with fail
    go_ret
    exact Ret.mk hbz
  have t3 : decide (tx < 0) = false := decide_eq_false c3
  by_cases c4 : 99 < tx
  · have t4 : decide (tx > 99) = true := decide_eq_true c4
    have t4' : decide (99 < tx) = true := decide_eq_true c4
    go_wp2_with fail
    with_reducible refine (awake_any _).mono ?_
    rintro e wz ⟨rfl, hbz⟩
    go_wp2_with fail
    go_ret
    exact Ret.mk hbz
  have t4 : decide (tx > 99) = false := decide_eq_false c4
  have t4' : decide (99 < tx) = false := decide_eq_false c4
  by_cases c5 : 40 < N
  · have t5 : decide ((N : Int) > 40) = true := decide_eq_true (by omega)
    have t5' : decide ((40 : Int) < (N : Int)) = true := decide_eq_true (by omega)
    have t5'' : decide (40 < N) = true := decide_eq_true c5
    go_wp2_with fail
    with_reducible refine (awake_any _).mono ?_
    rintro e wz ⟨rfl, hbz⟩
    go_wp2_with fail
    go_ret
    exact Ret.mk hbz
  have t5 : decide ((N : Int) > 40) = false := decide_eq_false (by omega)
  have t5' : decide ((40 : Int) < (N : Int)) = false := decide_eq_false (by omega)
  have t5'' : decide (40 < N) = false := decide_eq_false c5
  obtain ⟨n, hn⟩ : ∃ n : Nat, fr = n := ⟨fr.toNat, by omega⟩
  have hn6 : 6 ≤ n ∧ n ≤ 14 := by omega
  subst hn
  have MD := fun w h => made_any n tx va ls w hn6.1 (by omega) (by omega) h
  have hfr := madeH_fresh (n := n) (t := tx) (ls := ls) hn6.1 (by omega) (by omega) 3 (by omega)
  obtain ⟨H0, hH0⟩ : ∃ x, madeH n tx ls 3 = x := ⟨_, rfl⟩
  rw [hH0] at MD hfr
  have HMD := Lib.hid MD; clear MD hH0
  have HFR := Lib.hid hfr; clear hfr
  have hbw : Below w.heap.size w w := Below.refl _ _
  go_wp2_with fail
  with_reducible refine (HMD.out _ HA.out).mono ?_
  rintro e w1 ⟨of0, or0, om0, og0, kf0, kr0, km0, kg0, us0, gs0, rfl, O0, hb1⟩
  replace hbw := hbw.trans hb1
  clear hb1
  obtain ⟨n0, hln⟩ : ∃ n, (Pl.F (Ho.P H0)).length = n := ⟨_, rfl⟩
  obtain ⟨r0, hlr⟩ : ∃ n, (Pl.R (Ho.P H0)).length = n := ⟨_, rfl⟩
  obtain ⟨m0, hlm⟩ : ∃ n, (Pl.M (Ho.P H0)).length = n := ⟨_, rfl⟩
  obtain ⟨q0, hlq⟩ : ∃ n, (Ho.G H0).length = n := ⟨_, rfl⟩
  obtain ⟨t0, hlt0⟩ : ∃ n, Ho.t H0 = n := ⟨_, rfl⟩
  obtain ⟨d0, hld⟩ : ∃ n, Ho.d H0 = n := ⟨_, rfl⟩
  obtain ⟨s0, hls⟩ : ∃ n, Ho.n H0 = n := ⟨_, rfl⟩
  rw [hln, hlr, hlm, hlq] at O0 ⊢
  rw [hlt0, hld, hls]
  have HG0 := Lib.hid (And.intro hln (And.intro hlr (And.intro hlm (And.intro hlq (And.intro hlt0 (And.intro hld hls))))))
  clear hln hlr hlm hlq hlt0 hld hls
  go_upto_region 4 with (fail)
  have HB := HostAt.new (base' := 0) HG0.out O0 (Nat.zero_le _)
  have hz1 := hbw.size
  replace hbw := hbw.alloc hbw.size (.cells #[.slice of0 n0 kf0, .slice or0 r0 kr0, .slice om0 m0 km0, .slice og0 q0 kg0, .int .i64 t0, .int .u64 d0, .int .i64 s0] 31)
  obtain ⟨B0, hB⟩ : ∃ B, w1.heap.size = B := ⟨_, rfl⟩
  rw [hB] at HB hz1 ⊢
  generalize hW : w1.alloc (.cells #[.slice of0 n0 kf0, .slice or0 r0 kr0, .slice om0 m0 km0, .slice og0 q0 kg0, .int .i64 t0, .int .u64 d0, .int .i64 s0] 31) = w2 at HB hbw ⊢
  clear hW hB O0 HG0
  have HSH := Lib.hid HFR.out.shape; clear HFR HMD t1 t2 t2' t3 t4 t4' t5 t5' t5''
  go_wp2_with fail
  go_loopw [10, 11] (fun bv iv wr => ∃ (i : Nat) (H : Ho), i ≤ N ∧ bv = .bool true ∧ iv = .int .i64 i ∧ Hid (HShape n ls H) ∧ HostAt 0 B0 wr H ∧ Below w.heap.size w wr) (fun _ iv _ => N - (intOf iv).toNat)
  case atStart => exact ⟨0, H0, by omega, rfl, rfl, HSH, HB, hbw⟩
  case round =>
    clear HSH HB hbw
    obtain ⟨i, H, hi, rfl, rfl, HSH, HBX, hbw⟩ := hrel
    by_cases hlt : i < N
    · obtain ⟨x, hx⟩ := get_lt (xs := os) (k := i) (by rw [HN.out]; exact hlt)
      obtain ⟨b, off, rfl, hbs, hcx⟩ := EncRow.elem (enc := Value.int .i64) HB0.out hx
      clear hx
      have cx := (hbw.cell (p := ⟨b, off + i, none⟩) hbs).trans hcx
      have hbs2 : b < wr.heap.size := by have := hbw.size; omega
      have i0 : (0 : Int) ≤ (i : Int) := by omega
      have iN : (i : Int) < (N : Int) := by omega
      have ACT := fun v w h => act_any v n ls H x w h HSH.out
      have HACT := Lib.hid ACT; clear ACT
      obtain ⟨of1, or1, om1, og1, kf1, kr1, km1, kg1, us1, gs1, D1, O1⟩ := HBX
      obtain ⟨n1, hln⟩ : ∃ n, (Pl.F (Ho.P H)).length = n := ⟨_, rfl⟩
      obtain ⟨r1, hlr⟩ : ∃ n, (Pl.R (Ho.P H)).length = n := ⟨_, rfl⟩
      obtain ⟨m1, hlm⟩ : ∃ n, (Pl.M (Ho.P H)).length = n := ⟨_, rfl⟩
      obtain ⟨q1, hlq⟩ : ∃ n, (Ho.G H).length = n := ⟨_, rfl⟩
      obtain ⟨t1, hlt1⟩ : ∃ n, Ho.t H = n := ⟨_, rfl⟩
      obtain ⟨d1, hld⟩ : ∃ n, Ho.d H = n := ⟨_, rfl⟩
      obtain ⟨s1, hls⟩ : ∃ n, Ho.n H = n := ⟨_, rfl⟩
      rw [hln, hlr, hlm, hlq] at O1 D1
      rw [hlt1, hld, hls] at D1
      have HG1 := Lib.hid (And.intro hln (And.intro hlr (And.intro hlm (And.intro hlq (And.intro hlt1 (And.intro hld hls))))))
      clear hln hlr hlm hlq hlt1 hld hls
      have HV1 : Hid (∀ w' : World, Below (wr).heap.size wr w' → HoAt w' (.agg #[.slice of1 n1 kf1, .slice or1 r1 kr1, .slice om1 m1 km1, .slice og1 q1 kg1, .int .i64 t1, .int .u64 d1, .int .i64 s1]) H) := Lib.hid (fun w' hb => by
        have := (O1.below hb).at_
        rwa [HG1.out.2.2.2.2.1, HG1.out.2.2.2.2.2.1, HG1.out.2.2.2.2.2.2] at this)
      go_wp2_with fail
      have D1k := D1
      obtain ⟨D1_c, D1_f, D1_z⟩ := D1.all
      have hbz := hbs2
      go_region_law (first
        | (go_simp; go_at_call 19
           with_reducible refine (HACT.out _ _ (HV1.out _ (Below.drew (Below.refl _ _)))).mono ?_
           rintro _ w16 ⟨H2, ga, pa, sa, hact, of16, or16, om16, og16, kf16, kr16, km16, kg16, us16, gs16, rfl, O16, hb16⟩
           obtain ⟨n16, hln⟩ : ∃ n, (Pl.F (Ho.P H2)).length = n := ⟨_, rfl⟩
           obtain ⟨r16, hlr⟩ : ∃ n, (Pl.R (Ho.P H2)).length = n := ⟨_, rfl⟩
           obtain ⟨m16, hlm⟩ : ∃ n, (Pl.M (Ho.P H2)).length = n := ⟨_, rfl⟩
           obtain ⟨q16, hlq⟩ : ∃ n, (Ho.G H2).length = n := ⟨_, rfl⟩
           obtain ⟨t16, hlt16⟩ : ∃ n, Ho.t H2 = n := ⟨_, rfl⟩
           obtain ⟨d16, hld⟩ : ∃ n, Ho.d H2 = n := ⟨_, rfl⟩
           obtain ⟨s16, hls⟩ : ∃ n, Ho.n H2 = n := ⟨_, rfl⟩
           rw [hln, hlr, hlm, hlq] at O16 ⊢
           rw [hlt16, hld, hls]
           have HG16 := Lib.hid (And.intro hln (And.intro hlr (And.intro hlm (And.intro hlq (And.intro hlt16 (And.intro hld hls))))))
           clear hln hlr hlm hlq hlt16 hld hls
           have HACK := Lib.hid (act_kept HSH.out hact).1
           clear hact
           have HB16 : Below wr.heap.size wr w16 := (Below.drew (Below.refl _ wr)).trans hb16
           have E0 := D1k.below HB16
           have O16z := O16.lower (base' := 0) (Nat.zero_le _)
           have hbw16 : Below w.heap.size w w16 := hbw.trans (HB16.mono hbw.size)
           have E0k := E0
           obtain ⟨E0_c, E0_f, E0_z⟩ := E0.all))
      all_goals
        go_wp2_with fail
        go_roundw
        case rel => exact ⟨i + 1, H2, by omega, rfl, by go_num, HACK, HostAt.fill HG16.out E0k O16z, Below.fill7 hbw16 (by omega) _ _ _ _ _ _ _⟩
        case measure => simp [intOf]; omega
    · obtain rfl : N = i := by omega
      clear hlt hi HN HB0 HA
      obtain ⟨h1, h2, h3⟩ := scan_twice HSH.out
      have hk1 := (scan_scanned HSH.out.ok 18).k.ok
      have SC1 := fun v w h => hscan_ok v H 18 w h HSH.out.ok (by omega)
      have SC2 := fun v w h => hscan_ok v (H.scan 18) 18 w h hk1 (by omega)
      obtain ⟨X, hX⟩ : ∃ X, (H.scan 18).scan 18 = X := ⟨_, rfl⟩
      rw [hX] at h1 h2 h3 SC2
      obtain ⟨K1, hK⟩ : ∃ X, H.scan 18 = X := ⟨_, rfl⟩
      rw [hK] at SC1 SC2
      have HX := Lib.hid h1
      have HSC := Lib.hid h2
      have HLA := Lib.hid h3
      have HSC1 := Lib.hid SC1
      have HSC2 := Lib.hid SC2
      clear h1 h2 h3 hX hK hk1 SC1 SC2
      obtain ⟨of1, or1, om1, og1, kf1, kr1, km1, kg1, us1, gs1, D1, O1⟩ := HBX
      obtain ⟨n1, hln⟩ : ∃ n, (Pl.F (Ho.P H)).length = n := ⟨_, rfl⟩
      obtain ⟨r1, hlr⟩ : ∃ n, (Pl.R (Ho.P H)).length = n := ⟨_, rfl⟩
      obtain ⟨m1, hlm⟩ : ∃ n, (Pl.M (Ho.P H)).length = n := ⟨_, rfl⟩
      obtain ⟨q1, hlq⟩ : ∃ n, (Ho.G H).length = n := ⟨_, rfl⟩
      obtain ⟨t1, hlt1⟩ : ∃ n, Ho.t H = n := ⟨_, rfl⟩
      obtain ⟨d1, hld⟩ : ∃ n, Ho.d H = n := ⟨_, rfl⟩
      obtain ⟨s1, hls⟩ : ∃ n, Ho.n H = n := ⟨_, rfl⟩
      rw [hln, hlr, hlm, hlq] at O1 D1
      rw [hlt1, hld, hls] at D1
      have HG1 := Lib.hid (And.intro hln (And.intro hlr (And.intro hlm (And.intro hlq (And.intro hlt1 (And.intro hld hls))))))
      clear hln hlr hlm hlq hlt1 hld hls
      have HV1 : Hid (∀ w' : World, Below (wr).heap.size wr w' → HoAt w' (.agg #[.slice of1 n1 kf1, .slice or1 r1 kr1, .slice om1 m1 km1, .slice og1 q1 kg1, .int .i64 t1, .int .u64 d1, .int .i64 s1]) H) := Lib.hid (fun w' hb => by
        have := (O1.below hb).at_
        rwa [HG1.out.2.2.2.2.1, HG1.out.2.2.2.2.2.1, HG1.out.2.2.2.2.2.2] at this)
      have hq3 : q1 = 3 := by rw [← HG1.out.2.2.2.1]; exact HSH.out.g
      have hm3 : m1 = 3 := by rw [← HG1.out.2.2.1, ← HSH.out.ok.m]; exact HSH.out.g
      rw [hq3, hm3] at D1 O1 HV1 HG1
      clear hq3 hm3
      obtain ⟨D1_c, D1_f, D1_z⟩ := D1.all
      go_wp2_with fail
      clear D1_c D1_f D1_z
      with_reducible refine (HSC1.out _ _ (HV1.out _ (Below.refl _ _))).mono ?_
      rintro e w3 ⟨of3, or3, om3, og3, kf3, kr3, km3, kg3, us3, gs3, rfl, O3, hb3⟩
      obtain ⟨n3, hln⟩ : ∃ n, (Pl.F (Ho.P K1)).length = n := ⟨_, rfl⟩
      obtain ⟨r3, hlr⟩ : ∃ n, (Pl.R (Ho.P K1)).length = n := ⟨_, rfl⟩
      obtain ⟨m3, hlm⟩ : ∃ n, (Pl.M (Ho.P K1)).length = n := ⟨_, rfl⟩
      obtain ⟨q3, hlq⟩ : ∃ n, (Ho.G K1).length = n := ⟨_, rfl⟩
      obtain ⟨t3, hlt3⟩ : ∃ n, Ho.t K1 = n := ⟨_, rfl⟩
      obtain ⟨d3, hld⟩ : ∃ n, Ho.d K1 = n := ⟨_, rfl⟩
      obtain ⟨s3, hls⟩ : ∃ n, Ho.n K1 = n := ⟨_, rfl⟩
      rw [hln, hlr, hlm, hlq] at O3 ⊢
      rw [hlt3, hld, hls]
      have HG3 := Lib.hid (And.intro hln (And.intro hlr (And.intro hlm (And.intro hlq (And.intro hlt3 (And.intro hld hls))))))
      clear hln hlr hlm hlq hlt3 hld hls
      replace D1 := D1.below hb3
      replace O1 := O1.below hb3
      replace hbw := hbw.trans (hb3.mono hbw.size)
      have HK := Lib.hid O3.row.at_
      clear hb3 HSC1 O3
      rw [HG3.out.2.2.2.2.1, HG3.out.2.2.2.2.2.1, HG3.out.2.2.2.2.2.2] at HK
      go_wp2_with fail
      with_reducible refine (HSC2.out _ _ HK.out).mono ?_
      rintro e w4 ⟨of4, or4, om4, og4, kf4, kr4, km4, kg4, us4, gs4, rfl, O4, hb4⟩
      obtain ⟨n4, hln⟩ : ∃ n, (Pl.F (Ho.P X)).length = n := ⟨_, rfl⟩
      obtain ⟨r4, hlr⟩ : ∃ n, (Pl.R (Ho.P X)).length = n := ⟨_, rfl⟩
      obtain ⟨m4, hlm⟩ : ∃ n, (Pl.M (Ho.P X)).length = n := ⟨_, rfl⟩
      obtain ⟨q4, hlq⟩ : ∃ n, (Ho.G X).length = n := ⟨_, rfl⟩
      obtain ⟨t4, hlt4⟩ : ∃ n, Ho.t X = n := ⟨_, rfl⟩
      obtain ⟨d4, hld⟩ : ∃ n, Ho.d X = n := ⟨_, rfl⟩
      obtain ⟨s4, hls⟩ : ∃ n, Ho.n X = n := ⟨_, rfl⟩
      rw [hln, hlr, hlm, hlq] at O4 ⊢
      rw [hlt4, hld, hls]
      have HG4 := Lib.hid (And.intro hln (And.intro hlr (And.intro hlm (And.intro hlq (And.intro hlt4 (And.intro hld hls))))))
      clear hln hlr hlm hlq hlt4 hld hls
      replace D1 := D1.below hb4
      replace O1 := O1.below hb4
      replace O4 := O4.lower (base' := 0) (Nat.zero_le _)
      replace hbw := hbw.trans (hb4.mono hbw.size)
      clear hb4 HSC2 HK HG3 HV1
      go_upto_region 9 with (fail)
      have D4 := HasBlock.made w4 #[.slice of4 n4 kf4, .slice or4 r4 kr4, .slice om4 m4 km4, .slice og4 q4 kg4, .int .i64 t4, .int .u64 d4, .int .i64 s4] 31
      have hax : Below w4.heap.size w4 (w4.alloc (.cells #[.slice of4 n4 kf4, .slice or4 r4 kr4, .slice om4 m4 km4, .slice og4 q4 kg4, .int .i64 t4, .int .u64 d4, .int .i64 s4] 31)) := (Below.refl _ _).alloc (Nat.le_refl _) _
      replace O4 := O4.below hax
      (replace D1 := D1.below hax; replace O1 := O1.below hax)
      replace hbw := hbw.trans (hax.mono hbw.size)
      clear hax
      generalize hW : w4.alloc (.cells #[.slice of4 n4 kf4, .slice or4 r4 kr4, .slice om4 m4 km4, .slice og4 q4 kg4, .int .i64 t4, .int .u64 d4, .int .i64 s4] 31) = w5 at *
      obtain ⟨BX, hB⟩ : ∃ B, w4.heap.size = B := ⟨_, rfl⟩
      rw [hB] at D4 ⊢
      clear hB hW
      have HBh : HostAt 0 B0 w5 H := HostAt.mk HG1.out.1 HG1.out.2.1 HG1.out.2.2.1 HG1.out.2.2.2.1 HG1.out.2.2.2.2.1 HG1.out.2.2.2.2.2.1 HG1.out.2.2.2.2.2.2 D1 O1
      have HBx : HostAt 0 BX w5 X := HostAt.mk HG4.out.1 HG4.out.2.1 HG4.out.2.2.1 HG4.out.2.2.2.1 HG4.out.2.2.2.2.1 HG4.out.2.2.2.2.2.1 HG4.out.2.2.2.2.2.2 D4 O4
      clear D1 O1 D4 O4 HG1 HG4
      have HBh' := HBh
      have HBx' := HBx
      obtain ⟨of5, or5, om5, og5, kf5, kr5, km5, kg5, us5, gs5, D5, O5⟩ := HBh'
      obtain ⟨n5, hln⟩ : ∃ n, (Pl.F (Ho.P H)).length = n := ⟨_, rfl⟩
      obtain ⟨r5, hlr⟩ : ∃ n, (Pl.R (Ho.P H)).length = n := ⟨_, rfl⟩
      obtain ⟨m5, hlm⟩ : ∃ n, (Pl.M (Ho.P H)).length = n := ⟨_, rfl⟩
      obtain ⟨q5, hlq⟩ : ∃ n, (Ho.G H).length = n := ⟨_, rfl⟩
      obtain ⟨t5, hlt5⟩ : ∃ n, Ho.t H = n := ⟨_, rfl⟩
      obtain ⟨d5, hld⟩ : ∃ n, Ho.d H = n := ⟨_, rfl⟩
      obtain ⟨s5, hls⟩ : ∃ n, Ho.n H = n := ⟨_, rfl⟩
      rw [hln, hlr, hlm, hlq] at O5 D5
      rw [hlt5, hld, hls] at D5
      have HG5 := Lib.hid (And.intro hln (And.intro hlr (And.intro hlm (And.intro hlq (And.intro hlt5 (And.intro hld hls))))))
      clear hln hlr hlm hlq hlt5 hld hls
      have HV5 : Hid (∀ w' : World, Below (w5).heap.size w5 w' → HoAt w' (.agg #[.slice of5 n5 kf5, .slice or5 r5 kr5, .slice om5 m5 km5, .slice og5 q5 kg5, .int .i64 t5, .int .u64 d5, .int .i64 s5]) H) := Lib.hid (fun w' hb => by
        have := (O5.below hb).at_
        rwa [HG5.out.2.2.2.2.1, HG5.out.2.2.2.2.2.1, HG5.out.2.2.2.2.2.2] at this)
      have hq3 : q5 = 3 := by rw [← HG5.out.2.2.2.1]; exact HSH.out.g
      have hm3 : m5 = 3 := by rw [← HG5.out.2.2.1, ← HSH.out.ok.m]; exact HSH.out.g
      rw [hq3, hm3] at D5 O5 HV5 HG5
      clear hq3 hm3
      obtain ⟨of6, or6, om6, og6, kf6, kr6, km6, kg6, us6, gs6, D6, O6⟩ := HBx'
      obtain ⟨n6, hln⟩ : ∃ n, (Pl.F (Ho.P X)).length = n := ⟨_, rfl⟩
      obtain ⟨r6, hlr⟩ : ∃ n, (Pl.R (Ho.P X)).length = n := ⟨_, rfl⟩
      obtain ⟨m6, hlm⟩ : ∃ n, (Pl.M (Ho.P X)).length = n := ⟨_, rfl⟩
      obtain ⟨q6, hlq⟩ : ∃ n, (Ho.G X).length = n := ⟨_, rfl⟩
      obtain ⟨t6, hlt6⟩ : ∃ n, Ho.t X = n := ⟨_, rfl⟩
      obtain ⟨d6, hld⟩ : ∃ n, Ho.d X = n := ⟨_, rfl⟩
      obtain ⟨s6, hls⟩ : ∃ n, Ho.n X = n := ⟨_, rfl⟩
      rw [hln, hlr, hlm, hlq] at O6 D6
      rw [hlt6, hld, hls] at D6
      have HG6 := Lib.hid (And.intro hln (And.intro hlr (And.intro hlm (And.intro hlq (And.intro hlt6 (And.intro hld hls))))))
      clear hln hlr hlm hlq hlt6 hld hls
      have HV6 : Hid (∀ w' : World, Below (w5).heap.size w5 w' → HoAt w' (.agg #[.slice of6 n6 kf6, .slice or6 r6 kr6, .slice om6 m6 km6, .slice og6 q6 kg6, .int .i64 t6, .int .u64 d6, .int .i64 s6]) X) := Lib.hid (fun w' hb => by
        have := (O6.below hb).at_
        rwa [HG6.out.2.2.2.2.1, HG6.out.2.2.2.2.2.1, HG6.out.2.2.2.2.2.2] at this)
      have hq3 : q6 = 3 := by rw [← HG6.out.2.2.2.1]; exact HX.out.g
      have hm3 : m6 = 3 := by rw [← HG6.out.2.2.1, ← HX.out.ok.m]; exact HX.out.g
      rw [hq3, hm3] at D6 O6 HV6 HG6
      clear hq3 hm3
      have VL := fun v w h => hvalid_ok v X w h HX.out.ok
      have HVL := Lib.hid VL; clear VL
      obtain ⟨D5_c, D5_f, D5_z⟩ := D5.all
      obtain ⟨D6_c, D6_f, D6_z⟩ := D6.all
      go_wp2_with fail
      clear D5_c D5_f D5_z
      clear D6_c D6_f D6_z
      with_reducible refine (HVL.out _ _ (HV6.out _ (Below.refl _ _))).mono ?_
      rintro e wS ⟨rfl, hbk⟩
      replace D5 := D5.below hbk
      replace D6 := D6.below hbk
      replace HBh := HBh.below hbk
      replace HBx := HBx.below hbk
      replace hbw := hbw.trans (hbk.mono hbw.size)
      clear hbk HVL HV5 HV6 O5 O6 HG5 HG6
      obtain ⟨D5_c, D5_f, D5_z⟩ := D5.all
      obtain ⟨D6_c, D6_f, D6_z⟩ := D6.all
      go_wp2_with fail
      clear D5_c D5_f D5_z D6_c D6_f D6_z D5 D6
      obtain ⟨i0, hi, iz0, iz1, iz2⟩ := info_parts info_str
      go_loopw [13, 14] (fun sv iv wr => ∃ (g : Nat) (S : List ByteArray), g ≤ 3 ∧ iv = .int .i64 g ∧ Hid (Seen X.P (before6 g 0) S ∧ S.length ≤ g * 6) ∧ OwnStr wS.heap.size wr sv S ∧ Below wS.heap.size wS wr) (fun _ iv _ => 3 - (intOf iv).toNat)
      case atStart => exact ⟨0, [], by omega, rfl, ⟨Seen.nil X.P (fun a b h => by have := h.2; omega), by simp⟩, World.ownsRow_nil _ _ _ _, Below.refl _ _⟩
      case round =>
        obtain ⟨g, S, hg, rfl, HS, HV, hbs⟩ := hrel
        by_cases hgt : g < 3
        · have g0 : (0 : Int) ≤ (g : Int) := by omega
          have g2 : (g : Int) < 3 := by omega
          have HBy := HBh.below hbs
          have HBz := HBx.below hbs
          obtain ⟨G, hG⟩ := get_lt (xs := H.G) (k := g) (by rw [HSH.out.g]; exact hgt)
          have hGx : X.G[g]? = some G := by rw [HSC.out.g]; exact hG
          have RA := fun v w h => hres_ok v H g w h HSH.out.ok (by rw [HSH.out.g]; exact hgt)
          have RB := fun v w h => hres_ok v X g w h HX.out.ok (by rw [HX.out.g]; exact hgt)
          have SA := fun v w h => hswap_ok v H g G w h HSH.out.ok hG
          have SB := fun v w h => hswap_ok v X g G w h HX.out.ok hGx
          rw [HSC.out.c] at RB
          obtain ⟨ch, hch'⟩ : ∃ c, H.P.chargeN g = c := ⟨_, rfl⟩
          rw [hch'] at RA RB
          obtain ⟨sn, hsn⟩ : ∃ c, G.swapped = c := ⟨_, rfl⟩
          rw [hsn] at SA SB
          have HRA := Lib.hid RA; clear RA
          have HRB := Lib.hid RB; clear RB
          have HSA := Lib.hid SA; clear SA
          have HSB := Lib.hid SB; clear SB
          clear hch' hsn hG hGx
          obtain ⟨of1, or1, om1, og1, kf1, kr1, km1, kg1, us1, gs1, D1, O1⟩ := HBy
          obtain ⟨n1, hln⟩ : ∃ n, (Pl.F (Ho.P H)).length = n := ⟨_, rfl⟩
          obtain ⟨r1, hlr⟩ : ∃ n, (Pl.R (Ho.P H)).length = n := ⟨_, rfl⟩
          obtain ⟨m1, hlm⟩ : ∃ n, (Pl.M (Ho.P H)).length = n := ⟨_, rfl⟩
          obtain ⟨q1, hlq⟩ : ∃ n, (Ho.G H).length = n := ⟨_, rfl⟩
          obtain ⟨t1, hlt1⟩ : ∃ n, Ho.t H = n := ⟨_, rfl⟩
          obtain ⟨d1, hld⟩ : ∃ n, Ho.d H = n := ⟨_, rfl⟩
          obtain ⟨s1, hls⟩ : ∃ n, Ho.n H = n := ⟨_, rfl⟩
          rw [hln, hlr, hlm, hlq] at O1 D1
          rw [hlt1, hld, hls] at D1
          have HG1 := Lib.hid (And.intro hln (And.intro hlr (And.intro hlm (And.intro hlq (And.intro hlt1 (And.intro hld hls))))))
          clear hln hlr hlm hlq hlt1 hld hls
          have HV1 : Hid (∀ w' : World, Below (wr).heap.size wr w' → HoAt w' (.agg #[.slice of1 n1 kf1, .slice or1 r1 kr1, .slice om1 m1 km1, .slice og1 q1 kg1, .int .i64 t1, .int .u64 d1, .int .i64 s1]) H) := Lib.hid (fun w' hb => by
            have := (O1.below hb).at_
            rwa [HG1.out.2.2.2.2.1, HG1.out.2.2.2.2.2.1, HG1.out.2.2.2.2.2.2] at this)
          have hq3 : q1 = 3 := by rw [← HG1.out.2.2.2.1]; exact HSH.out.g
          have hm3 : m1 = 3 := by rw [← HG1.out.2.2.1, ← HSH.out.ok.m]; exact HSH.out.g
          rw [hq3, hm3] at D1 O1 HV1 HG1
          clear hq3 hm3
          obtain ⟨of4, or4, om4, og4, kf4, kr4, km4, kg4, us4, gs4, D4, O4⟩ := HBz
          obtain ⟨n4, hln⟩ : ∃ n, (Pl.F (Ho.P X)).length = n := ⟨_, rfl⟩
          obtain ⟨r4, hlr⟩ : ∃ n, (Pl.R (Ho.P X)).length = n := ⟨_, rfl⟩
          obtain ⟨m4, hlm⟩ : ∃ n, (Pl.M (Ho.P X)).length = n := ⟨_, rfl⟩
          obtain ⟨q4, hlq⟩ : ∃ n, (Ho.G X).length = n := ⟨_, rfl⟩
          obtain ⟨t4, hlt4⟩ : ∃ n, Ho.t X = n := ⟨_, rfl⟩
          obtain ⟨d4, hld⟩ : ∃ n, Ho.d X = n := ⟨_, rfl⟩
          obtain ⟨s4, hls⟩ : ∃ n, Ho.n X = n := ⟨_, rfl⟩
          rw [hln, hlr, hlm, hlq] at O4 D4
          rw [hlt4, hld, hls] at D4
          have HG4 := Lib.hid (And.intro hln (And.intro hlr (And.intro hlm (And.intro hlq (And.intro hlt4 (And.intro hld hls))))))
          clear hln hlr hlm hlq hlt4 hld hls
          have HV4 : Hid (∀ w' : World, Below (wr).heap.size wr w' → HoAt w' (.agg #[.slice of4 n4 kf4, .slice or4 r4 kr4, .slice om4 m4 km4, .slice og4 q4 kg4, .int .i64 t4, .int .u64 d4, .int .i64 s4]) X) := Lib.hid (fun w' hb => by
            have := (O4.below hb).at_
            rwa [HG4.out.2.2.2.2.1, HG4.out.2.2.2.2.2.1, HG4.out.2.2.2.2.2.2] at this)
          have hq3 : q4 = 3 := by rw [← HG4.out.2.2.2.1]; exact HX.out.g
          have hm3 : m4 = 3 := by rw [← HG4.out.2.2.1, ← HX.out.ok.m]; exact HX.out.g
          rw [hq3, hm3] at D4 O4 HV4 HG4
          clear hq3 hm3
          obtain ⟨lh, hlh⟩ := get_lt (xs := H.P.M) (k := g) (by rw [← HSH.out.ok.m, HSH.out.g]; exact hgt)
          obtain ⟨lx, hlx⟩ := get_lt (xs := X.P.M) (k := g) (by rw [← HX.out.ok.m, HX.out.g]; exact hgt)
          have hl6 : lh.length = 6 := by have := HSH.out.pg g hgt; rwa [Pl.pages_eq hlh] at this
          have hx6 : lx.length = 6 := by have := HX.out.pg g hgt; rwa [Pl.pages_eq hlx] at this
          obtain ⟨mb, moff, lo, lc, rfl, hmb, cm, -, -, -⟩ := O1.row.p.guest hlh
          obtain ⟨xb, xoff, xo, xc, rfl, hxb, cmx, -, -, -⟩ := O4.row.p.guest hlx
          rw [hl6] at cm
          rw [hx6] at cmx
          clear hlh hlx hl6 hx6 lh lx
          have ech : ((ch : Int) != (ch : Int)) = false := by simp
          have esn : ((sn : Int) != (sn : Int)) = false := by simp
          obtain ⟨D1_c, D1_f, D1_z⟩ := D1.all
          obtain ⟨D4_c, D4_f, D4_z⟩ := D4.all
          go_wp2_with fail
          refine wp_region_quiet_below (by kernel_rfl) (by kernel_rfl) ?_
          repeat (go_big_quiet_step (first | fail | (first | (go_at_call 18; first | with_reducible exact quiet_ret (HRA.out _ _ (HV1.out _ (below_regrown _ _ _))) | with_reducible exact quiet_ret (HRB.out _ _ (HV4.out _ (below_regrown _ _ _)))) | (go_at_call 17; first | with_reducible exact quiet_ret (HSA.out _ _ (HV1.out _ (below_regrown _ _ _))) | with_reducible exact quiet_ret (HSB.out _ _ (HV4.out _ (below_regrown _ _ _)))))))
          refine wpQuiet_nil ?_
          intro w5 hw5
          have hb5 := below_of_regrown hw5
          clear hw5
          obtain ⟨hc5, hf5⟩ := bcell hb5
          have hz5 := bsize hb5
          try simp only [sizes1] at hz5
          try simp only [sizes] at hc5 hf5
          clear hc5 hf5 hz5 D1_c D1_f D1_z D4_c D4_f D4_z
          replace HV := HV.below hb5
          replace hbs := hbs.trans (hb5.mono hbs.size)
          clear hb5 D1 D4 O1 O4 HV1 HV4 HG1 HG4 HRA HRB HSA HSB cm cmx hmb hxb
          go_wp2_with fail
          go_loopw [13, 15] (fun sv iv wr => ∃ (k : Nat) (S : List ByteArray), k ≤ 6 ∧ iv = .int .i64 k ∧ Hid (Seen X.P (before6 g k) S ∧ S.length ≤ g * 6 + k) ∧ OwnStr wS.heap.size wr sv S ∧ Below wS.heap.size wS wr) (fun _ iv _ => 6 - (intOf iv).toNat)
          case atStart => exact ⟨0, S, by omega, rfl, HS, HV, hbs⟩
          case round =>
            clear HV hbs HS
            obtain ⟨k, S, hk, rfl, HS, HV, hbs⟩ := hrel
            by_cases hkt : k < 6
            · have k0 : (0 : Int) ≤ (k : Int) := by omega
              have k6 : (k : Int) < 6 := by omega
              have HBy := HBh.below hbs
              have HBz := HBx.below hbs
              obtain ⟨of7, or7, om7, og7, kf7, kr7, km7, kg7, us7, gs7, D7, O7⟩ := HBy
              obtain ⟨n7, hln⟩ : ∃ n, (Pl.F (Ho.P H)).length = n := ⟨_, rfl⟩
              obtain ⟨r7, hlr⟩ : ∃ n, (Pl.R (Ho.P H)).length = n := ⟨_, rfl⟩
              obtain ⟨m7, hlm⟩ : ∃ n, (Pl.M (Ho.P H)).length = n := ⟨_, rfl⟩
              obtain ⟨q7, hlq⟩ : ∃ n, (Ho.G H).length = n := ⟨_, rfl⟩
              obtain ⟨t7, hlt7⟩ : ∃ n, Ho.t H = n := ⟨_, rfl⟩
              obtain ⟨d7, hld⟩ : ∃ n, Ho.d H = n := ⟨_, rfl⟩
              obtain ⟨s7, hls⟩ : ∃ n, Ho.n H = n := ⟨_, rfl⟩
              rw [hln, hlr, hlm, hlq] at O7 D7
              rw [hlt7, hld, hls] at D7
              have HG7 := Lib.hid (And.intro hln (And.intro hlr (And.intro hlm (And.intro hlq (And.intro hlt7 (And.intro hld hls))))))
              clear hln hlr hlm hlq hlt7 hld hls
              have HV7 : Hid (∀ w' : World, Below (wr).heap.size wr w' → HoAt w' (.agg #[.slice of7 n7 kf7, .slice or7 r7 kr7, .slice om7 m7 km7, .slice og7 q7 kg7, .int .i64 t7, .int .u64 d7, .int .i64 s7]) H) := Lib.hid (fun w' hb => by
                have := (O7.below hb).at_
                rwa [HG7.out.2.2.2.2.1, HG7.out.2.2.2.2.2.1, HG7.out.2.2.2.2.2.2] at this)
              have hq3 : q7 = 3 := by rw [← HG7.out.2.2.2.1]; exact HSH.out.g
              have hm3 : m7 = 3 := by rw [← HG7.out.2.2.1, ← HSH.out.ok.m]; exact HSH.out.g
              rw [hq3, hm3] at D7 O7 HV7 HG7
              clear hq3 hm3
              obtain ⟨of8, or8, om8, og8, kf8, kr8, km8, kg8, us8, gs8, D8, O8⟩ := HBz
              obtain ⟨n8, hln⟩ : ∃ n, (Pl.F (Ho.P X)).length = n := ⟨_, rfl⟩
              obtain ⟨r8, hlr⟩ : ∃ n, (Pl.R (Ho.P X)).length = n := ⟨_, rfl⟩
              obtain ⟨m8, hlm⟩ : ∃ n, (Pl.M (Ho.P X)).length = n := ⟨_, rfl⟩
              obtain ⟨q8, hlq⟩ : ∃ n, (Ho.G X).length = n := ⟨_, rfl⟩
              obtain ⟨t8, hlt8⟩ : ∃ n, Ho.t X = n := ⟨_, rfl⟩
              obtain ⟨d8, hld⟩ : ∃ n, Ho.d X = n := ⟨_, rfl⟩
              obtain ⟨s8, hls⟩ : ∃ n, Ho.n X = n := ⟨_, rfl⟩
              rw [hln, hlr, hlm, hlq] at O8 D8
              rw [hlt8, hld, hls] at D8
              have HG8 := Lib.hid (And.intro hln (And.intro hlr (And.intro hlm (And.intro hlq (And.intro hlt8 (And.intro hld hls))))))
              clear hln hlr hlm hlq hlt8 hld hls
              have HV8 : Hid (∀ w' : World, Below (wr).heap.size wr w' → HoAt w' (.agg #[.slice of8 n8 kf8, .slice or8 r8 kr8, .slice om8 m8 km8, .slice og8 q8 kg8, .int .i64 t8, .int .u64 d8, .int .i64 s8]) X) := Lib.hid (fun w' hb => by
                have := (O8.below hb).at_
                rwa [HG8.out.2.2.2.2.1, HG8.out.2.2.2.2.2.1, HG8.out.2.2.2.2.2.2] at this)
              have hq3 : q8 = 3 := by rw [← HG8.out.2.2.2.1]; exact HX.out.g
              have hm3 : m8 = 3 := by rw [← HG8.out.2.2.1, ← HX.out.ok.m]; exact HX.out.g
              rw [hq3, hm3] at D8 O8 HV8 HG8
              clear hq3 hm3
              have hat := (HSH.out.at_ g k).2 ⟨hgt, hkt⟩
              have hatx := (HX.out.at_ g k).2 ⟨hgt, hkt⟩
              obtain ⟨lh, fh, hlh, hfh⟩ := id hat
              obtain ⟨lx, fx, hlx, hfx⟩ := id hatx
              have efh := Pl.fr_eq hlh hfh
              have efx := Pl.fr_eq hlx hfx
              have hl6 : lh.length = 6 := by have := HSH.out.pg g hgt; rwa [Pl.pages_eq hlh] at this
              have hx6 : lx.length = 6 := by have := HX.out.pg g hgt; rwa [Pl.pages_eq hlx] at this
              obtain ⟨mb, km', fb, lc, e0, hus, cm, cf, _, _, hmb, _, hfb, _⟩ := O7.p.page hlh hfh
              injection e0 with e0 e9 e10
              subst e0 e10
              clear e9 hus
              obtain ⟨xb, kx', yb, xc, e0, hus, cmx, cfx, _, _, hxb, _, hyb, _⟩ := O8.p.page hlx hfx
              injection e0 with e0 e9 e10
              subst e0 e10
              clear e9 hus
              rw [hl6] at cm
              rw [hx6] at cmx
              have hfr : 0 ≤ fx ↔ 0 ≤ fh := by rw [← efh, ← efx]; exact HSC.out.s g k
              have hst : fx < 0 → Seen X.P (before6 g (k + 1)) S := fun h => HS.out.1.stay (before6_succ hkt) (.inl (by rw [efx]; exact h))
              have hfrm : 0 ≤ fh → ∃ v v' : Nat, fh = v ∧ fx = v' ∧ v < H.P.F.length ∧ v' < X.P.F.length ∧ H.P.F[v]? = some (X.P.text g k) ∧ X.P.F[v']? = some (X.P.text g k) ∧ X.P.text g k ≠ zeros128 := fun h0 => by
                obtain ⟨v, e1, e2, e3⟩ := Pl.text_frame HSH.out.ok.p hat (by rw [efh]; exact h0)
                obtain ⟨v', e4, e5, e6⟩ := Pl.text_frame HX.out.ok.p hatx (by rw [efx]; exact hfr.2 h0)
                refine ⟨v, v', by rw [← efh]; exact e1, by rw [← efx]; exact e4, e2, e5, by rw [HSC.out.pt g k hat]; exact e3, e6, fun e => ?_⟩
                have := (Pl.zero_text HX.out.ok.p hatx).1 e
                rw [efx] at this
                have := hfr.2 h0
                omega
              have hpu : 0 ≤ fx → X.P.text g k ∉ S → Seen X.P (before6 g (k + 1)) (S ++ [X.P.text g k]) := fun h1 h2 => HS.out.1.push hatx (before6_succ hkt) (by rw [efx]; exact h1) h2
              have hme : X.P.text g k ∈ S → Seen X.P (before6 g (k + 1)) S := fun h => HS.out.1.stay (before6_succ hkt) (.inr h)
              have hSl := HS.out.2
              obtain ⟨n', hn'⟩ : ∃ n, S.length = n := ⟨_, rfl⟩
              rw [hn'] at hSl
              obtain ⟨so, sc, rfl, s1, s2⟩ := HV.formN hn'
              have HSN := Lib.hid hn'
              clear hat hatx hlh hlx hfh hfx efh efx hl6 hx6 HS hn'
              have hbr : Below wr.heap.size wr wr := Below.refl _ _
              obtain ⟨D7_c, D7_f, D7_z⟩ := D7.all
              obtain ⟨D8_c, D8_f, D8_z⟩ := D8.all
              go_wp2_with fail
              refine wp_region_quiet_below (by kernel_rfl) (by kernel_rfl) ?_
              repeat (go_big_quiet_step (first | fail | fail))
              refine wpQuiet_nil ?_
              intro w5 hw5
              have hb5 := below_of_regrown hw5
              clear hw5
              obtain ⟨hc5, hf5⟩ := bcell hb5
              have hz5 := bsize hb5
              try simp only [sizes1] at hz5
              try simp only [sizes] at hc5 hf5
              clear D7_c D7_f D7_z
              clear D8_c D8_f D8_z
              clear hc5 hf5 hz5 cm cf cmx cfx hmb hfb hxb hyb hbr
              replace D7 := D7.below hb5
              replace D8 := D8.below hb5
              replace O7 := O7.below hb5
              replace O8 := O8.below hb5
              replace HV := HV.below hb5
              replace hbs := hbs.trans (hb5.mono hbs.size)
              clear hb5
              by_cases h0 : 0 ≤ fh
              · obtain ⟨v, v', rfl, rfl, hv, hv', hF, hFx, htz⟩ := hfrm h0
                have hpu2 := hpu (by omega)
                obtain ⟨t, ht⟩ : ∃ t, X.P.text g k = t := ⟨_, rfl⟩
                rw [ht] at hF hFx htz hpu2 hme
                have HPU := Lib.hid hpu2
                have HME := Lib.hid hme
                have HTZ := Lib.hid htz
                clear hst hfrm hpu hpu2 hme hfr h0 ht htz
                obtain ⟨f1, fo1, e1, hf1, cF⟩ := O7.row.p.parts.1.elem hF
                obtain ⟨f2, fo2, e2, hf2, cFx⟩ := O8.row.p.parts.1.elem hFx
                subst e1 e2
                rw [HG7.out.1] at hv
                rw [HG8.out.1] at hv'
                have v0 : (0 : Int) ≤ (v : Int) := by omega
                have v1 : (v : Int) < (n7 : Int) := by omega
                have v0' : (0 : Int) ≤ (v' : Int) := by omega
                have v1' : (v' : Int) < (n8 : Int) := by omega
                have v2 : decide ((v : Int) < 0) = false := decide_eq_false (by omega)
                have v2' : decide ((v' : Int) < 0) = false := decide_eq_false (by omega)
                have v3 : decide ((v : Int) ≥ 0) = true := decide_eq_true (by omega)
                have v3' : decide ((0 : Int) ≤ (v : Int)) = true := decide_eq_true (by omega)
                have eT : (t.toList != t.toList) = false := by simp
                obtain ⟨D7_c, D7_f, D7_z⟩ := D7.all
                obtain ⟨D8_c, D8_f, D8_z⟩ := D8.all
                go_wp2_with fail
                refine wp_region_quiet_below (by kernel_rfl) (by kernel_rfl) ?_
                repeat (go_big_quiet_step (first | fail | fail))
                refine wpQuiet_nil ?_
                intro w6 hw6
                have hb6 := below_of_regrown hw6
                clear hw6
                obtain ⟨hc6, hf6⟩ := bcell hb6
                have hz6 := bsize hb6
                try simp only [sizes1] at hz6
                try simp only [sizes] at hc6 hf6
                clear D7_c D7_f D7_z
                clear D8_c D8_f D8_z
                clear hc6 hf6 hz6 D7 O7 HV7 HG7 cF hf1 eT
                replace cFx := (hb6.cell (p := ⟨f2, fo2 + v', none⟩) hf2).trans cFx
                replace hf2 := Nat.lt_of_lt_of_le hf2 hb6.size
                replace D8 := D8.below hb6
                replace HV := HV.below hb6
                replace hbs := hbs.trans (hb6.mono hbs.size)
                clear hb6
                go_wp2_with fail
                obtain ⟨zz, hzz⟩ : ∃ z, zeros128 = z := ⟨_, rfl⟩
                rw [hzz] at HTZ
                clear hzz
                go_loopw [18, 19] (fun mv iv wx => ∃ (j : Nat) (m : Bool), j ≤ n' ∧ mv = .bool m ∧ iv = .int .i64 j ∧ Hid (MetTo m t zz S j) ∧ Below w6.heap.size w6 wx) (fun _ iv _ => n' - (intOf iv).toNat)
                case atStart => exact ⟨0, false, by omega, rfl, rfl, (by have := MetTo.zero t zz S; rwa [decide_eq_false HTZ.out] at this), Below.refl _ _⟩
                case round =>
                  obtain ⟨j, m, hj, rfl, rfl, HMT, hbq⟩ := hrel
                  have hbs3 := hbs.trans (hbq.mono hbs.size)
                  have HVq := HV.below hbq
                  have D8q := D8.below hbq
                  have cFq := (hbq.cell (p := ⟨f2, fo2 + v', none⟩) hf2).trans cFx
                  have hf3 := Nat.lt_of_lt_of_le hf2 hbq.size
                  cases m
                  · by_cases hjt : j < n'
                    · obtain ⟨u, hu⟩ := get_lt (xs := S) (k := j) (by rw [HSN.out]; exact hjt)
                      have j0 : (0 : Int) ≤ (j : Int) := by omega
                      have jn : (j : Int) < (n' : Int) := by omega
                      obtain ⟨b, off, rfl, hbx, hcx⟩ := HVq.row.elem hu
                      have HNO := Lib.hid (MetTo.no HMT.out hu)
                      have eU : (u.toList == t.toList) = decide (u = t) := bytes_eq u t
                      clear hu HMT HTZ
                      obtain ⟨D8q_c, D8q_f, D8q_z⟩ := D8q.all
                      go_wp2_with fail
                      refine wp_region_quiet_below (by kernel_rfl) (by kernel_rfl) ?_
                      repeat (go_big_quiet_step (first | fail | fail))
                      refine wpQuiet_nil ?_
                      intro w7 hw7
                      have hb7 := below_of_regrown hw7
                      clear hw7
                      obtain ⟨hc7, hf7⟩ := bcell hb7
                      have hz7 := bsize hb7
                      try simp only [sizes1] at hz7
                      try simp only [sizes] at hc7 hf7
                      clear D8q_c D8q_f D8q_z hc7 hf7 hz7
                      go_wp2_with fail
                      go_roundw
                      case rel => exact ⟨j + 1, decide (u = t), by omega, by first | rfl | rw [eU], by go_num, HNO.out, hbq.trans (hb7.mono hbq.size)⟩
                      case measure => simp [intOf]; omega
                    · obtain rfl : j = n' := by omega
                      have hmt : t ∉ S := fun h => by
                        have := HMT.out
                        unfold MetTo at this
                        rw [← HSN.out, List.take_length] at this
                        have := this.2 (.inr h)
                        cases this
                      have HSE := Lib.hid (HPU.out hmt)
                      have hraw := HVq.raw
                      rw [HSN.out] at hraw
                      have HR := Lib.hid hraw
                      have hbz := hbs3.size
                      clear hraw hmt HMT HTZ HVq
                      obtain ⟨D8q_c, D8q_f, D8q_z⟩ := D8q.all
                      go_wp2_with (at_builtin; go_must (refine wpList_append_own _ rfl (.tmp 205) (.tmp 212) 24 rfl wS.heap.size 9 i0 (.string ⟨#[]⟩) 1 16 Try.underlying24 hi iz0 iz1 iz2 rfl (by decide) _ j (S.map Value.string) rfl (HR.out.alloc _) ⟨wr.heap.size, 0, none⟩ 1 1 [.string t] rfl rfl (cells_made _ [.string t] _ _ (by first | rfl | simp only [sizes])) (one_str _) (by unfold maxLen; omega) (by omega) (by first | exact Nat.le_refl _ | omega | (simp only [sizes]; omega)) ?_; intro v3 w3 hown3 hgrow3 _; have hb3 : Below wS.heap.size wS w3 := below_append' (by repeat (first | with_reducible exact Below.refl _ _ | with_reducible refine Below.drew ?_ | (with_reducible refine Below.alloc ?_ (by first | exact Nat.le_refl _ | omega | (simp only [sizes]; omega)) _) | (with_reducible refine Below.setCell ?_ (by first | exact Nat.le_refl _ | omega | (simp only [sizes]; omega)) _) | (refine Below.trans ?_ (Below.mono (by with_reducible assumption) (by first | exact Nat.le_refl _ | omega | (simp only [sizes]; omega)))))) (HR.out.alloc _) hgrow3 (by omega); have hz3 := hb3.size))
                      clear D8q_c D8q_f D8q_z
                      have hown : OwnStr wS.heap.size w3 v3 (S ++ [t]) := by
                        show w3.ownsRow wS.heap.size 9 1 v3 (S ++ [t]).length ((S ++ [t]).map Value.string)
                        rw [List.length_append, List.map_append, HSN.out]
                        exact hown3
                      clear hown3 hgrow3 HR
                      replace hbs3 : Below wS.heap.size wS w3 := hb3
                      go_wp2_with fail
                      go_roundw
                      case rel => exact ⟨k + 1, S ++ [t], by omega, by go_num, ⟨HSE.out, by rw [List.length_append, HSN.out]; show j + 1 ≤ _; omega⟩, hown, hbs3⟩
                      case measure => simp [intOf]; omega
                  · have hmt : t ∈ S := by
                      have := HMT.out
                      unfold MetTo at this
                      rcases this.1 rfl with h | h
                      · exact absurd h HTZ.out
                      · exact List.mem_of_mem_take h
                    have HSE := Lib.hid (HME.out hmt)
                    clear hmt HMT HTZ D8q cFq hf3
                    by_cases hjt : j < n'
                    all_goals
                      go_wp2_with fail
                      go_roundw
                      case rel => exact ⟨k + 1, S, by omega, by go_num, ⟨HSE.out, by rw [HSN.out]; omega⟩, HVq, hbs3⟩
                      case measure => simp [intOf]; omega
              · have hfx : fx < 0 := by omega
                have HSE := Lib.hid (hst hfx)
                have v2 : decide (fh < 0) = true := decide_eq_true (by omega)
                have v2' : decide (fx < 0) = true := decide_eq_true (by omega)
                have v3 : decide (fh ≥ 0) = false := decide_eq_false (by omega)
                have v3' : decide (0 ≤ fh) = false := decide_eq_false (by omega)
                clear hst hfrm hpu hme hfr h0 hfx
                obtain ⟨D7_c, D7_f, D7_z⟩ := D7.all
                obtain ⟨D8_c, D8_f, D8_z⟩ := D8.all
                go_wp2_with fail
                refine wp_region_quiet_below (by kernel_rfl) (by kernel_rfl) ?_
                repeat (go_big_quiet_step (first | fail | fail))
                refine wpQuiet_nil ?_
                intro w6 hw6
                have hb6 := below_of_regrown hw6
                clear hw6
                obtain ⟨hc6, hf6⟩ := bcell hb6
                have hz6 := bsize hb6
                try simp only [sizes1] at hz6
                try simp only [sizes] at hc6 hf6
                clear D7_c D7_f D7_z
                clear D8_c D8_f D8_z
                clear hc6 hf6 hz6 D7 O7 HV7 HG7 D8 O8 HV8 HG8
                replace HV := HV.below hb6
                replace hbs := hbs.trans (hb6.mono hbs.size)
                clear hb6
                go_wp2_with fail
                go_loopw [18, 19] (fun mv iv wx => mv = .bool true ∧ iv = .int .i64 0 ∧ Below w6.heap.size w6 wx) (fun _ iv _ => n' - (intOf iv).toNat)
                case atStart => exact ⟨rfl, rfl, Below.refl _ _⟩
                case round =>
                  obtain ⟨rfl, rfl, hbq⟩ := hrel
                  have hbs3 := hbs.trans (hbq.mono hbs.size)
                  have HVq := HV.below hbq
                  by_cases hjt : 0 < n'
                  all_goals
                    go_wp2_with fail
                    go_roundw
                    case rel => exact ⟨k + 1, S, by omega, by go_num, ⟨HSE.out, by rw [HSN.out]; omega⟩, HVq, hbs3⟩
                    case measure => simp [intOf]; omega
            · obtain rfl : k = 6 := by omega
              go_wp2_with fail
              go_roundw
              case rel => exact ⟨g + 1, S, by omega, by go_num, ⟨HS.out.1.iff (before6_next g), by have := HS.out.2; omega⟩, HV, hbs⟩
              case measure => simp [intOf]; omega
        · obtain rfl : g = 3 := by omega
          have hcnt := seen_refs HS.out.1 HX.out.ok.p (fun a b hab => by
            have := (HX.out.at_ a b).1 hab
            exact ⟨this.2, by omega⟩) HLA.out
          obtain ⟨n', hn'⟩ : ∃ n, S.length = n := ⟨_, rfl⟩
          rw [hn'] at hcnt
          obtain ⟨so, sc, rfl, s1, s2⟩ := HV.formN hn'
          have HBz := HBx.below hbs
          replace hbw := hbw.trans (hbs.mono hbw.size)
          clear HS HV hn' HBh HBx hbs HLA HSC
          obtain ⟨of8, or8, om8, og8, kf8, kr8, km8, kg8, us8, gs8, D8, O8⟩ := HBz
          obtain ⟨n8, hln⟩ : ∃ n, (Pl.F (Ho.P X)).length = n := ⟨_, rfl⟩
          obtain ⟨r8, hlr⟩ : ∃ n, (Pl.R (Ho.P X)).length = n := ⟨_, rfl⟩
          obtain ⟨m8, hlm⟩ : ∃ n, (Pl.M (Ho.P X)).length = n := ⟨_, rfl⟩
          obtain ⟨q8, hlq⟩ : ∃ n, (Ho.G X).length = n := ⟨_, rfl⟩
          obtain ⟨t8, hlt8⟩ : ∃ n, Ho.t X = n := ⟨_, rfl⟩
          obtain ⟨d8, hld⟩ : ∃ n, Ho.d X = n := ⟨_, rfl⟩
          obtain ⟨s8, hls⟩ : ∃ n, Ho.n X = n := ⟨_, rfl⟩
          rw [hln, hlr, hlm, hlq] at O8 D8
          rw [hlt8, hld, hls] at D8
          have HG8 := Lib.hid (And.intro hln (And.intro hlr (And.intro hlm (And.intro hlq (And.intro hlt8 (And.intro hld hls))))))
          clear hln hlr hlm hlq hlt8 hld hls
          have HV8 : Hid (∀ w' : World, Below (wr).heap.size wr w' → HoAt w' (.agg #[.slice of8 n8 kf8, .slice or8 r8 kr8, .slice om8 m8 km8, .slice og8 q8 kg8, .int .i64 t8, .int .u64 d8, .int .i64 s8]) X) := Lib.hid (fun w' hb => by
            have := (O8.below hb).at_
            rwa [HG8.out.2.2.2.2.1, HG8.out.2.2.2.2.2.1, HG8.out.2.2.2.2.2.2] at this)
          have hq3 : q8 = 3 := by rw [← HG8.out.2.2.2.1]; exact HX.out.g
          have hm3 : m8 = 3 := by rw [← HG8.out.2.2.1, ← HX.out.ok.m]; exact HX.out.g
          rw [hq3, hm3] at D8 O8 HV8 HG8
          clear hq3 hm3
          have HRR := Lib.hid O8.row.p.parts.2.1
          have HCN := Lib.hid hcnt
          have hr8 : X.P.R.length = r8 := HG8.out.2.1
          have hr96 : r8 ≤ 96 := by rw [← hr8, HX.out.ok.p.r]; exact HX.out.ok.p.n2
          have HRL := Lib.hid hr8
          clear hcnt hr8
          obtain ⟨D8_c, D8_f, D8_z⟩ := D8.all
          go_wp2_with fail
          go_loop [20, 21] (fun u k => ∃ j c : Nat, j ≤ r8 ∧ c ≤ j ∧ Hid ((X.P.R.take j).countP posB = c) ∧ k = .int .i64 j ∧ u = .int .i64 c) (fun _ k => r8 - (intOf k).toNat)
          case atStart => exact ⟨0, 0, by omega, by omega, Lib.hid rfl, rfl, rfl⟩
          case round =>
            obtain ⟨j, c, hj, hcj, HC, rfl, rfl⟩ := hrel
            by_cases hjt : j < r8
            · obtain ⟨y, hy⟩ := get_lt (xs := X.P.R) (k := j) (by rw [HRL.out]; exact hjt)
              obtain ⟨rb, roff, rfl, hrb, hcy⟩ := EncRow.elem (enc := Value.int .i64) HRR.out hy
              have hsu := countP_succ (q := posB) hy
              rw [HC.out] at hsu
              unfold posB at hsu
              have j0 : (0 : Int) ≤ (j : Int) := by omega
              have jn : (j : Int) < (r8 : Int) := by omega
              clear hy HC
              by_cases hy0 : 0 < y
              · rw [if_pos (decide_eq_true hy0)] at hsu
                have HC := Lib.hid hsu
                clear hsu
                have q1 : decide (y > 0) = true := decide_eq_true hy0
                have q2 : decide (0 < y) = true := decide_eq_true hy0
                go_wp2_with fail
                go_round
                case rel => exact ⟨j + 1, c + 1, by omega, by omega, HC, by go_num, by go_num⟩
                case measure => simp [intOf]; omega
              · rw [if_neg (by rw [decide_eq_true_eq]; exact hy0)] at hsu
                have HC := Lib.hid hsu
                clear hsu
                have q1 : decide (y > 0) = false := decide_eq_false hy0
                have q2 : decide (0 < y) = false := decide_eq_false hy0
                go_wp2_with fail
                go_round
                case rel => exact ⟨j + 1, c, by omega, by omega, HC, by go_num, rfl⟩
                case measure => simp [intOf]; omega
            · obtain rfl : j = r8 := by omega
              have hc := HC.out
              rw [← HRL.out, List.take_length, HCN.out] at hc
              subst hc
              clear HC HRL HCN HRR
              go_wp2_with fail
              with_reducible refine (awake_any _).mono ?_
              rintro e wz ⟨rfl, hbz⟩
              replace hbw := hbw.trans (hbz.mono hbw.size)
              go_wp2_with fail
              go_ret
              exact Ret.mk hbw
end Go.Proofs.Ytbnngjhnkegliaa
namespace Go.Proofs.Ytbnngjhnkegliaa
open Go.ChangeShapes Go.WideShapes Go.ChangeAt Go.RowKit Go.ChangeMaps

set_option maxRecDepth 100000 in
theorem hostScans_contract {H : Type} {enc : TypeId × Value → H} (W : World) (base : Nat) (args : Array Value) (ds gs : List (DataW H)) (before : List MemPlace)
    (hval0 : ∀ (j : Nat) t v, Try.f6.params[j]? = some t → args[j]? = some v → Value.okWide Try.prog W .any base t v)
    (hW : DataW.Whole enc Try.prog Try.f6.params.toList Rows.hostScansSpec.vars false W args.toList ds gs before) :
    Calls Try.prog 6 args W fun e W' => ∃ v, e = .returned v ∧ Rows.hostScansSpec.post enc Try.prog Try.f6 false true false false W args v W' := by
  have hW0 := hW
  obtain ⟨p, q, hA0, hV, _, _, _⟩ := hW
  have hA : DataW.TrodAll enc Try.prog W 0 (fun _ => true) true Try.f6.params.toList args.toList ds p := hA0
  clear hA0
  rw [Try.params6] at hA hval0
  obtain ⟨v0, vs0, d0, ds0, p0, q0, hargs0, rfl, _, h0, r0⟩ := trodAll_cons hA
  obtain ⟨v1, vs1, d1, ds1, p1, q1, hargs1, rfl, _, h1, r1⟩ := trodAll_cons r0
  obtain ⟨v2, vs2, d2, ds2, p2, q2, hargs2, rfl, _, h2, r2⟩ := trodAll_cons r1
  obtain ⟨v3, vs3, d3, ds3, p3, q3, hargs3, rfl, _, h3, r3⟩ := trodAll_cons r2
  obtain ⟨hnil, rfl, _⟩ := trodAll_nil r3
  obtain rfl : args = #[v0, v1, v2, v3] := by cases args; simp_all
  obtain ⟨F, rfl, _, _, _⟩ := open_int Try.underlying3 (hval0 0 _ v0 rfl rfl) h0
  obtain ⟨X, rfl, _, _, _⟩ := open_int Try.underlying3 (hval0 1 _ v1 rfl rfl) h1
  obtain ⟨ao, xs, ca, rfl, ha, _, _⟩ := open_intRow Try.underlying22 Try.underlying3 (by kernel_rfl) (hval0 2 _ v2 rfl rfl) h2
  obtain ⟨bo, ys, cb, rfl, hb, _, _⟩ := open_intRow Try.underlying22 Try.underlying3 (by kernel_rfl) (hval0 3 _ v3 rfl rfl) h3
  refine Calls.mono (R := Ret W (.bool true)) ?_ (fun e W' ⟨he, hb⟩ => ⟨_, he, law_post rfl hW0 hb (of_decide_eq_true (by kernel_rfl)) 4 rfl Try.underlying4 (fun _ => rfl)⟩)
  exact scans_any F X _ _ xs ys W ha hb

set_option maxRecDepth 100000 in
theorem hostScans_lifted (os : Os) (started : os.Started) (H : Type) (enc : TypeId × Value → H) :
    ReturnsInHanded {} Try.checked os 6 .any (Rows.hostScansSpec.pre6 enc Try.prog Try.f6 Rows.hostScansRow.domain false) (Rows.hostScansSpec.post enc Try.prog Try.f6 false true false false) := by
  refine returnsInHanded_of_change (C := Try.checked) Try.own started (by kernel_rfl) Try.func6
    (ChangeSpec.witness6 (enc := enc) (C := Try.checked) false ⟨#[], #[.int .i64 0, .int .i64 0, .slice none 0 0, .slice none 0 0], []⟩ 8 (by kernel_rfl) (by kernel_rfl) (by kernel_rfl) (by kernel_rfl)) ?_
  intro W base args ds gs before hval0 hW _ _
  exact hostScans_contract W base args ds gs before hval0 hW

theorem hostScans_holds : Rows.HostScansSaid :=
  OpenClaim.holds_of_wide 6 Try.f6 rfl rfl rfl rfl rfl rfl rfl ⟨rfl, rfl, rfl, rfl, rfl⟩ rfl rfl rfl rfl rfl (by kernel_rfl) Try.func6 (by kernel_rfl)
    (of_decide_eq_true (by kernel_rfl)) (by unfold Func.isWrapper; first | (rw [if_pos (by decide +kernel)]; kernel_rfl) | (rw [if_neg (by decide +kernel)]; exact ⟨rfl, rfl⟩))
    (fun os started H enc _ => hostScans_lifted os started H enc)
end Go.Proofs.Ytbnngjhnkegliaa
