/-
  The law on what is left when all has been shared, walked.
-/
import Derived.Test.YtjoopjgpjkmmhaaPlLeast
namespace Go.Proofs.Ytjoopjgpjkmmhaa
open Go.RowKit

theorem leastP_out (ao bo : Option Addr) (N ca M cb : Nat) (w : World) (h : 40 < N ∨ 16 < M) (hN : N ≤ 9223372036854775807) (hM : M ≤ 9223372036854775807) : Calls Try.prog 6 #[.slice ao N ca, .slice bo M cb] w (Ret w (.bool true)) := by
  by_cases h1 : 40 < N
  · go_enter Try.func6, Try.ntmps6
    go_wp2_with fail
    with_reducible refine (awake_any _).mono ?_
    rintro e w1 ⟨rfl, hb1⟩
    go_wp2_with fail
    go_ret
    exact Ret.mk hb1
  · have h2 : 16 < M := by omega
    clear h
    go_enter Try.func6, Try.ntmps6
    go_wp2_with fail
    with_reducible refine (awake_any _).mono ?_
    rintro e w1 ⟨rfl, hb1⟩
    go_wp2_with fail
    go_ret
    exact Ret.mk hb1
/-- The pages before this one, in the order of guests and pages. -/
def before (g p a b : Nat) : Prop := b < 4 ∧ a * 4 + b < g * 4 + p
/-- All pages before this one have the least frame of their content. -/
def LeastTo (P : Pl) (g p : Nat) : Prop := ∀ a b : Nat, P.at a b → before g p a b → P.least' a b
theorem LeastTo.sh {P : Pl} {g p : Nat} (h : LeastTo P g p) (hs : Shape 8 P) {a b : Nat} (ha : a < 2) (hb : b < 4) : LeastTo (P.sh a b) g p := fun c d hcd hbf => by
  have hat := (hs.at' a b).2 ⟨ha, hb⟩
  have hcd' := ((Pl.sh_law hs.ok hat).1.al.at c d).1 hcd
  exact Pl.least_keep hs.ok hat hcd' (h c d hcd' hbf)
theorem LeastTo.step {P : Pl} {g p : Nat} (h : LeastTo P g p) (hs : Shape 8 P) (hg : g < 2) (hp : p < 4) : LeastTo (P.sh g p) g (p + 1) := fun c d hcd hbf => by
  have hat := (hs.at' g p).2 ⟨hg, hp⟩
  by_cases e : c * 4 + d < g * 4 + p
  · exact h.sh hs hg hp c d hcd ⟨hbf.1, e⟩
  · obtain ⟨rfl, rfl⟩ : c = g ∧ d = p := by
      have h1 := hbf.1
      have h2 := hbf.2
      omega
    exact (Pl.sh_frames hs.ok hat).2.2.1
/-- All pages have the least frame of their content: a share changes nothing. -/
def AllLeast (P : Pl) : Prop := ∀ a b : Nat, P.at a b → P.least' a b
theorem LeastTo.all {P : Pl} (h : LeastTo P 2 0) (hs : Shape 8 P) : AllLeast P := fun a b hab => by
  have := (hs.at' a b).1 hab
  exact h a b hab ⟨this.2, by omega⟩
theorem AllLeast.sh {P : Pl} (h : AllLeast P) (hs : Shape 8 P) {g p : Nat} (hg : g < 2) (hp : p < 4) : P.sh g p = P ∧ P.sok g p = false := by
  have hat := (hs.at' g p).2 ⟨hg, hp⟩
  have h1 := (Pl.sok_least hs.ok hat).2 (h g p hat)
  exact ⟨(Pl.sh_law hs.ok hat).2 h1, h1⟩
theorem Pl.zero_text {P : Pl} (H : P.Ok) {g p : Nat} (h : P.at g p) : P.text g p = zeros128 ↔ P.fr g p < 0 := by
  constructor
  · intro e
    rcases Int.lt_or_le (P.fr g p) 0 with h0 | h0
    · exact h0
    · have := (Pl.text_good H h h0).2
      rw [e, zeros128_zero] at this
      cases this
  · intro h0
    unfold Pl.text
    rw [if_pos h0]
theorem one_str (x : ByteArray) : ∀ u ∈ [Value.string x], u.oneCell' = true := by
  intro u hu
  simp at hu
  subst hu
  rfl
/-- Whether a content has been met among the first ones, or is zeros. -/
def MetTo (m : Bool) (t z : ByteArray) (S : List ByteArray) (j : Nat) : Prop := m = true ↔ (t = z ∨ t ∈ S.take j)
theorem MetTo.yes {t z : ByteArray} {S : List ByteArray} {j : Nat} (h : MetTo true t z S j) : MetTo true t z S (j + 1) := by
  unfold MetTo at *
  simp only [true_iff] at *
  rcases h with h | h
  · exact .inl h
  · right
    rw [List.take_add_one]
    exact List.mem_append_left _ h
theorem MetTo.no {t z u : ByteArray} {S : List ByteArray} {j : Nat} (h : MetTo false t z S j) (hu : S[j]? = some u) : MetTo (decide (u = t)) t z S (j + 1) := by
  unfold MetTo at *
  have h1 : ¬ (t = z ∨ t ∈ S.take j) := fun e => by have := h.2 e; cases this
  rw [List.take_add_one, hu, decide_eq_true_eq]
  constructor
  · rintro rfl
    exact .inr (List.mem_append_right _ (by simp))
  · rintro (e | e)
    · exact absurd (.inl e) h1
    · rw [List.mem_append] at e
      rcases e with e | e
      · exact absurd (.inr e) h1
      · simp at e
        exact e.symm
theorem MetTo.zero (t z : ByteArray) (S : List ByteArray) : MetTo (decide (t = z)) t z S 0 := by
  unfold MetTo
  simp
theorem before_succ {g k : Nat} (hk : k < 4) (a b : Nat) : before g (k + 1) a b ↔ before g k a b ∨ (a = g ∧ b = k) := by
  unfold before
  omega
theorem before_next (g a b : Nat) : before (g + 1) 0 a b ↔ before g 4 a b := by
  unfold before
  omega
theorem Seen.iff {P : Pl} {v v' : Nat → Nat → Prop} {S : List ByteArray} (h : Seen P v S) (hv : ∀ a b, v' a b ↔ v a b) : Seen P v' S := by
  have e : v' = v := funext fun a => funext fun b => propext (hv a b)
  rw [e]
  exact h
theorem bytes_eq (s t : ByteArray) : (s.toList == t.toList) = decide (s = t) := by
  rw [Bool.eq_iff_iff, beq_iff_eq, decide_eq_true_eq]
  exact ⟨fun h => by
    rw [ByteArray.toList_eq, ByteArray.toList_eq] at h
    cases s with
    | mk a => cases t with
      | mk b => exact congrArg ByteArray.mk (Array.toList_inj.1 h), fun h => by rw [h]⟩
theorem LeastTo.next {P : Pl} {g : Nat} (h : LeastTo P g 4) : LeastTo P (g + 1) 0 := fun a b hab hbf => h a b hab ((before_next g a b).1 hbf)
theorem LeastTo.start (P : Pl) : LeastTo P 0 0 := fun a b _ h => by have := h.2; omega
theorem Pl.free_okL {P : Pl} (H : P.Ok) : P.free = P.freeN := by unfold Pl.free; rw [Pl.ok_iff.2 H, if_pos rfl]
set_option maxRecDepth 100000 in
set_option maxHeartbeats 8000000 in
theorem leastP_in (va vb : Value) (ls os : List Int) (w : World) (ha : NumRow w va ls) (hls : ∀ x ∈ ls, -9223372036854775808 ≤ x ∧ x ≤ 9223372036854775807) (hn40 : ls.length ≤ 40) (hb : NumRow w vb os) (hos : ∀ x ∈ os, -9223372036854775808 ≤ x ∧ x ≤ 9223372036854775807) (hm16 : os.length ≤ 16) : Calls Try.prog 6 #[va, vb] w (Ret w (.bool true)) := by
  have FL : ∀ v w, NumRow w v ls → Calls Try.prog 11 #[.int .i64 8, v] w (RetFilled 8 w) := fun v w h => filled_any 8 v ls w (by omega) (by omega) h hls (by omega)
  have HFL := Lib.hid FL; clear FL
  have PZ : ∀ w, Calls Try.prog 12 #[.int .i64 0] w (Ret w (.string zeros128)) := fun w => by
    have h := page_any 0 w (by omega)
    rwa [pageS_zero] at h
  have hzt : ∀ (P : Pl) (g p : Nat), P.Ok → P.at g p → (P.text g p = zeros128 ↔ P.fr g p < 0) := fun P g p H h => Pl.zero_text H h
  obtain ⟨zz, hzz⟩ : ∃ z, zeros128 = z := ⟨_, rfl⟩
  rw [hzz] at PZ hzt
  have HPZ := Lib.hid PZ; clear PZ hzz
  have HZT := Lib.hid hzt; clear hzt
  obtain ⟨ao, ca, rfl, a1, a2, _⟩ := ha.out
  obtain ⟨bo, cb, rfl, b1, b2, _⟩ := hb.out
  unfold maxLen at a2 b2
  obtain ⟨N, hN⟩ : ∃ N, ls.length = N := ⟨_, rfl⟩
  rw [hN] at a1 ha hn40 ⊢
  obtain ⟨M, hM⟩ : ∃ N, os.length = N := ⟨_, rfl⟩
  rw [hM] at b1 hb hm16 ⊢
  clear hN hls
  have HM := Lib.hid hM; clear hM
  have HA := Lib.hid ha; clear ha
  have HB := Lib.hid hb; clear hb
  have HO := Lib.hid hos; clear hos
  have hbw : Below w.heap.size w w := Below.refl _ _
  go_enter Try.func6, Try.ntmps6
  go_wp2_with fail
  with_reducible refine (HFL.out _ _ HA.out).mono ?_
  rintro e w1 ⟨P, hsh, of0, or0, om0, kf0, kr0, km0, us0, rfl, O0, hbk⟩
  replace hbw := hbw.trans (hbk.mono hbw.size)
  clear hbk
  have HSP := Lib.hid hsh; clear hsh HFL
  obtain ⟨n0, hgn⟩ : ∃ n, (Pl.F P).length = n := ⟨_, rfl⟩
  obtain ⟨r0, hgr⟩ : ∃ n, (Pl.R P).length = n := ⟨_, rfl⟩
  obtain ⟨m0, hgm⟩ : ∃ n, (Pl.M P).length = n := ⟨_, rfl⟩
  rw [hgn, hgr, hgm] at O0 ⊢
  clear hgn hgr hgm
  go_wp2_with fail
  have hw0 := hbw.size
  have hbx : Below w1.heap.size w1 (w1.alloc (.cells #[.slice of0 n0 kf0, .slice or0 r0 kr0, .slice om0 m0 km0] 26)) := (Below.refl _ _).alloc (Nat.le_refl _) _
  replace O0 := O0.below hbx
  have D0 := HasBlock.made w1 #[.slice of0 n0 kf0, .slice or0 r0 kr0, .slice om0 m0 km0] 26
  replace hbw := hbw.trans (hbx.mono hbw.size)
  clear hbx
  obtain ⟨B0, hB⟩ : ∃ B, w1.heap.size = B := ⟨_, rfl⟩
  rw [hB] at D0 hw0 ⊢
  generalize hW : w1.alloc (.cells #[.slice of0 n0 kf0, .slice or0 r0 kr0, .slice om0 m0 km0] 26) = w2 at D0 O0 hbw ⊢
  clear hW hB
  go_loopw [7] (fun iv wr => ∃ (i : Nat) (P : Pl) (of or' om : Option Addr) (n r m kf kr km : Nat) (us : List Value), i ≤ M ∧ iv = .int .i64 i ∧ Hid (Shape 8 P) ∧ HasBlock wr B0 #[.slice of n kf, .slice or' r kr, .slice om m km] 26 ∧ OwnP 0 wr (.slice of n kf) (.slice or' r kr) (.slice om m km) us P ∧ Below w.heap.size w wr) (fun iv _ => M - (intOf iv).toNat)
  case atStart => exact ⟨0, P, _, _, _, _, _, _, _, _, _, _, by omega, rfl, HSP, D0, O0, hbw⟩
  case round =>
    clear D0 O0 hbw HSP
    obtain ⟨i, P, of3, or3, om3, n3, r3, m3, kf3, kr3, km3, us3, hi, rfl, HSP, D0, O3, hbw⟩ := hrel
    by_cases hlt : i < M
    · obtain ⟨x, hx⟩ := get_lt (xs := os) (k := i) (by rw [HM.out]; exact hlt)
      have hxb := HO.out x (mem_at hx)
      obtain ⟨b, off, rfl, hbs, hcx⟩ := HB.out.elem hx
      clear hx
      have hx2 := tdiv_in (k := 2) (by omega) hxb
      have R1 := fun w => round_any x 2 w hxb (by omega) (by omega)
      have R2 := fun w => round_any (x.tdiv 2) 4 w hx2 (by omega) (by omega)
      obtain ⟨a, ha⟩ : ∃ v : Nat, x % 2 = v := ⟨(x % 2).toNat, by omega⟩
      obtain ⟨c, hc⟩ : ∃ v : Nat, x.tdiv 2 % 4 = v := ⟨(x.tdiv 2 % 4).toNat, by omega⟩
      have ha2 : a < 2 := by omega
      have hc4 : c < 4 := by omega
      rw [ha] at R1
      rw [hc] at R2
      have HR1 := Lib.hid R1; clear R1
      have HR2 := Lib.hid R2; clear R2
      have hw2 : IntKind.i64.wrap (x.tdiv 2) = x.tdiv 2 := IntWalk.i64_in _ hx2
      clear ha hc hx2
      have SHc := fun v w h => pshare_any v P a c w h HSP.out.ok.fit HSP.out.ok.small
      have hsh1 := HSP.out.sh ha2 hc4
      obtain ⟨Q1, hq1⟩ : ∃ Q, P.sh a c = Q := ⟨_, rfl⟩
      obtain ⟨t1, ht1⟩ : ∃ t, P.sok a c = t := ⟨_, rfl⟩
      rw [hq1] at SHc hsh1
      rw [ht1] at SHc
      clear hq1 ht1
      have HSHc := Lib.hid SHc; clear SHc
      have HQ1 := Lib.hid hsh1; clear hsh1
      have cx := (hbw.cell (p := ⟨b, off + i, none⟩) hbs).trans hcx
      have hbs2 : b < wr.heap.size := by have := hbw.size; omega
      have i0 : (0 : Int) ≤ (i : Int) := by omega
      have iN : (i : Int) < (M : Int) := by omega
      obtain ⟨D0_c, D0_f, D0_z⟩ := D0.all
      go_wp2_with fail
      go_region_law (first
        | (go_simp; go_at_call 13
           with_reducible refine (HR1.out _).mono ?_
           rintro _ w15 ⟨rfl, hb15⟩
           have HB15 : Below wr.heap.size wr w15 := by (repeat (first | with_reducible assumption | with_reducible exact Below.refl _ _ | (with_reducible refine Below.drew ?_) | (with_reducible refine Below.alloc' ?_ (Nat.le_refl _) _) | (with_reducible refine Below.setCell ?_ (by first | exact rfl | exact Nat.le_refl _ | omega | (dsimp only; omega) | (simp only [sizes]; done) | (simp only [sizes]; omega)) _) | (refine Below.trans ?_ (Below.mono (by with_reducible assumption) (by first | exact rfl | exact Nat.le_refl _ | omega | (dsimp only; omega) | (simp only [sizes]; done) | (simp only [sizes]; omega))))))
           obtain ⟨hc15, hf15⟩ := bcell HB15
           have hzz15 := HB15.size)
        | (go_simp; go_at_call 13
           with_reducible refine (HR2.out _).mono ?_
           rintro _ w16 ⟨rfl, hb16⟩
           have HB16 : Below wr.heap.size wr w16 := by (repeat (first | with_reducible assumption | with_reducible exact Below.refl _ _ | (with_reducible refine Below.drew ?_) | (with_reducible refine Below.alloc' ?_ (Nat.le_refl _) _) | (with_reducible refine Below.setCell ?_ (by first | exact rfl | exact Nat.le_refl _ | omega | (dsimp only; omega) | (simp only [sizes]; done) | (simp only [sizes]; omega)) _) | (refine Below.trans ?_ (Below.mono (by with_reducible assumption) (by first | exact rfl | exact Nat.le_refl _ | omega | (dsimp only; omega) | (simp only [sizes]; done) | (simp only [sizes]; omega))))))
           obtain ⟨hc16, hf16⟩ := bcell HB16
           have hzz16 := HB16.size)
        | (go_simp; go_at_call 14
           with_reducible refine (HSHc.out _ _ (O3.row.below (by (repeat (first | with_reducible assumption | with_reducible exact Below.refl _ _ | (with_reducible refine Below.drew ?_) | (with_reducible refine Below.alloc' ?_ (Nat.le_refl _) _) | (with_reducible refine Below.setCell ?_ (by first | exact rfl | exact Nat.le_refl _ | omega | (dsimp only; omega) | (simp only [sizes]; done) | (simp only [sizes]; omega)) _) | (refine Below.trans ?_ (Below.mono (by with_reducible assumption) (by first | exact rfl | exact Nat.le_refl _ | omega | (dsimp only; omega) | (simp only [sizes]; done) | (simp only [sizes]; omega))))))))).mono ?_
           rintro _ w17 ⟨of4, or4, om4, kf4, kr4, km4, us4, rfl, O4, hb17⟩
           obtain ⟨n4, hgn⟩ : ∃ n, (Pl.F Q1).length = n := ⟨_, rfl⟩
           obtain ⟨r4, hgr⟩ : ∃ n, (Pl.R Q1).length = n := ⟨_, rfl⟩
           obtain ⟨m4, hgm⟩ : ∃ n, (Pl.M Q1).length = n := ⟨_, rfl⟩
           rw [hgn, hgr, hgm] at O4 ⊢
           clear hgn hgr hgm
           have hbe : Below wr.heap.size wr w17 := by (repeat (first | with_reducible assumption | with_reducible exact Below.refl _ _ | (with_reducible refine Below.drew ?_) | (with_reducible refine Below.alloc' ?_ (Nat.le_refl _) _) | (with_reducible refine Below.setCell ?_ (by first | exact rfl | exact Nat.le_refl _ | omega | (dsimp only; omega) | (simp only [sizes]; done) | (simp only [sizes]; omega)) _) | (refine Below.trans ?_ (Below.mono (by with_reducible assumption) (by first | exact rfl | exact Nat.le_refl _ | omega | (dsimp only; omega) | (simp only [sizes]; done) | (simp only [sizes]; omega))))))
           have E0 := D0.below hbe
           obtain ⟨E0_c, E0_f, E0_z⟩ := E0.all))
      all_goals
        clear hw2 cx hbs2
        have hbe := hbw.trans (hbe.mono hbw.size)
        go_wp2_with fail
        go_roundw
        case rel => exact ⟨i + 1, Q1, _, _, _, _, _, _, _, _, _, _, by omega, by go_num, HQ1, E0.fill _ _ _, O4.fill E0 (by decide) (by decide) (by decide) _ _ _, ((hbe.setCell (by dsimp only; omega) _).setCell (by dsimp only; omega) _).setCell (by dsimp only; omega) _⟩
        case measure => simp [intOf]; omega
    · obtain rfl : i = M := by omega
      go_wp2_with fail
      clear HO HB HA hlt hi
      go_loopw [8] (fun iv wr => ∃ (r : Nat) (P : Pl) (of or' om : Option Addr) (n r0 m kf kr km : Nat) (us : List Value), r ≤ 1 ∧ iv = .int .i64 r ∧ Hid (Shape 8 P) ∧ Hid (r = 1 → AllLeast P) ∧ HasBlock wr B0 #[.slice of n kf, .slice or' r0 kr, .slice om m km] 26 ∧ OwnP 0 wr (.slice of n kf) (.slice or' r0 kr) (.slice om m km) us P ∧ Below w.heap.size w wr) (fun iv _ => 2 - (intOf iv).toNat)
      case atStart => exact ⟨0, P, _, _, _, _, _, _, _, _, _, _, by omega, rfl, HSP, (fun h => by omega), D0, O3, hbw⟩
      case round =>
        clear D0 O3 hbw HSP
        obtain ⟨r, P, of3, or3, om3, n3, r3, m3, kf3, kr3, km3, us3, hr, rfl, HSP, HAL, D0, O3, hbw⟩ := hrel
        have r9 : (r : Int) < 9 := by omega
        go_wp2_with fail
        go_loopw [9, 10] (fun cv iv wr => ∃ (g : Nat) (ch : Bool) (P : Pl) (of or' om : Option Addr) (n r0 m kf kr km : Nat) (us : List Value), g ≤ 2 ∧ cv = .bool ch ∧ iv = .int .i64 g ∧ Hid (Shape 8 P) ∧ Hid (LeastTo P g 0 ∧ (r = 1 → AllLeast P ∧ ch = false)) ∧ HasBlock wr B0 #[.slice of n kf, .slice or' r0 kr, .slice om m km] 26 ∧ OwnP 0 wr (.slice of n kf) (.slice or' r0 kr) (.slice om m km) us P ∧ Below w.heap.size w wr) (fun _ iv _ => 2 - (intOf iv).toNat)
        case atStart => exact ⟨0, false, P, _, _, _, _, _, _, _, _, _, _, by omega, rfl, rfl, HSP, ⟨LeastTo.start P, fun h => ⟨HAL.out h, rfl⟩⟩, D0, O3, hbw⟩
        case round =>
          clear D0 O3 hbw HSP HAL
          obtain ⟨g, ch, P, of3, or3, om3, n3, r3, m3, kf3, kr3, km3, us3, hg, rfl, rfl, HSP, HAL, D0, O3, hbw⟩ := hrel
          by_cases hgt : g < 2
          · have g2 : (g : Int) < 2 := by omega
            go_wp2_with fail
            go_loopw [9, 11] (fun cv iv wr => ∃ (k : Nat) (ch : Bool) (P : Pl) (of or' om : Option Addr) (n r0 m kf kr km : Nat) (us : List Value), k ≤ 4 ∧ cv = .bool ch ∧ iv = .int .i64 k ∧ Hid (Shape 8 P) ∧ Hid (LeastTo P g k ∧ (r = 1 → AllLeast P ∧ ch = false)) ∧ HasBlock wr B0 #[.slice of n kf, .slice or' r0 kr, .slice om m km] 26 ∧ OwnP 0 wr (.slice of n kf) (.slice or' r0 kr) (.slice om m km) us P ∧ Below w.heap.size w wr) (fun _ iv _ => 4 - (intOf iv).toNat)
            case atStart => exact ⟨0, ch, P, _, _, _, _, _, _, _, _, _, _, by omega, rfl, rfl, HSP, HAL, D0, O3, hbw⟩
            case round =>
              clear D0 O3 hbw HSP HAL
              obtain ⟨k, ch, P, of3, or3, om3, n3, r3, m3, kf3, kr3, km3, us3, hk, rfl, rfl, HSP, HAL, D0, O3, hbw⟩ := hrel
              by_cases hkt : k < 4
              · have SHc := fun v w h => pshare_any v P g k w h HSP.out.ok.fit HSP.out.ok.small
                have hsh1 := HSP.out.sh hgt hkt
                have hle := HAL.out.1.step HSP.out hgt hkt
                have hal : r = 1 → AllLeast (P.sh g k) ∧ P.sok g k = false ∧ ch = false := fun h1 => by
                  obtain ⟨e1, e2⟩ := HAL.out.2 h1
                  obtain ⟨e3, e4⟩ := e1.sh HSP.out hgt hkt
                  exact ⟨by rw [e3]; exact e1, e4, e2⟩
                obtain ⟨Q1, hq1⟩ : ∃ Q, P.sh g k = Q := ⟨_, rfl⟩
                obtain ⟨t1, ht1⟩ : ∃ t, P.sok g k = t := ⟨_, rfl⟩
                rw [hq1] at SHc hsh1 hle hal
                rw [ht1] at SHc hal
                clear hq1 ht1
                have HSHc := Lib.hid SHc; clear SHc
                have HQ1 := Lib.hid hsh1; clear hsh1
                have HLE := Lib.hid hle; clear hle
                have HAT := Lib.hid hal; clear hal HAL
                obtain ⟨D0_c, D0_f, D0_z⟩ := D0.all
                go_wp2_with fail
                clear D0_c D0_f D0_z
                with_reducible refine (HSHc.out _ _ O3.row).mono ?_
                rintro e w9 ⟨of4, or4, om4, kf4, kr4, km4, us4, rfl, O4, hbk⟩
                replace D0 := D0.below hbk
                replace hbw := hbw.trans (hbk.mono hbw.size)
                clear hbk
                clear O3
                obtain ⟨n4, hgn⟩ : ∃ n, (Pl.F Q1).length = n := ⟨_, rfl⟩
                obtain ⟨r4, hgr⟩ : ∃ n, (Pl.R Q1).length = n := ⟨_, rfl⟩
                obtain ⟨m4, hgm⟩ : ∃ n, (Pl.M Q1).length = n := ⟨_, rfl⟩
                rw [hgn, hgr, hgm] at O4 ⊢
                clear hgn hgr hgm
                have l0 := D0.lt
                cases ch
                · obtain ⟨D0_c, D0_f, D0_z⟩ := D0.all
                  go_wp2_with fail
                  clear D0_c D0_f D0_z
                  go_roundw
                  case rel => exact ⟨k + 1, t1, Q1, _, _, _, _, _, _, _, _, _, _, by omega, rfl, by go_num, HQ1, ⟨HLE.out, fun h => ⟨(HAT.out h).1, (HAT.out h).2.1⟩⟩, (D0.fill _ _ _).alloc _, (O4.fill D0 (by decide) (by decide) (by decide) _ _ _).alloc _, Below.alloc' (((hbw.setCell (by dsimp only; omega) _).setCell (by dsimp only; omega) _).setCell (by dsimp only; omega) _) (Nat.le_refl _) _⟩
                  case measure => simp [intOf]; omega
                · obtain ⟨D0_c, D0_f, D0_z⟩ := D0.all
                  go_wp2_with fail
                  clear D0_c D0_f D0_z
                  go_roundw
                  case rel => exact ⟨k + 1, true, Q1, _, _, _, _, _, _, _, _, _, _, by omega, rfl, by go_num, HQ1, ⟨HLE.out, fun h => by have := (HAT.out h).2.2; cases this⟩, (D0.fill _ _ _).alloc _, (O4.fill D0 (by decide) (by decide) (by decide) _ _ _).alloc _, Below.alloc' (((hbw.setCell (by dsimp only; omega) _).setCell (by dsimp only; omega) _).setCell (by dsimp only; omega) _) (Nat.le_refl _) _⟩
                  case measure => simp [intOf]; omega
              · obtain rfl : k = 4 := by omega
                go_wp2_with fail
                go_roundw
                case rel => exact ⟨g + 1, ch, P, _, _, _, _, _, _, _, _, _, _, by omega, rfl, by go_num, HSP, ⟨HAL.out.1.next, HAL.out.2⟩, D0, O3, hbw⟩
                case measure => simp [intOf]; omega
          · obtain rfl : g = 2 := by omega
            have HAP := Lib.hid (HAL.out.1.all HSP.out)
            cases ch
            · clear HAL
              go_wp2_with fail
              simp only [Int.cast_ofNat_Int]
              obtain ⟨wS, hwS⟩ : ∃ x, wr = x := ⟨_, rfl⟩
              rw [hwS] at D0 O3 hbw ⊢
              clear hwS
              obtain ⟨i0, hi, iz0, iz1, iz2⟩ := info_parts info_str
              have FR := fun v w h => pfree_any v P w h HSP.out.ok.fit
              rw [Pl.free_okL HSP.out.ok] at FR
              have HFR := Lib.hid FR; clear FR
              have RD : ∀ (g p : Nat), g < 2 → p < 4 → ∀ v w, PlRow w v P → Calls Try.prog 17 #[v, .int .i64 g, .int .i64 p] w (Ret w (.tuple #[.string (P.text g p), .bool true])) := fun g p hg hp v w h => by
                have zat := (HSP.out.at' g p).2 ⟨hg, hp⟩
                have RZ := pread_any v P g p w h HSP.out.ok.fit
                rwa [Pl.read_eq HSP.out.ok zat, Pl.at_has HSP.out.ok zat] at RZ
              have HRD := Lib.hid RD; clear RD
              go_loopw [14, 15] (fun sv iv wr => ∃ (g : Nat) (S : List ByteArray), g ≤ 2 ∧ iv = .int .i64 g ∧ Hid (Seen P (before g 0) S ∧ S.length ≤ g * 4) ∧ OwnStr wS.heap.size wr sv S ∧ Below wS.heap.size wS wr) (fun _ iv _ => 2 - (intOf iv).toNat)
              case atStart => exact ⟨0, [], by omega, rfl, ⟨Seen.nil P (fun a b h => by have := h.2; omega), by simp⟩, World.ownsRow_nil _ _ _ _, Below.refl _ _⟩
              case round =>
                obtain ⟨g, S, hg, rfl, HS, HV, hbs⟩ := hrel
                by_cases hgt : g < 2
                · have g2 : (g : Int) < 2 := by omega
                  go_wp2_with fail
                  go_loopw [14, 16] (fun sv iv wr => ∃ (k : Nat) (S : List ByteArray), k ≤ 4 ∧ iv = .int .i64 k ∧ Hid (Seen P (before g k) S ∧ S.length ≤ g * 4 + k) ∧ OwnStr wS.heap.size wr sv S ∧ Below wS.heap.size wS wr) (fun _ iv _ => 4 - (intOf iv).toNat)
                  case atStart => exact ⟨0, S, by omega, rfl, HS, HV, hbs⟩
                  case round =>
                    clear HV hbs HS
                    obtain ⟨k, S, hk, rfl, HS, HV, hbs⟩ := hrel
                    by_cases hkt : k < 4
                    · have Dx := D0.below hbs
                      have Ox := O3.row.below hbs
                      have k0 : (0 : Int) ≤ (k : Int) := by omega
                      have k4 : (k : Int) < 4 := by omega
                      have RD := fun v w h => HRD.out g k hgt hkt v w h
                      have hat := (HSP.out.at' g k).2 ⟨hgt, hkt⟩
                      have hz := HZT.out P g k HSP.out.ok hat
                      have hst : P.fr g k < 0 ∨ P.text g k ∈ S → Seen P (before g (k + 1)) S := fun h => HS.out.1.stay (before_succ hkt) h
                      have hpu : 0 ≤ P.fr g k → P.text g k ∉ S → Seen P (before g (k + 1)) (S ++ [P.text g k]) := fun h1 h2 => HS.out.1.push hat (before_succ hkt) h1 h2
                      have hz1 : P.text g k = zz ∨ P.text g k ∈ S → Seen P (before g (k + 1)) S := fun h => hst (h.imp hz.1 id)
                      have hz2 : ¬ (P.text g k = zz ∨ P.text g k ∈ S) → Seen P (before g (k + 1)) (S ++ [P.text g k]) := fun h => hpu (by
                        have h1 : ¬ P.fr g k < 0 := fun e => h (.inl (hz.2 e))
                        omega) (fun e => h (.inr e))
                      clear hst hpu hz hat
                      obtain ⟨t, ht⟩ : ∃ t, P.text g k = t := ⟨_, rfl⟩
                      rw [ht] at RD hz1 hz2
                      have HRT := Lib.hid RD; clear RD ht
                      have HZ1 := Lib.hid hz1; clear hz1
                      have HZ2 := Lib.hid hz2; clear hz2
                      have hSl := HS.out.2
                      clear HS
                      obtain ⟨n, hn⟩ : ∃ n, S.length = n := ⟨_, rfl⟩
                      rw [hn] at hSl
                      obtain ⟨so, sc, rfl, s1, s2⟩ := HV.formN hn
                      have HN := Lib.hid hn; clear hn
                      obtain ⟨Dx_c, Dx_f, Dx_z⟩ := Dx.all
                      go_wp2_with fail
                      clear Dx_c Dx_f Dx_z
                      with_reducible refine (HRT.out _ _ Ox).mono ?_
                      rintro e w21 ⟨rfl, hbk⟩
                      replace hbs := hbs.trans (hbk.mono hbs.size)
                      replace HV := HV.below hbk
                      clear hbk Dx Ox
                      go_wp2_with fail
                      with_reducible refine (HPZ.out _).mono ?_
                      rintro e w22 ⟨rfl, hbk⟩
                      replace hbs := hbs.trans (hbk.mono hbs.size)
                      replace HV := HV.below hbk
                      clear hbk
                      have eZ : (t.toList == zz.toList) = decide (t = zz) := bytes_eq t zz
                      go_wp2_with fail
                      go_loopw [19, 20] (fun mv iv wx => ∃ (j : Nat) (m : Bool), j ≤ n ∧ mv = .bool m ∧ iv = .int .i64 j ∧ Hid (MetTo m t zz S j) ∧ OwnStr wS.heap.size wx (.slice so n sc) S ∧ Below wS.heap.size wS wx) (fun _ iv _ => n - (intOf iv).toNat)
                      case atStart => exact ⟨0, decide (t = zz), by omega, by first | rfl | rw [eZ], rfl, MetTo.zero t zz S, HV, hbs⟩
                      case round =>
                        clear HV hbs eZ
                        obtain ⟨j, m, hj, rfl, rfl, HMT, HV, hbs⟩ := hrel
                        by_cases hjt : j < n
                        · obtain ⟨u, hu⟩ := get_lt (xs := S) (k := j) (by rw [HN.out]; exact hjt)
                          have j0 : (0 : Int) ≤ (j : Int) := by omega
                          have jn : (j : Int) < (n : Int) := by omega
                          cases m
                          · obtain ⟨b, off, rfl, hbx, hcx⟩ := HV.row.elem hu
                            have HNO := Lib.hid (MetTo.no HMT.out hu)
                            have eU : (u.toList == t.toList) = decide (u = t) := bytes_eq u t
                            clear hu HMT
                            go_wp2_with fail
                            go_roundw
                            case rel => exact ⟨j + 1, decide (u = t), by omega, by first | rfl | rw [eU], by go_num, HNO.out, HV, hbs⟩
                            case measure => simp [intOf]; omega
                          · clear hu
                            go_wp2_with fail
                            go_roundw
                            case rel => exact ⟨j + 1, true, by omega, rfl, by go_num, HMT.out.yes, HV, hbs⟩
                            case measure => simp [intOf]; omega
                        · obtain rfl : j = n := by omega
                          have hmt : m = true ↔ (t = zz ∨ t ∈ S) := by
                            have := HMT.out
                            unfold MetTo at this
                            rwa [← HN.out, List.take_length] at this
                          clear HMT
                          cases m
                          · have hse := HZ2.out (fun h => by have := hmt.2 h; cases this)
                            have HSE := Lib.hid hse; clear hse hmt HZ1 HZ2
                            have hraw := HV.raw
                            rw [HN.out] at hraw
                            have HR := Lib.hid hraw; clear hraw
                            have hbz := hbs.size
                            go_wp2_with (at_builtin; go_must (refine wpList_append_own _ rfl (.tmp 122) (.tmp 124) 22 rfl wS.heap.size 9 i0 (.string ⟨#[]⟩) 1 16 Try.underlying22 hi iz0 iz1 iz2 rfl (by decide) _ j (S.map Value.string) rfl (HR.out.alloc _) ⟨wr.heap.size, 0, none⟩ 1 1 [.string t] rfl rfl (cells_made _ [.string t] _ _ (by first | rfl | simp only [sizes])) (one_str _) (by unfold maxLen; omega) (by omega) (by first | exact Nat.le_refl _ | omega | (simp only [sizes]; omega)) ?_; intro v3 w3 hown3 hgrow3 _; have hb3 : Below wS.heap.size wS w3 := below_append' (by repeat (first | with_reducible exact Below.refl _ _ | with_reducible refine Below.drew ?_ | (with_reducible refine Below.alloc ?_ (by first | exact Nat.le_refl _ | omega | (simp only [sizes]; omega)) _) | (with_reducible refine Below.setCell ?_ (by first | exact Nat.le_refl _ | omega | (simp only [sizes]; omega)) _) | (refine Below.trans ?_ (Below.mono (by with_reducible assumption) (by first | exact Nat.le_refl _ | omega | (simp only [sizes]; omega)))))) (HR.out.alloc _) hgrow3 (by omega); have hz3 := hb3.size))
                            have hown : OwnStr wS.heap.size w3 v3 (S ++ [t]) := by
                              show w3.ownsRow wS.heap.size 9 1 v3 (S ++ [t]).length ((S ++ [t]).map Value.string)
                              rw [List.length_append, List.map_append, HN.out]
                              exact hown3
                            clear hown3 hgrow3 HR
                            replace hbs : Below wS.heap.size wS w3 := hb3
                            go_wp2_with fail
                            go_roundw
                            case rel => exact ⟨k + 1, S ++ [t], by omega, by go_num, ⟨HSE.out, by rw [List.length_append, HN.out]; show j + 1 ≤ _; omega⟩, hown, hbs⟩
                            case measure => simp [intOf]; omega
                          · have hse := HZ1.out (hmt.1 rfl)
                            have HSE := Lib.hid hse; clear hse hmt HZ1 HZ2
                            go_wp2_with fail
                            go_roundw
                            case rel => exact ⟨k + 1, S, by omega, by go_num, ⟨HSE.out, by rw [HN.out]; omega⟩, HV, hbs⟩
                            case measure => simp [intOf]; omega
                    · obtain rfl : k = 4 := by omega
                      go_wp2_with fail
                      go_roundw
                      case rel => exact ⟨g + 1, S, by omega, by go_num, ⟨HS.out.1.iff (before_next g), by have := HS.out.2; omega⟩, HV, hbs⟩
                      case measure => simp [intOf]; omega
                · obtain rfl : g = 2 := by omega
                  have hcount := HS.out.1.count HSP.out.ok (fun a b hab => by
                    have := (HSP.out.at' a b).1 hab
                    exact ⟨this.2, by omega⟩) HAP.out
                  rw [HSP.out.f] at hcount
                  clear HS HAP
                  obtain ⟨n, hn⟩ : ∃ n, S.length = n := ⟨_, rfl⟩
                  obtain ⟨x, hx⟩ : ∃ n, P.freeN = n := ⟨_, rfl⟩
                  rw [hx] at HFR
                  rw [hn, hx] at hcount
                  obtain ⟨so, sc, rfl, s1, s2⟩ := HV.formN hn
                  have ec : ((x : Int) == 8 - (n : Int)) = true := by rw [beq_iff_eq]; omega
                  have Dx := D0.below hbs
                  have Ox := O3.row.below hbs
                  clear hx hn HV
                  obtain ⟨Dx_c, Dx_f, Dx_z⟩ := Dx.all
                  go_wp2_with fail
                  clear Dx_c Dx_f Dx_z
                  with_reducible refine (HFR.out _ _ Ox).mono ?_
                  rintro e w31 ⟨rfl, hbk⟩
                  replace hbw := (hbw.trans (hbs.mono hbw.size)).trans (hbk.mono (Nat.le_trans hbw.size hbs.size))
                  clear hbk Dx Ox hbs
                  go_wp2_with fail
                  with_reducible refine (awake_any _).mono ?_
                  rintro e w32 ⟨rfl, hbk⟩
                  replace hbw := hbw.trans (hbk.mono hbw.size)
                  go_wp2_with fail
                  go_ret
                  exact Ret.mk hbw
            · have hr0 : r = 0 := by
                rcases Nat.lt_or_ge r 1 with h | h
                · omega
                · have := (HAL.out.2 (by omega)).2
                  cases this
              clear HAL
              subst hr0
              go_wp2_with fail
              go_roundw
              case rel => exact ⟨1, P, _, _, _, _, _, _, _, _, _, _, by omega, by go_num, HSP, (fun _ => HAP.out), D0, O3, hbw⟩
              case measure => simp [intOf]
end Go.Proofs.Ytjoopjgpjkmmhaa
