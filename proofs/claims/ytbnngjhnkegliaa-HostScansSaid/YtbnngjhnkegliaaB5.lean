/-
  Texts joined for the hand-in, in build order: PlLeast HoOk HoFns HoFns2 HoPush HoVic HoDraw HoSam HoClone. No law is proved here.
-/
import Derived.Test.YtbnngjhnkegliaaB4
import Derived.Test.YtbnngjhnkegliaaB2
import Derived.Test.YtbnngjhnkegliaaB1
namespace Go.Proofs.Ytbnngjhnkegliaa
open Go.RowKit

/-- No lesser frame has the page's content. -/
def Pl.least' (P : Pl) (g p : Nat) : Prop := ∀ u : Nat, (u : Int) < P.fr g p → P.F[u]? ≠ some (P.text g p)
theorem Pl.sok_least {P : Pl} (H : P.Ok) {g p : Nat} (h : P.at g p) : P.sok g p = false ↔ P.least' g p := by
  unfold Pl.sok Pl.goodS
  rw [Pl.at_has H h, Bool.true_and, Int.toNat_natCast, Int.toNat_natCast]
  by_cases h0 : 0 ≤ P.fr g p
  · obtain ⟨q, hq, hle, hF, hmin⟩ := Pl.least_some H h h0
    rw [decide_eq_true h0, Bool.true_and]
    unfold Pl.sok'
    rw [hq]
    dsimp only
    rw [Bool.not_eq_false', decide_eq_true_eq]
    constructor
    · intro e u hu
      exact hmin u (by omega)
    · intro hl
      rcases Int.lt_or_eq_of_le hle with h1 | h1
      · exact absurd hF (hl q h1)
      · exact h1
  · rw [decide_eq_false h0, Bool.false_and]
    exact ⟨fun _ u hu => by omega, fun _ => rfl⟩
theorem Pl.least_sh {P : Pl} {g p : Nat} (H : P.Ok) (h : P.at g p) (hl : P.least' g p) : P.sh g p = P := (Pl.sh_law H h).2 ((Pl.sok_least H h).2 hl)
/-- What a share does to frames and pages. -/
theorem Pl.sh_frames {P : Pl} (H : P.Ok) {g p : Nat} (h : P.at g p) : (∀ v : Nat, (P.sh g p).F[v]? = P.F[v]? ∨ (P.sh g p).F[v]? = some ⟨#[]⟩) ∧ (∀ a b, ¬ (g = a ∧ p = b) → (P.sh g p).fr a b = P.fr a b) ∧ (P.sh g p).least' g p ∧ (0 ≤ (P.sh g p).fr g p ↔ 0 ≤ P.fr g p) := by
  by_cases hs : P.sok g p = false
  · rw [(Pl.sh_law H h).2 hs]
    exact ⟨fun _ => .inl rfl, fun _ _ _ => rfl, (Pl.sok_least H h).1 hs, Iff.rfl⟩
  · have hsame := (Pl.sh_law H h).1.text g p h
    have hst : P.sok g p = true := by simpa using hs
    have hst' := hst
    unfold Pl.sok Pl.goodS at hst
    rw [Pl.at_has H h, Bool.true_and, Int.toNat_natCast, Int.toNat_natCast, Bool.and_eq_true, decide_eq_true_eq] at hst
    obtain ⟨h0, hk⟩ := hst
    obtain ⟨q, hq, hle, hF, hmin⟩ := Pl.least_some H h h0
    unfold Pl.sok' at hk
    rw [hq] at hk
    simp only [Bool.not_eq_true', decide_eq_false_iff_not] at hk
    have e : P.sh g p = P.join g p q := by
      unfold Pl.sh Pl.goodS
      rw [Pl.at_has H h, Bool.true_and, Int.toNat_natCast, Int.toNat_natCast, decide_eq_true h0, if_pos rfl]
      unfold Pl.sh'
      rw [hq]
      dsimp only
      rw [if_neg hk]
    obtain ⟨T, hF'⟩ := Pl.join_put H h (by omega) hF h0
    have G := H.gave h
    have hgood := Pl.text_good H h h0
    rw [← e] at T
    have hfr : ∀ v : Nat, (P.sh g p).F[v]? = P.F[v]? ∨ (P.sh g p).F[v]? = some ⟨#[]⟩ := by
      intro v
      rcases Nat.lt_or_ge v P.F.length with hv | hv
      · rw [T.txt v (by rw [G.al.f]; exact hv)]
        split
        · rename_i e
          rw [e, hF]
          exact .inl rfl
        · rw [G.txt v hv]
          split
          · exact .inr rfl
          · exact .inl rfl
      · left
        rw [List.getElem?_eq_none hv, List.getElem?_eq_none (by rw [T.al.f, G.al.f]; exact hv)]
    refine ⟨hfr, fun a b hab => ?_, ?_, ?_⟩
    · rw [T.fr, if_neg hab, G.fr, if_neg hab]
    · intro u hu
      rw [T.fr, if_pos ⟨rfl, rfl⟩] at hu
      rw [hsame]
      rcases hfr u with e1 | e1
      · rw [e1]
        exact hmin u (by omega)
      · rw [e1]
        intro e2
        injection e2 with e2
        rw [← e2] at hgood
        exact absurd hgood.1 (by decide)
    · rw [T.fr, if_pos ⟨rfl, rfl⟩]
      omega
theorem Pl.least_keep {P : Pl} (H : P.Ok) {g p a b : Nat} (h : P.at g p) (h' : P.at a b) (hl : P.least' a b) : (P.sh g p).least' a b := by
  obtain ⟨F1, F2, F3, F4⟩ := Pl.sh_frames H h
  by_cases e : g = a ∧ p = b
  · rw [← e.1, ← e.2]
    exact F3
  · intro u hu
    rw [F2 a b e] at hu
    rw [(Pl.sh_law H h).1.text a b h']
    rcases F1 u with e1 | e1
    · rw [e1]
      exact hl u hu
    · rw [e1]
      intro e2
      injection e2 with e2
      have := (Pl.text_good H h' (by omega)).1
      rw [← e2] at this
      exact absurd this (by decide)
/-! different contents are counted -/
theorem nodup_le {α : Type} [DecidableEq α] : ∀ {l m : List α}, l.Nodup → (∀ x ∈ l, x ∈ m) → l.length ≤ m.length
  | [], _, _, _ => Nat.zero_le _
  | a :: l, m, hn, hs => by
    rw [List.nodup_cons] at hn
    have ha := hs a (List.mem_cons_self ..)
    have ih := nodup_le (l := l) (m := m.erase a) hn.2 (fun x hx => by
      have hne : x ≠ a := fun e => hn.1 (e ▸ hx)
      exact (List.mem_erase_of_ne hne).2 (hs x (List.mem_cons_of_mem _ hx)))
    rw [List.length_erase_of_mem ha] at ih
    have : 0 < m.length := List.length_pos_of_mem ha
    rw [List.length_cons]
    omega
/-- The contents of the pages seen so far that have a frame, each once. -/
structure Seen (P : Pl) (vis : Nat → Nat → Prop) (S : List ByteArray) : Prop where
  nd : S.Nodup
  src : ∀ s ∈ S, ∃ a b, vis a b ∧ P.at a b ∧ 0 ≤ P.fr a b ∧ P.text a b = s
  all : ∀ a b, vis a b → P.at a b → 0 ≤ P.fr a b → P.text a b ∈ S
theorem Seen.nil (P : Pl) {vis : Nat → Nat → Prop} (h : ∀ a b, ¬ vis a b) : Seen P vis [] := ⟨List.nodup_nil, fun s hs => by simp at hs, fun a b hv => absurd hv (h a b)⟩
theorem Seen.stay {P : Pl} {vis vis' : Nat → Nat → Prop} {S : List ByteArray} (h : Seen P vis S) {g p : Nat} (hv : ∀ a b, vis' a b ↔ vis a b ∨ (a = g ∧ b = p)) (hm : P.fr g p < 0 ∨ P.text g p ∈ S) : Seen P vis' S :=
  ⟨h.nd, fun s hs => by
    obtain ⟨a, b, h1, h2⟩ := h.src s hs
    exact ⟨a, b, (hv a b).2 (.inl h1), h2⟩, fun a b h1 h2 h3 => by
    rcases (hv a b).1 h1 with h4 | ⟨rfl, rfl⟩
    · exact h.all a b h4 h2 h3
    · rcases hm with hm | hm
      · omega
      · exact hm⟩
theorem Seen.push {P : Pl} {vis vis' : Nat → Nat → Prop} {S : List ByteArray} (h : Seen P vis S) {g p : Nat} (hat : P.at g p) (hv : ∀ a b, vis' a b ↔ vis a b ∨ (a = g ∧ b = p)) (h0 : 0 ≤ P.fr g p) (hm : P.text g p ∉ S) : Seen P vis' (S ++ [P.text g p]) :=
  ⟨by
    rw [List.nodup_append]
    refine ⟨h.nd, by simp, fun x hx y hy e => ?_⟩
    simp at hy
    exact hm (by rw [← hy, ← e]; exact hx), fun s hs => by
    rw [List.mem_append] at hs
    rcases hs with hs | hs
    · obtain ⟨a, b, h1, h2⟩ := h.src s hs
      exact ⟨a, b, (hv a b).2 (.inl h1), h2⟩
    · simp at hs
      exact ⟨g, p, (hv g p).2 (.inr ⟨rfl, rfl⟩), hat, h0, hs.symm⟩, fun a b h1 h2 h3 => by
    rw [List.mem_append]
    rcases (hv a b).1 h1 with h4 | ⟨rfl, rfl⟩
    · exact .inl (h.all a b h4 h2 h3)
    · exact .inr (by simp)⟩
/-- The frames in use. -/
def Pl.used (P : Pl) (k : Nat) : List Nat := (List.range k).filter (fun v => !emptyB (P.txt v))
theorem Pl.used_len {P : Pl} : ∀ k : Nat, k ≤ P.F.length → (P.F.take k).countP emptyB + (P.used k).length = k
  | 0, _ => rfl
  | k + 1, h => by
    have ih := Pl.used_len (P := P) k (by omega)
    obtain ⟨s, hs⟩ := get_lt (xs := P.F) (k := k) (by omega)
    rw [countP_succ hs]
    have ht : P.txt k = s := by unfold Pl.txt; rw [hs]; rfl
    unfold Pl.used at ih ⊢
    rw [List.range_succ, List.filter_append, List.length_append]
    have e : (List.filter (fun v => !emptyB (P.txt v)) [k]).length = if emptyB s then 0 else 1 := by
      rw [List.filter_cons, ht]
      cases emptyB s <;> rfl
    rw [e]
    cases emptyB s
    · simp only [Bool.false_eq_true, if_false]
      omega
    · simp only [if_true]
      omega
theorem Pl.used_mem {P : Pl} (H : P.Ok) {v : Nat} : v ∈ P.used P.F.length ↔ ∃ a b, P.at a b ∧ P.fr a b = (v : Int) := by
  unfold Pl.used
  rw [List.mem_filter, List.mem_range]
  constructor
  · rintro ⟨hv, he⟩
    obtain ⟨s, hs, _, h1, _⟩ := H.fr v hv
    have ht : P.txt v = s := by unfold Pl.txt; rw [hs]; rfl
    rw [ht] at he
    have hc : P.cnt v ≠ 0 := fun e => by
      have := h1.1 e
      unfold emptyB at he
      rw [decide_eq_true this] at he
      cases he
    have hm : (v : Int) ∈ P.M.flatten := List.count_pos_iff.1 (Nat.pos_of_ne_zero hc)
    rw [List.mem_flatten] at hm
    obtain ⟨l, hl, hf⟩ := hm
    obtain ⟨a, ha⟩ := List.getElem?_of_mem hl
    obtain ⟨b, hb⟩ := List.getElem?_of_mem hf
    exact ⟨a, b, ⟨l, v, ha, hb⟩, Pl.fr_eq ha hb⟩
  · rintro ⟨a, b, hab, hf⟩
    have hb := H.at_bd hab
    have hv : v < P.F.length := by omega
    refine ⟨hv, ?_⟩
    have hg := Pl.text_good H hab (by omega)
    have ht : P.text a b = P.txt v := by unfold Pl.text; rw [hf, if_neg (by omega), Int.toNat_natCast]
    rw [ht] at hg
    unfold emptyB
    rw [decide_eq_false (by omega)]
    rfl
/-- As many frames in use as different contents. -/
theorem Seen.count {P : Pl} {vis : Nat → Nat → Prop} {S : List ByteArray} (h : Seen P vis S) (H : P.Ok) (hv : ∀ a b, P.at a b → vis a b) (hl : ∀ a b, P.at a b → P.least' a b) : P.freeN + S.length = P.F.length := by
  have h1 := Pl.used_len (P := P) P.F.length (Nat.le_refl _)
  rw [List.take_length] at h1
  have hU : ((P.used P.F.length).map P.txt).Nodup := by
    have hnd : (P.used P.F.length).Nodup := List.Pairwise.filter _ List.nodup_range
    unfold List.Nodup at hnd ⊢
    rw [List.pairwise_map]
    refine List.Pairwise.imp_of_mem (fun {u v} hu hw hne he => ?_) hnd
    obtain ⟨a, b, hab, hf⟩ := (Pl.used_mem H).1 hu
    obtain ⟨a', b', hab', hf'⟩ := (Pl.used_mem H).1 hw
    have e1 : P.text a b = P.txt u := by unfold Pl.text; rw [hf, if_neg (by omega), Int.toNat_natCast]
    have e2 : P.text a' b' = P.txt v := by unfold Pl.text; rw [hf', if_neg (by omega), Int.toNat_natCast]
    have b1 := H.at_bd hab
    have b2 := H.at_bd hab'
    have g1 : P.F[u]? = some (P.txt u) := by
      obtain ⟨s, hs⟩ := get_lt (xs := P.F) (k := u) (by omega)
      unfold Pl.txt
      rw [hs]
      rfl
    have g2 : P.F[v]? = some (P.txt v) := by
      obtain ⟨s, hs⟩ := get_lt (xs := P.F) (k := v) (by omega)
      unfold Pl.txt
      rw [hs]
      rfl
    rcases Nat.lt_or_gt_of_ne hne with hlt | hlt
    · exact hl a' b' hab' u (by omega) (by rw [g1, e2, he])
    · exact hl a b hab v (by omega) (by rw [g2, e1, he])
  have l1 := nodup_le hU (m := S) (fun x hx => by
    rw [List.mem_map] at hx
    obtain ⟨v, hv', rfl⟩ := hx
    obtain ⟨a, b, hab, hf⟩ := (Pl.used_mem H).1 hv'
    have e1 : P.text a b = P.txt v := by unfold Pl.text; rw [hf, if_neg (by omega), Int.toNat_natCast]
    rw [← e1]
    exact h.all a b (hv a b hab) hab (by omega))
  have l2 := nodup_le h.nd (m := (P.used P.F.length).map P.txt) (fun s hs => by
    obtain ⟨a, b, _, hab, h0, rfl⟩ := h.src s hs
    obtain ⟨j, hj⟩ : ∃ j : Nat, P.fr a b = j := ⟨(P.fr a b).toNat, by omega⟩
    rw [List.mem_map]
    refine ⟨j, (Pl.used_mem H).2 ⟨a, b, hab, hj⟩, ?_⟩
    unfold Pl.text
    rw [hj, if_neg (by omega), Int.toNat_natCast])
  rw [List.length_map] at l1 l2
  unfold Pl.freeN
  omega
end Go.Proofs.Ytbnngjhnkegliaa
namespace Go.Proofs.Ytbnngjhnkegliaa
open Go.RowKit

/-- The memory of a guest fits its pages. -/
structure GmOk (g : Gm) (l : List Int) : Prop where
  cv : validB g.c = true
  p0 : g.c.p = 0
  lim : ((l.countP hasB : Nat) : Int) ≤ g.c.l
  ls : g.s.length = l.length
  lu : g.u.length = l.length
  le : g.e.length = l.length
  hd : 0 ≤ g.h ∧ g.h < l.length
  us : ∀ (k : Nat) (f : Int) (b : Bool), l[k]? = some f → g.u[k]? = some b → f < 0 → b = false
  sw : ∀ (k : Nat) (f : Int) (t : ByteArray), l[k]? = some f → g.s[k]? = some t → t.size = 0 ∨ (f < 0 ∧ t.size = 128 ∧ zeroB t = false)
def sumR (G : List Gm) : Int := (G.map (fun g => g.c.r)).sum
theorem sumR_take {G : List Gm} {k : Nat} {g : Gm} (h : G[k]? = some g) : sumR (G.take (k + 1)) = sumR (G.take k) + g.c.r := by
  unfold sumR
  rw [List.take_add_one, h, List.map_append, List.sum_append]
  simp
def lenM (M : List (List Int)) : Nat := (M.map List.length).sum
theorem lenM_take {M : List (List Int)} {k : Nat} {l : List Int} (h : M[k]? = some l) : lenM (M.take (k + 1)) = lenM (M.take k) + l.length := by
  unfold lenM
  rw [List.take_add_one, h, List.map_append, List.sum_append]
  simp
structure Ho.Ok (H : Ho) : Prop where
  p : H.P.Ok
  m : H.G.length = H.P.M.length
  t : 0 ≤ H.t ∧ H.t ≤ 99
  d : 0 ≤ H.d ∧ H.d < 18446744073709551616
  g : ∀ (i : Nat) (g : Gm) (l : List Int), H.G[i]? = some g → H.P.M[i]? = some l → GmOk g l
  r : sumR H.G ≤ H.P.F.length
  n : 0 ≤ H.n ∧ H.n < max (lenM H.P.M : Int) 1
/-- A host as a value. -/
def HoAt (w : World) (v : Value) (H : Ho) : Prop := ∃ (of or' om og : Option Addr) (kf kr km kg : Nat), v = .agg #[.slice of H.P.F.length kf, .slice or' H.P.R.length kr, .slice om H.P.M.length km, .slice og H.G.length kg, .int .i64 H.t, .int .u64 H.d, .int .i64 H.n] ∧
  H.P.F.length ≤ kf ∧ kf ≤ 9223372036854775807 ∧ H.P.R.length ≤ kr ∧ kr ≤ 9223372036854775807 ∧ H.P.M.length ≤ km ∧ km ≤ 9223372036854775807 ∧ H.G.length ≤ kg ∧ kg ≤ 9223372036854775807 ∧ HoRow w (.slice of H.P.F.length kf) (.slice or' H.P.R.length kr) (.slice om H.P.M.length km) (.slice og H.G.length kg) H
theorem HoRow.at_ {w : World} {vf vr vm vg : Value} {H : Ho} (h : HoRow w vf vr vm vg H) : HoAt w (.agg #[vf, vr, vm, vg, .int .i64 H.t, .int .u64 H.d, .int .i64 H.n]) H := by
  obtain ⟨of, or', om, kf, kr, km, e, f1, f2, r1, r2, m1, m2⟩ := h.p.form
  obtain ⟨og, kg, rfl, g1, g2⟩ := h.form
  injection e with e
  injection e with e
  injection e with e1 e
  injection e with e2 e
  injection e with e3
  subst e1 e2 e3
  exact ⟨of, or', om, og, kf, kr, km, kg, rfl, f1, f2, r1, r2, m1, m2, g1, g2, h⟩
theorem OwnH.at_ {base : Nat} {w : World} {vf vr vm : Value} {us : List Value} {vg : Value} {gs : List Gv} {H : Ho} (h : OwnH base w vf vr vm us vg gs H) : HoAt w (.agg #[vf, vr, vm, vg, .int .i64 H.t, .int .u64 H.d, .int .i64 H.n]) H := h.row.at_
/-- A host handed back, its rows in memory that is no caller's. -/
def RetHoB (k : Value → Value) (H : Ho) (w : World) (e : Ending) (w' : World) : Prop := ∃ (of or' om og : Option Addr) (kf kr km kg : Nat) (us : List Value) (gs : List Gv), e = .returned (k (.agg #[.slice of H.P.F.length kf, .slice or' H.P.R.length kr, .slice om H.P.M.length km, .slice og H.G.length kg, .int .i64 H.t, .int .u64 H.d, .int .i64 H.n])) ∧
  OwnH w.heap.size w' (.slice of H.P.F.length kf) (.slice or' H.P.R.length kr) (.slice om H.P.M.length km) us (.slice og H.G.length kg) gs H ∧ Below w.heap.size w w'
theorem hoRet {k : Value → Value} {H H' : Ho} {base n r m q : Nat} {w w' : World} {of or' om og : Option Addr} {kf kr km kg : Nat} {us : List Value} {gs : List Gv} {t d s : Int} (e : H = H') (h1 : H'.P.F.length = n) (h2 : H'.P.R.length = r) (h3 : H'.P.M.length = m) (h4 : H'.G.length = q) (ht : H'.t = t) (hd : H'.d = d) (hs : H'.n = s) (h : OwnH base w' (.slice of n kf) (.slice or' r kr) (.slice om m km) us (.slice og q kg) gs H') (hb : Below w.heap.size w w') (hz : w.heap.size ≤ base := by omega) :
    RetHoB k H w (.returned (k (.agg #[.slice of n kf, .slice or' r kr, .slice om m km, .slice og q kg, .int .i64 t, .int .u64 d, .int .i64 s]))) w' := by
  subst e h1 h2 h3 h4 ht hd hs
  exact ⟨_, _, _, _, _, _, _, _, _, _, rfl, h.lower hz, hb⟩
theorem Ho.Ok.page {H : Ho} (h : H.Ok) {i : Nat} {g : Gm} (hg : H.G[i]? = some g) : ∃ l, H.P.M[i]? = some l ∧ GmOk g l := by
  obtain ⟨l, hl⟩ := get_lt (xs := H.P.M) (k := i) (by rw [← h.m]; exact lt_of_get hg)
  exact ⟨l, hl, h.g i g l hg hl⟩
theorem Ho.Ok.bounds {H : Ho} (h : H.Ok) : H.P.F.length ≤ 96 ∧ 1 ≤ H.P.F.length ∧ H.P.R.length ≤ 96 ∧ H.P.M.length ≤ 8 ∧ H.G.length ≤ 8 := by
  have := h.p.n1
  have := h.p.n2
  have := h.p.r
  have := h.p.m
  have := h.m
  omega
theorem GmOk.rb {g : Gm} {l : List Int} (h : GmOk g l) : 1 ≤ g.c.r ∧ g.c.r ≤ g.c.l ∧ g.c.l ≤ 96 ∧ 1 ≤ g.c.s ∧ g.c.s ≤ 1000 ∧ 0 ≤ g.c.p ∧ g.c.p ≤ 96 ∧ 0 ≤ g.c.a ∧ g.c.a ≤ 1000 := (validB_iff g.c).1 h.cv
theorem Ho.Ok.sum {H : Ho} (h : H.Ok) : ∀ k : Nat, k ≤ H.G.length → 0 ≤ sumR (H.G.take k) ∧ sumR (H.G.take k) ≤ 96 * k
  | 0, _ => by unfold sumR; simp
  | k + 1, hk => by
    obtain ⟨g, hg⟩ := get_lt (xs := H.G) (k := k) (by omega)
    obtain ⟨l, _, hok⟩ := h.page hg
    have := hok.rb
    have := h.sum k (by omega)
    rw [sumR_take hg]
    omega
theorem Ho.Ok.len {H : Ho} (h : H.Ok) : ∀ k : Nat, k ≤ H.P.M.length → lenM (H.P.M.take k) ≤ 32 * k
  | 0, _ => by simp [lenM]
  | k + 1, hk => by
    obtain ⟨l, hl⟩ := get_lt (xs := H.P.M) (k := k) (by omega)
    have := (h.p.l l (mem_at hl)).2
    have := h.len k (by omega)
    rw [lenM_take hl]
    omega
end Go.Proofs.Ytbnngjhnkegliaa
namespace Go.Proofs.Ytbnngjhnkegliaa
open Go.RowKit

set_option maxHeartbeats 2000000 in
theorem hcharge_any (lo : Option Addr) (lc : Nat) (l : List Int) (w : World) (h : NumRow w (.slice lo l.length lc) l) (hq : l.length ≤ 1000) : Calls Try.prog 35 #[.slice lo l.length lc] w (Ret w (.int .i64 ((l.countP hasB : Nat) : Int))) := by
  obtain ⟨q, hl⟩ : ∃ q, l.length = q := ⟨_, rfl⟩
  rw [hl] at h hq ⊢
  have HQ := Lib.hid hl; clear hl
  have HH := Lib.hid h; clear h
  go_enter Try.func35, Try.ntmps35
  go_wp2_with fail
  go_loop [3, 8] (fun c i => ∃ k : Nat, k ≤ q ∧ i = .int .i64 k ∧ c = .int .i64 ((l.take k).countP hasB : Nat)) (fun _ i => q - (intOf i).toNat)
  case atStart => exact ⟨0, Nat.zero_le _, rfl, rfl⟩
  case round =>
    obtain ⟨k, hk, rfl, rfl⟩ := hrel
    have hcl := countP_le hasB l k
    by_cases hlt : k < q
    · obtain ⟨f, hs⟩ := get_lt (xs := l) (k := k) (by rw [HQ.out]; exact hlt)
      obtain ⟨fb, foff, rfl, hfb, cf⟩ := HH.out.elem hs
      have hsu := countP_succ (q := hasB) hs
      obtain ⟨c, hc⟩ : ∃ c, (l.take k).countP hasB = c := ⟨_, rfl⟩
      rw [hc] at hsu hcl ⊢
      unfold hasB at hsu
      by_cases h0 : 0 ≤ f
      · rw [decide_eq_true h0] at hsu
        have HS := Lib.hid hsu; clear hsu hs hc
        go_wp2_with fail
        go_round
        case rel => exact ⟨k + 1, by omega, by go_num, by rw [show (l.take (k + 1)).countP hasB = c + 1 from HS.out]; go_num⟩
        case measure => simp [intOf]; omega
      · rw [decide_eq_false h0] at hsu
        have HS := Lib.hid hsu; clear hsu hs hc
        go_wp2_with fail
        go_round
        case rel => exact ⟨k + 1, by omega, by go_num, by rw [show (l.take (k + 1)).countP hasB = c from HS.out]⟩
        case measure => simp [intOf]; omega
    · obtain rfl : k = q := by omega
      have hall : l.take k = l := by rw [← HQ.out]; exact List.take_length
      rw [hall]
      clear hall
      go_wp2_with fail
      go_ret
      exact Ret.mk (by repeat (first | with_reducible exact Below.refl _ _ | with_reducible refine Below.drew ?_ | (with_reducible refine Below.alloc ?_ (by first | exact Nat.le_refl _ | omega | (simp only [sizes]; omega)) _) | (with_reducible refine Below.setCell ?_ (by first | exact Nat.le_refl _ | omega | (simp only [sizes]; omega)) _) | (refine Below.trans ?_ (Below.mono (by with_reducible assumption) (by first | exact Nat.le_refl _ | omega | (simp only [sizes]; omega))))))
set_option maxHeartbeats 4000000 in
theorem vguest_ok (g : Gm) (l : List Int) (so uo eo lo : Option Addr) (sc uc ec lc : Nat) (w : World) (hs : StrRow w (.slice so g.s.length sc) g.s) (hu : BoolRow w (.slice uo g.u.length uc) g.u) (hl : NumRow w (.slice lo l.length lc) l) (hok : GmOk g l) (hq : l.length ≤ 32) (hfb : ∀ f ∈ l, -1 ≤ f ∧ f ≤ 96) :
    Calls Try.prog 38 #[.agg #[.int .i64 g.c.r, .int .i64 g.c.l, .int .i64 g.c.s, .int .i64 g.c.p, .int .i64 g.c.a, .slice so g.s.length sc, .slice uo g.u.length uc, .int .i64 g.h, .slice eo g.e.length ec], .slice lo l.length lc] w (Ret w (.bool true)) := by
  obtain ⟨⟨r, cl, s, p, a⟩, S, U, hd, E⟩ := g
  obtain ⟨o1, o2, o3, o4, o5, o6, ⟨o7, o8⟩, o9, o10⟩ := hok
  dsimp only at o1 o2 o3 o4 o5 o6 o7 o8 o9 o10 hs hu ⊢
  subst o2
  have VC := fun w => idletax_Valid_is o1 w
  have CH := fun w h => hcharge_any lo lc l w h (by omega)
  rw [o4] at hs ⊢
  rw [o5] at hu ⊢
  rw [o6]
  obtain ⟨q, hlq⟩ : ∃ q, l.length = q := ⟨_, rfl⟩
  rw [hlq] at hs hu hl CH o8 hq o4 o5 ⊢
  obtain ⟨x, hx⟩ : ∃ x, l.countP hasB = x := ⟨_, rfl⟩
  have hxq : x ≤ q := by rw [← hx, ← hlq]; exact List.countP_le_length
  rw [hx] at CH o3
  clear o1 o6 hx
  have HVC := Lib.hid VC; clear VC
  have HCH := Lib.hid CH; clear CH
  have HS := Lib.hid hs; clear hs
  have HU := Lib.hid hu; clear hu
  have HL := Lib.hid hl; clear hl
  have H9 := Lib.hid o9; clear o9
  have H10 := Lib.hid o10; clear o10
  have HF := Lib.hid hfb; clear hfb
  have H4 := Lib.hid o4; clear o4
  have H5 := Lib.hid o5; clear o5
  have HLQ := Lib.hid hlq; clear hlq
  have D1 := HasBlock.made w #[.int .i64 r, .int .i64 cl, .int .i64 s, .int .i64 0, .int .i64 a, .slice so q sc, .slice uo q uc, .int .i64 hd, .slice eo q ec] 57
  have hbw : Below w.heap.size w (w.alloc (.cells #[.int .i64 r, .int .i64 cl, .int .i64 s, .int .i64 0, .int .i64 a, .slice so q sc, .slice uo q uc, .int .i64 hd, .slice eo q ec] 57)) := (Below.refl _ _).alloc (Nat.le_refl _) _
  go_enter Try.func38, Try.ntmps38
  go_wp2_with fail
  have t1 : decide ((x : Int) > cl) = false := decide_eq_false (by omega)
  have t2 : decide (cl < (x : Int)) = false := decide_eq_false (by omega)
  refine wp_region_quiet_below (by kernel_rfl) (by kernel_rfl) ?_
  repeat (go_big_quiet_step (first | fail | (go_at_call 41; with_reducible exact quiet_ret (HVC.out _)) | (go_at_call 35; with_reducible exact quiet_ret (HCH.out _ (HL.out.below (hbw.trans ((below_regrown _ _ _).mono hbw.size)))) )))
  refine wpQuiet_nil ?_
  intro w2 hw2
  have hb2 := below_of_regrown hw2
  clear hw2
  obtain ⟨hc2, hf2⟩ := bcell hb2
  have hz2 := bsize hb2
  try simp only [sizes1] at hz2
  try simp only [sizes] at hc2 hf2
  clear t1 t2 hc2 hf2 hz2
  replace D1 := D1.below hb2
  replace hbw := hbw.trans (hb2.mono hbw.size)
  clear hb2
  obtain ⟨D1_c, D1_f, D1_z⟩ := D1.all
  go_wp2_with fail
  clear D1_c D1_f D1_z
  go_loopw [61] (fun iv wr => ∃ k : Nat, k ≤ q ∧ iv = .int .i64 k ∧ HasBlock wr w.heap.size #[.int .i64 r, .int .i64 cl, .int .i64 s, .int .i64 0, .int .i64 a, .slice so q sc, .slice uo q uc, .int .i64 hd, .slice eo q ec] 57 ∧ Below w.heap.size w wr) (fun iv _ => q - (intOf iv).toNat)
  case atStart => exact ⟨0, by omega, rfl, D1, hbw⟩
  case round =>
    clear D1 hbw
    obtain ⟨k, hk, rfl, D1, hbw⟩ := hrel
    by_cases hlt : k < q
    · obtain ⟨f, hf⟩ := get_lt (xs := l) (k := k) (by rw [HLQ.out]; exact hlt)
      obtain ⟨t, ht⟩ := get_lt (xs := S) (k := k) (by rw [H4.out]; exact hlt)
      obtain ⟨b, hb⟩ := get_lt (xs := U) (k := k) (by rw [H5.out]; exact hlt)
      have c1 := H9.out k f b hf hb
      have c2 := H10.out k f t hf ht
      obtain ⟨fb, foff, rfl, hfb, cf⟩ := HL.out.elem hf
      obtain ⟨sb, soff, rfl, hsb, cs⟩ := HS.out.elem ht
      obtain ⟨ub, uoff, rfl, hub, cu⟩ := HU.out.elem hb
      replace cf := (hbw.cell (p := ⟨fb, foff + k, none⟩) hfb).trans cf
      replace cs := (hbw.cell (p := ⟨sb, soff + k, none⟩) hsb).trans cs
      replace cu := (hbw.cell (p := ⟨ub, uoff + k, none⟩) hub).trans cu
      have k0 : (0 : Int) ≤ (k : Int) := by omega
      have kq : (k : Int) < (q : Int) := by omega
      have hii := isEmpty_iff t
      have ZC := fun w => hzeros_any t w
      clear hf ht hb
      by_cases h0 : t.size = 0
      · rw [decide_eq_true h0] at hii
        clear ZC c2 h0
        by_cases hf0 : f < 0
        · obtain rfl := c1 hf0
          obtain ⟨D1_c, D1_f, D1_z⟩ := D1.all
          go_wp2_with fail
          clear D1_c D1_f D1_z
          go_roundw
          case rel => exact ⟨k + 1, by omega, by go_num, D1, hbw⟩
          case measure => simp [intOf]; omega
        · clear c1
          obtain ⟨D1_c, D1_f, D1_z⟩ := D1.all
          go_wp2_with fail
          clear D1_c D1_f D1_z
          go_roundw
          case rel => exact ⟨k + 1, by omega, by go_num, D1, hbw⟩
          case measure => simp [intOf]; omega
      · obtain ⟨d1, d2, d3⟩ := c2.resolve_left h0
        rw [d3] at ZC
        rw [decide_eq_false h0] at hii
        obtain rfl := c1 d1
        have HZC := Lib.hid ZC; clear ZC d3
        obtain ⟨D1_c, D1_f, D1_z⟩ := D1.all
        go_wp2_with fail
        with_reducible refine (HZC.out _).mono ?_
        rintro e w5 ⟨rfl, hbk⟩
        clear D1_c D1_f D1_z
        replace D1 := D1.below hbk
        replace hbw := hbw.trans (hbk.mono hbw.size)
        clear hbk
        obtain ⟨D1_c, D1_f, D1_z⟩ := D1.all
        go_wp2_with fail
        clear D1_c D1_f D1_z
        go_roundw
        case rel => exact ⟨k + 1, by omega, by go_num, D1, hbw⟩
        case measure => simp [intOf]; omega
    · obtain rfl : k = q := by omega
      go_wp2_with fail
      go_ret
      exact Ret.mk hbw
/-- The cells of a guest, as they lie in a box. -/
def gmArr (g : Gm) (vs vu ve : Value) : Array Value := #[.int .i64 g.c.r, .int .i64 g.c.l, .int .i64 g.c.s, .int .i64 g.c.p, .int .i64 g.c.a, vs, vu, .int .i64 g.h, ve]
set_option maxRecDepth 100000 in
set_option maxHeartbeats 8000000 in
theorem hvalid_ok (v : Value) (H : Ho) (w : World) (ha : HoAt w v H) (hok : H.Ok) : Calls Try.prog 20 #[v] w (Ret w (.bool true)) := by
  have VP := fun v w h => valid_pl v H.P w h hok.p.fit
  rw [Pl.ok_iff.2 hok.p] at VP
  have HVP := Lib.hid VP; clear VP
  obtain ⟨of, or', om, og, kf, kr, km, kg, rfl, kf1, kf2, kr1, kr2, km1, km2, kg1, kg2, h⟩ := ha
  obtain ⟨n, hn⟩ : ∃ n, H.P.F.length = n := ⟨_, rfl⟩
  obtain ⟨r, hr⟩ : ∃ n, H.P.R.length = n := ⟨_, rfl⟩
  obtain ⟨m, hm⟩ : ∃ n, H.P.M.length = n := ⟨_, rfl⟩
  obtain ⟨q, hq⟩ : ∃ n, H.G.length = n := ⟨_, rfl⟩
  obtain ⟨tx, htx⟩ : ∃ n, H.t = n := ⟨_, rfl⟩
  obtain ⟨dx, hdx⟩ : ∃ n, H.d = n := ⟨_, rfl⟩
  obtain ⟨sx, hsx⟩ : ∃ n, H.n = n := ⟨_, rfl⟩
  rw [hn] at h kf1 ⊢
  rw [hr] at h kr1 ⊢
  rw [hm] at h km1 ⊢
  rw [hq] at h kg1 ⊢
  rw [htx, hdx, hsx]
  have HN := Lib.hid hn; clear hn
  have HR := Lib.hid hr; clear hr
  have HM := Lib.hid hm; clear hm
  have HQ := Lib.hid hq; clear hq
  have HT := Lib.hid htx; clear htx
  have HD := Lib.hid hdx; clear hdx
  have HS := Lib.hid hsx; clear hsx
  have hmq : m = q := by rw [← HM.out, ← HQ.out, hok.m]
  have ht := hok.t
  rw [HT.out] at ht
  obtain ⟨ht0, ht9⟩ := ht
  have hbd := hok.bounds
  rw [HN.out, HM.out] at hbd
  have hsn := hok.n
  rw [HS.out] at hsn
  have hre := hok.r
  rw [HN.out] at hre
  obtain ⟨sumA, hsa⟩ : ∃ x, sumR H.G = x := ⟨_, rfl⟩
  obtain ⟨lenA, hla⟩ : ∃ x, lenM H.P.M = x := ⟨_, rfl⟩
  rw [hla] at hsn
  rw [hsa] at hre
  have HSA := Lib.hid hsa; clear hsa
  have HLA := Lib.hid hla; clear hla
  have HOK := Lib.hid hok; clear hok
  have e1 : ((q : Int) != (m : Int)) = false := by rw [hmq]; simp
  have e2 : (q != m) = false := by rw [hmq]; simp
  have HMQ := Lib.hid hmq; clear hmq
  have h0 := h
  have D1 := HasBlock.made w #[.slice of n kf, .slice or' r kr, .slice om m km, .slice og q kg, .int .i64 tx, .int .u64 dx, .int .i64 sx] 31
  have hbw : Below w.heap.size w (w.alloc (.cells #[.slice of n kf, .slice or' r kr, .slice om m km, .slice og q kg, .int .i64 tx, .int .u64 dx, .int .i64 sx] 31)) := (Below.refl _ _).alloc (Nat.le_refl _) _
  replace h := h.below hbw
  go_enter Try.func20, Try.ntmps20
  obtain ⟨D1_c, D1_f, D1_z⟩ := D1.all
  go_wp2_with fail
  clear D1_c D1_f D1_z
  with_reducible refine (HVP.out _ _ h.p).mono ?_
  rintro e w1 ⟨rfl, hbk⟩
  replace D1 := D1.below hbk
  replace h := h.below hbk
  replace hbw := hbw.trans (hbk.mono hbw.size)
  clear hbk
  obtain ⟨D1_c, D1_f, D1_z⟩ := D1.all
  go_wp2_with fail
  clear D1_c D1_f D1_z
  clear h
  go_loopw [3, 4, 34] (fun rv tv iv wr => ∃ i : Nat, i ≤ q ∧ rv = .int .i64 (sumR (H.G.take i)) ∧ tv = .int .i64 ((lenM (H.P.M.take i) : Nat) : Int) ∧ iv = .int .i64 i ∧ HasBlock wr w.heap.size #[.slice of n kf, .slice or' r kr, .slice om m km, .slice og q kg, .int .i64 tx, .int .u64 dx, .int .i64 sx] 31 ∧ Below w.heap.size w wr) (fun _ _ iv _ => q - (intOf iv).toNat)
  case atStart => exact ⟨0, by omega, rfl, rfl, rfl, D1, hbw⟩
  case round =>
    clear D1 hbw
    obtain ⟨i, hi, rfl, rfl, rfl, D1, hbw⟩ := hrel
    by_cases hlt : i < q
    · obtain ⟨g, hg⟩ := get_lt (xs := H.G) (k := i) (by rw [HQ.out]; exact hlt)
      obtain ⟨l, hl, hgo⟩ := HOK.out.page hg
      have hrb := hgo.rb
      have hll := HOK.out.p.l l (mem_at hl)
      have hsu := HOK.out.sum i (by rw [HQ.out]; omega)
      have hle := HOK.out.len i (by rw [HM.out, HMQ.out]; omega)
      have hs1 := sumR_take hg
      have hl1 := lenM_take hl
      obtain ⟨gb, goff, so, sc, uo, uc, eo, ec, rfl, hgb, s1, s2, u1, u2, e3, e4, cs, hS, hU, hE⟩ := h0.guest hg
      obtain ⟨mb, moff, lo, lc, rfl, hmb, cm0, lc1, lc2, hL⟩ := h0.p.guest hl
      have hfb : ∀ f ∈ l, -1 ≤ f ∧ f ≤ 96 := fun f hf => by
        have := HOK.out.p.pg l (mem_at hl) f hf
        have := HOK.out.p.n2
        omega
      have VG := fun w hs hu hl => vguest_ok g l so uo eo lo sc uc ec lc w hs hu hl hgo hll.2 hfb
      replace hS := hS.below hbw
      replace hU := hU.below hbw
      replace hL := hL.below hbw
      obtain ⟨⟨r1, cl1, s1', p1, a1⟩, S, U, hd, E⟩ := g
      have e5 := hgo.ls
      have e6 := hgo.lu
      have e7 := hgo.le
      dsimp only at e5 e6 e7 hrb hs1 s1 u1 e3 hS hU hE VG
      have c0 : wr.cell? ⟨gb, goff + i * 9, none⟩ = _ := (hbw.cell (p := ⟨gb, goff + i * 9, none⟩) hgb).trans (cs 0 _ rfl)
      have c1 : wr.cell? ⟨gb, goff + i * 9 + 1, none⟩ = _ := (hbw.cell (p := ⟨gb, goff + i * 9 + 1, none⟩) hgb).trans (cs 1 _ rfl)
      have c2 : wr.cell? ⟨gb, goff + i * 9 + 2, none⟩ = _ := (hbw.cell (p := ⟨gb, goff + i * 9 + 2, none⟩) hgb).trans (cs 2 _ rfl)
      have c3 : wr.cell? ⟨gb, goff + i * 9 + 3, none⟩ = _ := (hbw.cell (p := ⟨gb, goff + i * 9 + 3, none⟩) hgb).trans (cs 3 _ rfl)
      have c4 : wr.cell? ⟨gb, goff + i * 9 + 4, none⟩ = _ := (hbw.cell (p := ⟨gb, goff + i * 9 + 4, none⟩) hgb).trans (cs 4 _ rfl)
      have c5 : wr.cell? ⟨gb, goff + i * 9 + 5, none⟩ = _ := (hbw.cell (p := ⟨gb, goff + i * 9 + 5, none⟩) hgb).trans (cs 5 _ rfl)
      have c6 : wr.cell? ⟨gb, goff + i * 9 + 6, none⟩ = _ := (hbw.cell (p := ⟨gb, goff + i * 9 + 6, none⟩) hgb).trans (cs 6 _ rfl)
      have c7 : wr.cell? ⟨gb, goff + i * 9 + 7, none⟩ = _ := (hbw.cell (p := ⟨gb, goff + i * 9 + 7, none⟩) hgb).trans (cs 7 _ rfl)
      have c8 : wr.cell? ⟨gb, goff + i * 9 + 8, none⟩ = _ := (hbw.cell (p := ⟨gb, goff + i * 9 + 8, none⟩) hgb).trans (cs 8 _ rfl)
      clear cs hE
      obtain ⟨ql, hql⟩ : ∃ x, l.length = x := ⟨_, rfl⟩
      rw [hql] at hll hl1 cm0 lc1 hL VG e5 e6 e7
      rw [e5] at c5 hS VG
      rw [e6] at c6 hU VG
      rw [e7] at c8 VG
      have HVG := Lib.hid VG; clear VG
      obtain ⟨sA, hsA⟩ : ∃ x, sumR (H.G.take i) = x := ⟨_, rfl⟩
      obtain ⟨sL, hsL⟩ : ∃ x, lenM (H.P.M.take i) = x := ⟨_, rfl⟩
      rw [hsA] at hsu hs1 ⊢
      rw [hsL] at hle hl1 ⊢
      have HS1 := Lib.hid hs1; clear hs1 hsA
      have HL1 := Lib.hid hl1; clear hl1 hsL hql
      clear hg hl hgo hfb e5 e6 e7 s1 u1 e3
      have i0 : (0 : Int) ≤ (i : Int) := by omega
      have im : (i : Int) < (m : Int) := by have := HMQ.out; omega
      have iq : (i : Int) < (q : Int) := by omega
      have cm := (hbw.cell (p := ⟨mb, moff + i, none⟩) hmb).trans cm0
      obtain ⟨D1_c, D1_f, D1_z⟩ := D1.all
      go_wp2_with fail
      clear D1_c D1_f D1_z
      clear c0 c1 c2 c3 c4 c5 c6 c7 c8
      clear cm
      have hbx : Below wr.heap.size wr (wr.alloc (.cells #[.int .i64 r1, .int .i64 cl1, .int .i64 s1', .int .i64 p1, .int .i64 a1, .slice so ql sc, .slice uo ql uc, .int .i64 hd, .slice eo ql ec] 57)) := (Below.refl _ _).alloc (Nat.le_refl _) _
      have hwD2 := hbw.size
      have lD1 := D1.lt
      replace D1 := D1.below hbx
      replace hS := hS.below hbx
      replace hU := hU.below hbx
      replace hL := hL.below hbx
      have D2 := HasBlock.made wr #[.int .i64 r1, .int .i64 cl1, .int .i64 s1', .int .i64 p1, .int .i64 a1, .slice so ql sc, .slice uo ql uc, .int .i64 hd, .slice eo ql ec] 57
      replace hbw := hbw.trans (hbx.mono hbw.size)
      clear hbx
      obtain ⟨B2, hB⟩ : ∃ B, wr.heap.size = B := ⟨_, rfl⟩
      rw [hB] at D2 hwD2 ⊢
      rw [hB] at lD1
      generalize hW : wr.alloc (.cells #[.int .i64 r1, .int .i64 cl1, .int .i64 s1', .int .i64 p1, .int .i64 a1, .slice so ql sc, .slice uo ql uc, .int .i64 hd, .slice eo ql ec] 57) = w5 at D1 D2 hS hU hL hbw ⊢
      clear hW hB
      have HS' := Lib.hid hS; clear hS
      have HU' := Lib.hid hU; clear hU
      have HL' := Lib.hid hL; clear hL
      have cm := (hbw.cell (p := ⟨mb, moff + i, none⟩) hmb).trans cm0
      have hmb2 : mb < w5.heap.size := by have := hbw.size; omega
      obtain ⟨D1_c, D1_f, D1_z⟩ := D1.all
      obtain ⟨D2_c, D2_f, D2_z⟩ := D2.all
      refine wp_region_quiet_below (by kernel_rfl) (by kernel_rfl) ?_
      repeat (go_big_quiet_step (first | fail | (go_at_call 38; with_reducible exact quiet_ret (HVG.out _ (HS'.out.below (below_regrown _ _ _)) (HU'.out.below (below_regrown _ _ _)) (HL'.out.below (below_regrown _ _ _))))))
      refine wpQuiet_nil ?_
      intro w6 hw6
      have hb6 := below_of_regrown hw6
      clear hw6
      obtain ⟨hc6, hf6⟩ := bcell hb6
      have hz6 := bsize hb6
      try simp only [sizes1] at hz6
      try simp only [sizes] at hc6 hf6
      clear hc6 hf6 hz6 cm hmb2
      clear D1_c D1_f D1_z
      clear D2_c D2_f D2_z
      replace D1 := D1.below hb6
      replace D2 := D2.below hb6
      replace hbw := hbw.trans (hb6.mono hbw.size)
      clear hb6
      have cm := (hbw.cell (p := ⟨mb, moff + i, none⟩) hmb).trans cm0
      obtain ⟨D1_c, D1_f, D1_z⟩ := D1.all
      obtain ⟨D2_c, D2_f, D2_z⟩ := D2.all
      go_wp2_with fail
      clear D1_c D1_f D1_z
      clear D2_c D2_f D2_z
      go_roundw
      case rel => exact ⟨i + 1, by omega, by rw [HS1.out] <;> go_num, by rw [HL1.out] <;> go_num, by go_num, D1, hbw⟩
      case measure => simp [intOf]; omega
    · obtain rfl : i = q := by omega
      have hallG : H.G.take i = H.G := by rw [← HQ.out]; exact List.take_length
      have hallM : H.P.M.take i = H.P.M := by rw [← HMQ.out, ← HM.out]; exact List.take_length
      rw [hallG, hallM, HSA.out, HLA.out]
      clear hallG hallM
      have t1 : decide (sumA ≤ (n : Int)) = true := decide_eq_true hre
      obtain ⟨D1_c, D1_f, D1_z⟩ := D1.all
      go_wp2_with fail
      go_ret
      exact Ret.mk hbw
end Go.Proofs.Ytbnngjhnkegliaa
namespace Go.Proofs.Ytbnngjhnkegliaa
open Go.RowKit

set_option maxHeartbeats 2000000 in
theorem hhasG_ok (v : Value) (H : Ho) (i : Nat) (w : World) (ha : HoAt w v H) (hok : H.Ok) (hi : i < H.G.length) : Calls Try.prog 34 #[v, .int .i64 i] w (Ret w (.bool true)) := by
  have V := fun v w h => hvalid_ok v H w h hok
  have HV := Lib.hid V; clear V
  obtain ⟨of, or', om, og, kf, kr, km, kg, rfl, kf1, kf2, kr1, kr2, km1, km2, kg1, kg2, h⟩ := ha
  obtain ⟨n, hn⟩ : ∃ n, H.P.F.length = n := ⟨_, rfl⟩
  obtain ⟨r, hr⟩ : ∃ n, H.P.R.length = n := ⟨_, rfl⟩
  obtain ⟨m, hm⟩ : ∃ n, H.P.M.length = n := ⟨_, rfl⟩
  obtain ⟨q, hq⟩ : ∃ n, H.G.length = n := ⟨_, rfl⟩
  obtain ⟨tx, htx⟩ : ∃ n, H.t = n := ⟨_, rfl⟩
  obtain ⟨dx, hdx⟩ : ∃ n, H.d = n := ⟨_, rfl⟩
  obtain ⟨sx, hsx⟩ : ∃ n, H.n = n := ⟨_, rfl⟩
  rw [hn] at h kf1 ⊢
  rw [hr] at h kr1 ⊢
  rw [hm] at h km1 ⊢
  rw [hq] at h kg1 ⊢
  rw [htx, hdx, hsx]
  have HN := Lib.hid hn; clear hn
  have HR := Lib.hid hr; clear hr
  have HM := Lib.hid hm; clear hm
  have HQ := Lib.hid hq; clear hq
  have HT := Lib.hid htx; clear htx
  have HD := Lib.hid hdx; clear hdx
  have HS := Lib.hid hsx; clear hsx
  rw [HQ.out] at hi
  have h0 := h
  have HA : Hid (∀ w' : World, Below w.heap.size w w' → HoAt w' (.agg #[.slice of n kf, .slice or' r kr, .slice om m km, .slice og q kg, .int .i64 tx, .int .u64 dx, .int .i64 sx]) H) := Lib.hid (fun w' hb => by
    have := (h0.below hb).at_
    rwa [HT.out, HD.out, HS.out] at this)
  have D1 := HasBlock.made w #[.slice of n kf, .slice or' r kr, .slice om m km, .slice og q kg, .int .i64 tx, .int .u64 dx, .int .i64 sx] 31
  have hbw : Below w.heap.size w (w.alloc (.cells #[.slice of n kf, .slice or' r kr, .slice om m km, .slice og q kg, .int .i64 tx, .int .u64 dx, .int .i64 sx] 31)) := (Below.refl _ _).alloc (Nat.le_refl _) _
  replace h := h.below hbw
  go_enter Try.func34, Try.ntmps34
  obtain ⟨D1_c, D1_f, D1_z⟩ := D1.all
  go_wp2_with fail
  clear D1_c D1_f D1_z
  with_reducible refine (HV.out _ _ (HA.out _ hbw)).mono ?_
  rintro e w1 ⟨rfl, hbk⟩
  replace D1 := D1.below hbk
  replace h := h.below hbk
  replace hbw := hbw.trans (hbk.mono hbw.size)
  clear hbk
  have iq : (i : Int) < (q : Int) := by omega
  obtain ⟨D1_c, D1_f, D1_z⟩ := D1.all
  go_wp2_with fail
  go_ret
  exact Ret.mk hbw
/-- A page of a valid host. -/
theorem Ho.Ok.at_lt {H : Ho} (hok : H.Ok) {i p : Nat} (hat : H.P.at i p) : i < H.G.length := by
  obtain ⟨l, f, hl, hp⟩ := hat
  rw [hok.m]
  exact lt_of_get hl
set_option maxHeartbeats 2000000 in
theorem hhas_ok (v : Value) (H : Ho) (i p : Nat) (w : World) (ha : HoAt w v H) (hok : H.Ok) (hat : H.P.at i p) : Calls Try.prog 25 #[v, .int .i64 i, .int .i64 p] w (Ret w (.bool true)) := by
  have V := fun v w h => hhasG_ok v H i w h hok (hok.at_lt hat)
  have HV := Lib.hid V; clear V
  obtain ⟨l, f, hl, hp⟩ := hat
  obtain ⟨of, or', om, og, kf, kr, km, kg, rfl, kf1, kf2, kr1, kr2, km1, km2, kg1, kg2, h⟩ := ha
  obtain ⟨n, hn⟩ : ∃ n, H.P.F.length = n := ⟨_, rfl⟩
  obtain ⟨r, hr⟩ : ∃ n, H.P.R.length = n := ⟨_, rfl⟩
  obtain ⟨m, hm⟩ : ∃ n, H.P.M.length = n := ⟨_, rfl⟩
  obtain ⟨q, hq⟩ : ∃ n, H.G.length = n := ⟨_, rfl⟩
  obtain ⟨tx, htx⟩ : ∃ n, H.t = n := ⟨_, rfl⟩
  obtain ⟨dx, hdx⟩ : ∃ n, H.d = n := ⟨_, rfl⟩
  obtain ⟨sx, hsx⟩ : ∃ n, H.n = n := ⟨_, rfl⟩
  rw [hn] at h kf1 ⊢
  rw [hr] at h kr1 ⊢
  rw [hm] at h km1 ⊢
  rw [hq] at h kg1 ⊢
  rw [htx, hdx, hsx]
  have HN := Lib.hid hn; clear hn
  have HR := Lib.hid hr; clear hr
  have HM := Lib.hid hm; clear hm
  have HQ := Lib.hid hq; clear hq
  have HT := Lib.hid htx; clear htx
  have HD := Lib.hid hdx; clear hdx
  have HS := Lib.hid hsx; clear hsx
  have hi : i < m := by rw [← HM.out]; exact lt_of_get hl
  have hpl := lt_of_get hp
  have h0 := h
  have HA : Hid (∀ w' : World, Below w.heap.size w w' → HoAt w' (.agg #[.slice of n kf, .slice or' r kr, .slice om m km, .slice og q kg, .int .i64 tx, .int .u64 dx, .int .i64 sx]) H) := Lib.hid (fun w' hb => by
    have := (h0.below hb).at_
    rwa [HT.out, HD.out, HS.out] at this)
  have D1 := HasBlock.made w #[.slice of n kf, .slice or' r kr, .slice om m km, .slice og q kg, .int .i64 tx, .int .u64 dx, .int .i64 sx] 31
  have hbw : Below w.heap.size w (w.alloc (.cells #[.slice of n kf, .slice or' r kr, .slice om m km, .slice og q kg, .int .i64 tx, .int .u64 dx, .int .i64 sx] 31)) := (Below.refl _ _).alloc (Nat.le_refl _) _
  replace h := h.below hbw
  obtain ⟨mb, moff, lo, lc, rfl, hmb, cm0, lc1, lc2, hL⟩ := h0.p.guest hl
  clear hL
  obtain ⟨ql, hql⟩ : ∃ x, l.length = x := ⟨_, rfl⟩
  rw [hql] at cm0 lc1 hpl
  clear hl hp hql h0
  go_enter Try.func25, Try.ntmps25
  obtain ⟨D1_c, D1_f, D1_z⟩ := D1.all
  go_wp2_with fail
  clear D1_c D1_f D1_z
  with_reducible refine (HV.out _ _ (HA.out _ hbw)).mono ?_
  rintro e w1 ⟨rfl, hbk⟩
  replace D1 := D1.below hbk
  replace h := h.below hbk
  replace hbw := hbw.trans (hbk.mono hbw.size)
  clear hbk
  have iq : (i : Int) < (m : Int) := by omega
  have pq : (p : Int) < (ql : Int) := by omega
  have cm := (hbw.cell (p := ⟨mb, moff + i, none⟩) hmb).trans cm0
  obtain ⟨D1_c, D1_f, D1_z⟩ := D1.all
  go_wp2_with fail
  go_ret
  exact Ret.mk hbw
/-- A page without a frame, or one that is shared. -/
def Pl.need (P : Pl) (i p : Nat) : Bool := decide (P.fr i p < 0) || decide (1 < P.ref (P.fr i p).toNat)
set_option maxHeartbeats 2000000 in
theorem hneed_ok (v : Value) (H : Ho) (i p : Nat) (w : World) (ha : HoAt w v H) (hok : H.P.Ok) (hat : H.P.at i p) : Calls Try.prog 27 #[v, .int .i64 i, .int .i64 p] w (Ret w (.bool (H.P.need i p))) := by
  have hbd := hok.at_bd hat
  obtain ⟨l, f, hl, hp⟩ := hat
  have hfr := Pl.fr_eq hl hp
  unfold Pl.need
  rw [hfr] at hbd ⊢
  have hrl := hok.r
  have hcl := fun j => hok.cnt_le j
  have hrc : ∀ j : Nat, j < H.P.F.length → ∃ x, H.P.R[j]? = some x ∧ H.P.ref j = x := fun j hj => by
    obtain ⟨x, hx⟩ := get_lt (xs := H.P.R) (k := j) (by rw [hrl]; exact hj)
    exact ⟨x, hx, by unfold Pl.ref; rw [hx]; rfl⟩
  obtain ⟨of, or', om, og, kf, kr, km, kg, rfl, kf1, kf2, kr1, kr2, km1, km2, kg1, kg2, h⟩ := ha
  obtain ⟨n, hn⟩ : ∃ n, H.P.F.length = n := ⟨_, rfl⟩
  obtain ⟨r, hr⟩ : ∃ n, H.P.R.length = n := ⟨_, rfl⟩
  obtain ⟨m, hm⟩ : ∃ n, H.P.M.length = n := ⟨_, rfl⟩
  obtain ⟨q, hq⟩ : ∃ n, H.G.length = n := ⟨_, rfl⟩
  obtain ⟨tx, htx⟩ : ∃ n, H.t = n := ⟨_, rfl⟩
  obtain ⟨dx, hdx⟩ : ∃ n, H.d = n := ⟨_, rfl⟩
  obtain ⟨sx, hsx⟩ : ∃ n, H.n = n := ⟨_, rfl⟩
  rw [hn] at h kf1 ⊢
  rw [hr] at h kr1 ⊢
  rw [hm] at h km1 ⊢
  rw [hq] at h kg1 ⊢
  rw [htx, hdx, hsx]
  have HN := Lib.hid hn; clear hn
  have HR := Lib.hid hr; clear hr
  have HM := Lib.hid hm; clear hm
  have HQ := Lib.hid hq; clear hq
  have HT := Lib.hid htx; clear htx
  have HD := Lib.hid hdx; clear hdx
  have HS := Lib.hid hsx; clear hsx
  have hi : i < m := by rw [← HM.out]; exact lt_of_get hl
  have hpl := lt_of_get hp
  have h0 := h
  have D1 := HasBlock.made w #[.slice of n kf, .slice or' r kr, .slice om m km, .slice og q kg, .int .i64 tx, .int .u64 dx, .int .i64 sx] 31
  have hbw : Below w.heap.size w (w.alloc (.cells #[.slice of n kf, .slice or' r kr, .slice om m km, .slice og q kg, .int .i64 tx, .int .u64 dx, .int .i64 sx] 31)) := (Below.refl _ _).alloc (Nat.le_refl _) _
  replace h := h.below hbw
  obtain ⟨mb, moff, lo, lc, rfl, hmb, cm0, lc1, lc2, hL⟩ := h0.p.guest hl
  obtain ⟨fb, foff, rfl, hfb, cf0⟩ := hL.elem hp
  clear hL
  obtain ⟨ql, hql⟩ : ∃ x, l.length = x := ⟨_, rfl⟩
  rw [hql] at cm0 lc1 hpl
  rw [HN.out] at hbd hrc
  rw [HR.out, HN.out] at hrl
  have HRL := Lib.hid hrl; clear hrl
  clear hl hp hql hfr hok hcl
  have i0 : (0 : Int) ≤ (i : Int) := by omega
  have iq : (i : Int) < (m : Int) := by omega
  have p0 : (0 : Int) ≤ (p : Int) := by omega
  have pq : (p : Int) < (ql : Int) := by omega
  by_cases hf : f < 0
  · rw [decide_eq_true hf, Bool.true_or]
    clear hrc h0
    have cm := (hbw.cell (p := ⟨mb, moff + i, none⟩) hmb).trans cm0
    have cf := (hbw.cell (p := ⟨fb, foff + p, none⟩) hfb).trans cf0
    go_enter Try.func27, Try.ntmps27
    go_wp2_with fail
    go_ret
    exact Ret.mk hbw
  · rw [decide_eq_false hf, Bool.false_or]
    obtain ⟨j, rfl⟩ : ∃ j : Nat, f = j := ⟨f.toNat, by omega⟩
    rw [Int.toNat_natCast]
    obtain ⟨x, hx, hx2⟩ := hrc j (by omega)
    rw [hx2]
    obtain ⟨rb, roff, rfl, hrb, cr0⟩ := h0.p.parts.2.1.elem hx
    clear hrc hx hx2 h0
    have jr : (j : Int) < (r : Int) := by have := HRL.out; omega
    have cm := (hbw.cell (p := ⟨mb, moff + i, none⟩) hmb).trans cm0
    have cf := (hbw.cell (p := ⟨fb, foff + p, none⟩) hfb).trans cf0
    have cr := (hbw.cell (p := ⟨rb, roff + j, none⟩) hrb).trans cr0
    go_enter Try.func27, Try.ntmps27
    go_wp2_with fail
    go_ret
    exact Ret.mk hbw
def Ho.full (H : Ho) (i p : Nat) : Bool := decide (H.P.freeN = 0) && H.P.need i p
set_option maxHeartbeats 2000000 in
theorem hfull_ok (v : Value) (H : Ho) (i p : Nat) (w : World) (ha : HoAt w v H) (hok : H.P.Ok) (hat : H.P.at i p) : Calls Try.prog 48 #[v, .int .i64 i, .int .i64 p] w (Ret w (.bool (H.full i p))) := by
  have FR := fun v w h => pfree_any v H.P w h hok.fit
  have hfree : H.P.free = H.P.freeN := by unfold Pl.free; rw [Pl.ok_iff.2 hok, if_pos rfl]
  rw [hfree] at FR
  have V := fun v w h => hneed_ok v H i p w h hok hat
  unfold Ho.full
  obtain ⟨x, hx⟩ : ∃ x, H.P.freeN = x := ⟨_, rfl⟩
  obtain ⟨b, hb⟩ : ∃ x, H.P.need i p = x := ⟨_, rfl⟩
  rw [hx] at FR ⊢
  rw [hb] at V ⊢
  have HV := Lib.hid V; clear V
  have HF := Lib.hid FR; clear FR hok hat hfree hx hb
  obtain ⟨of, or', om, og, kf, kr, km, kg, rfl, kf1, kf2, kr1, kr2, km1, km2, kg1, kg2, h⟩ := ha
  obtain ⟨n, hn⟩ : ∃ n, H.P.F.length = n := ⟨_, rfl⟩
  obtain ⟨r, hr⟩ : ∃ n, H.P.R.length = n := ⟨_, rfl⟩
  obtain ⟨m, hm⟩ : ∃ n, H.P.M.length = n := ⟨_, rfl⟩
  obtain ⟨q, hq⟩ : ∃ n, H.G.length = n := ⟨_, rfl⟩
  obtain ⟨tx, htx⟩ : ∃ n, H.t = n := ⟨_, rfl⟩
  obtain ⟨dx, hdx⟩ : ∃ n, H.d = n := ⟨_, rfl⟩
  obtain ⟨sx, hsx⟩ : ∃ n, H.n = n := ⟨_, rfl⟩
  rw [hn] at h kf1 ⊢
  rw [hr] at h kr1 ⊢
  rw [hm] at h km1 ⊢
  rw [hq] at h kg1 ⊢
  rw [htx, hdx, hsx]
  have HN := Lib.hid hn; clear hn
  have HR := Lib.hid hr; clear hr
  have HM := Lib.hid hm; clear hm
  have HQ := Lib.hid hq; clear hq
  have HT := Lib.hid htx; clear htx
  have HD := Lib.hid hdx; clear hdx
  have HS := Lib.hid hsx; clear hsx
  have h0 := h
  have HA : Hid (∀ w' : World, Below w.heap.size w w' → HoAt w' (.agg #[.slice of n kf, .slice or' r kr, .slice om m km, .slice og q kg, .int .i64 tx, .int .u64 dx, .int .i64 sx]) H) := Lib.hid (fun w' hb => by
    have := (h0.below hb).at_
    rwa [HT.out, HD.out, HS.out] at this)
  clear h0
  have D1 := HasBlock.made w #[.slice of n kf, .slice or' r kr, .slice om m km, .slice og q kg, .int .i64 tx, .int .u64 dx, .int .i64 sx] 31
  have hbw : Below w.heap.size w (w.alloc (.cells #[.slice of n kf, .slice or' r kr, .slice om m km, .slice og q kg, .int .i64 tx, .int .u64 dx, .int .i64 sx] 31)) := (Below.refl _ _).alloc (Nat.le_refl _) _
  replace h := h.below hbw
  by_cases h0 : x = 0
  · rw [decide_eq_true h0, Bool.true_and]
    have e1 : ((x : Int) == 0) = true := by rw [beq_iff_eq]; omega
    have e2 : (x == 0) = true := by rw [beq_iff_eq]; omega
    clear h0
    go_enter Try.func48, Try.ntmps48
    obtain ⟨D1_c, D1_f, D1_z⟩ := D1.all
    go_wp2_with fail
    clear D1_c D1_f D1_z
    with_reducible refine (HF.out _ _ h.p).mono ?_
    rintro e w1 ⟨rfl, hbk⟩
    replace D1 := D1.below hbk
    replace h := h.below hbk
    replace hbw := hbw.trans (hbk.mono hbw.size)
    clear hbk
    obtain ⟨D1_c, D1_f, D1_z⟩ := D1.all
    go_wp2_with fail
    clear D1_c D1_f D1_z
    with_reducible refine (HV.out _ _ (HA.out _ hbw)).mono ?_
    rintro e w2 ⟨rfl, hbk⟩
    replace D1 := D1.below hbk
    replace h := h.below hbk
    replace hbw := hbw.trans (hbk.mono hbw.size)
    clear hbk
    obtain ⟨D1_c, D1_f, D1_z⟩ := D1.all
    go_wp2_with fail
    go_ret
    exact Ret.mk hbw
  · rw [decide_eq_false h0, Bool.false_and]
    have e1 : ((x : Int) == 0) = false := by rw [beq_eq_false_iff_ne]; omega
    have e2 : (x == 0) = false := by rw [beq_eq_false_iff_ne]; omega
    clear h0
    go_enter Try.func48, Try.ntmps48
    obtain ⟨D1_c, D1_f, D1_z⟩ := D1.all
    go_wp2_with fail
    clear D1_c D1_f D1_z
    with_reducible refine (HF.out _ _ h.p).mono ?_
    rintro e w1 ⟨rfl, hbk⟩
    replace D1 := D1.below hbk
    replace h := h.below hbk
    replace hbw := hbw.trans (hbk.mono hbw.size)
    clear hbk
    obtain ⟨D1_c, D1_f, D1_z⟩ := D1.all
    go_wp2_with fail
    go_ret
    exact Ret.mk hbw
end Go.Proofs.Ytbnngjhnkegliaa
namespace Go.Proofs.Ytbnngjhnkegliaa
open Go.RowKit

section
variable {w : World} {b : Nat} {T : TypeId} {x0 x1 x2 x3 x4 x5 x6 : Value}
theorem HasBlock.put7_0 (h : HasBlock w b #[x0, x1, x2, x3, x4, x5, x6] T) (v : Value) : HasBlock (w.setCell ⟨b, 0, none⟩ v) b #[v, x1, x2, x3, x4, x5, x6] T := by simpa using h.set_at 0 v
theorem HasBlock.put7_1 (h : HasBlock w b #[x0, x1, x2, x3, x4, x5, x6] T) (v : Value) : HasBlock (w.setCell ⟨b, 1, none⟩ v) b #[x0, v, x2, x3, x4, x5, x6] T := by simpa using h.set_at 1 v
theorem HasBlock.put7_2 (h : HasBlock w b #[x0, x1, x2, x3, x4, x5, x6] T) (v : Value) : HasBlock (w.setCell ⟨b, 2, none⟩ v) b #[x0, x1, v, x3, x4, x5, x6] T := by simpa using h.set_at 2 v
theorem HasBlock.put7_3 (h : HasBlock w b #[x0, x1, x2, x3, x4, x5, x6] T) (v : Value) : HasBlock (w.setCell ⟨b, 3, none⟩ v) b #[x0, x1, x2, v, x4, x5, x6] T := by simpa using h.set_at 3 v
theorem HasBlock.put7_5 (h : HasBlock w b #[x0, x1, x2, x3, x4, x5, x6] T) (v : Value) : HasBlock (w.setCell ⟨b, 5, none⟩ v) b #[x0, x1, x2, x3, x4, v, x6] T := by simpa using h.set_at 5 v
theorem HasBlock.put7_6 (h : HasBlock w b #[x0, x1, x2, x3, x4, x5, x6] T) (v : Value) : HasBlock (w.setCell ⟨b, 6, none⟩ v) b #[x0, x1, x2, x3, x4, x5, v] T := by simpa using h.set_at 6 v
theorem HasBlock.poolIn (h : HasBlock w b #[x0, x1, x2, x3, x4, x5, x6] T) (u v z : Value) : HasBlock (((w.setCell ⟨b, 0, none⟩ u).setCell ⟨b, 1, none⟩ v).setCell ⟨b, 2, none⟩ z) b #[u, v, z, x3, x4, x5, x6] T := ((h.put7_0 u).put7_1 v).put7_2 z
end
theorem HasBlock.put9_5 {w : World} {b : Nat} {T : TypeId} {x0 x1 x2 x3 x4 x5 x6 x7 x8 : Value} (h : HasBlock w b #[x0, x1, x2, x3, x4, x5, x6, x7, x8] T) (v : Value) : HasBlock (w.setCell ⟨b, 5, none⟩ v) b #[x0, x1, x2, x3, x4, v, x6, x7, x8] T := by simpa using h.set_at 5 v
theorem HasBlock.put9_6 {w : World} {b : Nat} {T : TypeId} {x0 x1 x2 x3 x4 x5 x6 x7 x8 : Value} (h : HasBlock w b #[x0, x1, x2, x3, x4, x5, x6, x7, x8] T) (v : Value) : HasBlock (w.setCell ⟨b, 6, none⟩ v) b #[x0, x1, x2, x3, x4, x5, v, x7, x8] T := by simpa using h.set_at 6 v
theorem HasBlock.put9_8 {w : World} {b : Nat} {T : TypeId} {x0 x1 x2 x3 x4 x5 x6 x7 x8 : Value} (h : HasBlock w b #[x0, x1, x2, x3, x4, x5, x6, x7, x8] T) (v : Value) : HasBlock (w.setCell ⟨b, 8, none⟩ v) b #[x0, x1, x2, x3, x4, x5, x6, x7, v] T := by simpa using h.set_at 8 v
theorem gmFlat_push {G : List Gm} {gs : List Gv} (h : gs.length = G.length) (g : Gm) (x : Gv) : gmFlat (G ++ [g]) (gs ++ [x]) = gmFlat G gs ++ gmCells g x := by
  unfold gmFlat
  rw [List.zipWith_append h.symm]
  simp
/-- One guest more. -/
theorem OwnH.pushG {base B : Nat} {w w' : World} {vf vr vm : Value} {us : List Value} {vg vg' : Value} {gs : List Gv} {P : Pl} {G : List Gm} {t d n : Int} {g : Gm} {x : Gv} (h : OwnH base w vf vr vm us vg gs ⟨P, G, t, d, n⟩)
    (hs : OwnStr base w x.s g.s) (hu : OwnBool base w x.u g.u) (he : OwnBool base w x.e g.e) (hlt : LtH B vf gs)
    (b1 : ∀ k, x.s.ownBlock = some k → B ≤ k) (b2 : ∀ k, x.u.ownBlock = some k → B ≤ k) (b3 : ∀ k, x.e.ownBlock = some k → B ≤ k) (hne : ∀ k, x.u.ownBlock = some k → x.e.ownBlock ≠ some k)
    (hown : w'.ownsRow base 57 9 vg' (G.length + 1) (gmFlat G gs ++ gmCells g x)) (hg : w.grownBy w' vg.ownBlock) : OwnH base w' vf vr vm us vg' (gs ++ [x]) ⟨P, G ++ [g], t, d, n⟩ := by
  have off : ∀ {e : TypeId} {size n : Nat} {v : Value} {ys : List Value}, w.ownsRow base e size v n ys → 57 ≠ e → ∀ j, v.ownBlock = some j → vg.ownBlock ≠ some j := fun h2 hne j hj e => own_ne_type h.g h2 hne e hj
  obtain ⟨tag, t0, t1⟩ := h.t
  have hl : gs.length = G.length := h.l
  have hp : OwnP base w' vf vr vm us P := by
    refine ⟨h.p.f.kept hg (off h.p.f (by decide)), h.p.r.kept hg (off h.p.r (by decide)), ?_, ⟨h.p.u.1, fun i u xs hu hx => ?_, h.p.u.2.2⟩, h.p.ap⟩
    · exact h.p.m.kept hg (by
        cases hv : vm.ownBlock with
        | none => exact .inl rfl
        | some j => exact .inr (fun e => off h.p.m (by decide) j hv e.symm))
    · have := h.p.u.2.1 i u xs hu hx
      exact this.kept hg (off this (by decide))
  refine ⟨hp, ?_, by rw [List.length_append]; show gs.length + 1 = (G ++ [g]).length; rw [List.length_append, hl]; rfl, fun i y z hy hz => ?_, fun k => if B ≤ k then (if x.s.ownBlock = some k then 3 * G.length + 1 else if x.u.ownBlock = some k then 3 * G.length + 2 else 3 * G.length + 3) else tag k, fun k hk => ?_, fun i y hy => ?_⟩
  · show w'.ownsRow base _ 9 vg' (G ++ [g]).length (gmFlat (G ++ [g]) (gs ++ [x]))
    rw [gmFlat_push hl, List.length_append]
    exact hown
  · change (G ++ [g])[i]? = _ at hz
    rw [List.getElem?_append] at hy hz
    rw [hl] at hy
    by_cases hi : i < G.length
    · rw [if_pos hi] at hy hz
      obtain ⟨a1, a2, a3⟩ := h.r i y z hy hz
      exact ⟨a1.kept hg (off a1 (by decide)), a2.kept hg (off a2 (by decide)), a3.kept hg (off a3 (by decide))⟩
    · rw [if_neg hi] at hy hz
      have h0 : i - G.length = 0 := by have := lt_of_get hy; simp at this; omega
      rw [h0] at hy hz
      simp at hy hz
      subst hy hz
      exact ⟨hs.kept hg (off hs (by decide)), hu.kept hg (off hu (by decide)), he.kept hg (off he (by decide))⟩
  · dsimp only
    rw [if_neg (by have := hlt.f k hk; omega)]
    exact t0 k hk
  · rw [List.getElem?_append, hl] at hy
    by_cases hi : i < G.length
    · rw [if_pos hi] at hy
      obtain ⟨c1, c2, c3⟩ := t1 i y hy
      obtain ⟨l1, l2, l3⟩ := hlt.g i y hy
      exact ⟨fun k hk => by dsimp only; rw [if_neg (by have := l1 k hk; omega)]; exact c1 k hk, fun k hk => by dsimp only; rw [if_neg (by have := l2 k hk; omega)]; exact c2 k hk, fun k hk => by dsimp only; rw [if_neg (by have := l3 k hk; omega)]; exact c3 k hk⟩
    · rw [if_neg hi] at hy
      have h0 : i - G.length = 0 := by have := lt_of_get hy; simp at this; omega
      have h1 : i = G.length := by omega
      rw [h0] at hy
      simp at hy
      subst hy h1
      refine ⟨fun k hk => ?_, fun k hk => ?_, fun k hk => ?_⟩
      · dsimp only
        rw [if_pos (b1 k hk), if_pos hk]
      · dsimp only
        rw [if_pos (b2 k hk), if_neg (own_ne_type hu hs (by decide) hk), if_pos hk]
      · dsimp only
        rw [if_pos (b3 k hk), if_neg (own_ne_type he hs (by decide) hk), if_neg (fun e => hne k e hk)]
theorem OwnH.start {base : Nat} {w : World} {vf vr vm : Value} {us : List Value} {P : Pl} {t d n : Int} (h : OwnP base w vf vr vm us P) : OwnH base w vf vr vm us (.slice none 0 0) [] ⟨P, [], t, d, n⟩ :=
  ⟨h, own_nil, rfl, fun i x g hx => by simp at hx, fun _ => 0, fun _ _ => rfl, fun i x hx => by simp at hx⟩
end Go.Proofs.Ytbnngjhnkegliaa
namespace Go.Proofs.Ytbnngjhnkegliaa
open Go.RowKit

/-- From the place 'at' on, with so many steps left. -/
def chF (r : List Bool) (x : Int) : Nat → Nat → List Bool → Option (Nat × List Bool × Nat)
  | 0, _, _ => none
  | k + 1, a, u => if (r[a]?).getD false = false ∨ (a : Int) = x then chF r x k ((a + 1) % r.length) u
    else if (u[a]?).getD false = true then chF r x k ((a + 1) % r.length) (u.set a false)
    else some (a, u, (a + 1) % r.length)
def chO (u r : List Bool) (h : Nat) (x : Int) : Option (Nat × List Bool × Nat) := chF r x (2 * r.length) h u
def RetVic (n : Nat) (o : Option (Nat × List Bool × Nat)) (w : World) (e : Ending) (w' : World) : Prop := ∃ (ao : Option Addr) (cap : Nat) (u : List Bool) (v h : Int), e = .returned (.tuple #[.int .i64 v, .slice ao n cap, .int .i64 h]) ∧ OwnBool w.heap.size w' (.slice ao n cap) u ∧ Below w.heap.size w w' ∧ (match o with | none => v = -1 | some (a, U, q) => v = a ∧ u = U ∧ h = q)
theorem emod_next (j n : Nat) : ((j : Int) + 1).tmod n = ((j + 1) % n : Nat) := by
  rw [show ((j : Int) + 1) = ((j + 1 : Nat) : Int) from by omega, Int.tmod_eq_emod_of_nonneg (by omega)]
  exact (Int.natCast_emod _ _).symm
set_option maxRecDepth 100000 in
set_option maxHeartbeats 4000000 in
theorem chance_any (uo ro : Option Addr) (uc rc n : Nat) (u r : List Bool) (h : Nat) (x : Int) (w : World) (hu : BoolRow w (.slice uo n uc) u) (hr : BoolRow w (.slice ro n rc) r) (hul : u.length = n) (hrl : r.length = n) (h1 : 1 ≤ n) (h32 : n ≤ 32) (hh : h < n) : Calls Try.prog 62 #[.slice uo n uc, .slice ro n rc, .int .i64 h, .int .i64 x] w (RetVic n (chO u r h x) w) := by
  have hun : ∀ (k a : Nat) (U : List Bool), chF r x (k + 1) a U = if (r[a]?).getD false = false ∨ (a : Int) = x then chF r x k ((a + 1) % n) U
    else if (U[a]?).getD false = true then chF r x k ((a + 1) % n) (U.set a false)
    else some (a, U, (a + 1) % n) := fun k a U => by rw [chF, hrl]
  have hvo : chO u r h x = chF r x (2 * n) h u := by unfold chO; rw [hrl]
  rw [hvo]
  clear hvo
  obtain ⟨o, ho⟩ : ∃ o, chF r x (2 * n) h u = o := ⟨_, rfl⟩
  rw [ho]
  have h0v : ∀ (a : Nat) (U : List Bool), chF r x 0 a U = none := fun _ _ => rfl
  have HUN := Lib.hid hun; clear hun
  have H0V := Lib.hid h0v; clear h0v
  have HO := Lib.hid ho; clear ho
  have HU := Lib.hid hu; clear hu
  have HR := Lib.hid hr; clear hr
  have HUL := Lib.hid hul; clear hul
  have HRL := Lib.hid hrl; clear hrl
  have hn0 : ((n : Int) == 0) = false := by rw [beq_eq_false_iff_ne]; omega
  go_enter Try.func62, Try.ntmps62
  go_wp2_with fail
  with_reducible refine (clone_bool _ u _ HU.out (by rw [HUL.out]; omega)).mono ?_
  rintro e w1 ⟨v1, rfl, o1, hbw⟩
  obtain ⟨vo, vc, rfl, _, _⟩ := o1.formN HUL.out
  have e1 : ((n : Int) != (n : Int)) = false := by simp
  go_wp2_with fail
  go_loopw [13, 44] (fun av iv wr => ∃ (i a : Nat) (U : List Bool), i ≤ 2 * n ∧ a < n ∧ av = .int .i64 a ∧ iv = .int .i64 i ∧ Hid (U.length = n) ∧ Hid (chF r x (2 * n - i) a U = o) ∧ OwnBool w.heap.size wr (.slice vo n vc) U ∧ Below w.heap.size w wr) (fun _ iv _ => 2 * n - (intOf iv).toNat)
  case atStart => exact ⟨0, h, u, by omega, hh, rfl, rfl, HUL, by rw [Nat.sub_zero]; exact HO.out, o1, hbw⟩
  case round =>
    clear o1 hbw
    obtain ⟨i, a, U, hi, han, rfl, rfl, HL, HV, o1, hbw⟩ := hrel
    by_cases hlt : i < 2 * n
    · obtain ⟨rb, hrb⟩ := get_lt (xs := r) (k := a) (by rw [HRL.out]; exact han)
      obtain ⟨ub, hub⟩ := get_lt (xs := U) (k := a) (by rw [HL.out]; exact han)
      obtain ⟨fb, foff, rfl, hfb, cf0⟩ := HR.out.elem hrb
      have cf := (hbw.cell (p := ⟨fb, foff + a, none⟩) hfb).trans cf0
      obtain ⟨gv, rfl, q1, q2⟩ := o1.addr HL.out (by omega)
      obtain ⟨cu, fu⟩ := o1.at hub
      have hstep := HUN.out (2 * n - i - 1) a U
      rw [show 2 * n - i - 1 + 1 = 2 * n - i from by omega, HV.out, hrb, hub] at hstep
      dsimp only [Option.getD] at hstep
      have hmod := emod_next a n
      have hmn : (a + 1) % n < n := Nat.mod_lt _ (by omega)
      obtain ⟨a2, ha2⟩ : ∃ y, (a + 1) % n = y := ⟨_, rfl⟩
      rw [ha2] at hmod hmn hstep
      have hwr : IntKind.i64.wrap (a2 : Int) = (a2 : Int) := IntWalk.i64_in _ (by omega)
      have HST := Lib.hid hstep; clear hstep hrb hub ha2 HV
      have a0 : (0 : Int) ≤ (a : Int) := by omega
      have an : (a : Int) < (n : Int) := by omega
      have hi2 : (i : Int) < 2 * (n : Int) := by omega
      cases rb
      · have hst := HST.out
        rw [if_pos (.inl rfl)] at hst
        have HS2 := Lib.hid hst; clear hst HST
        go_wp2_with fail
        go_roundw
        case rel => exact ⟨i + 1, a2, U, by omega, hmn, by first | rfl | go_num, by go_num, HL, HS2.out.symm, o1, hbw⟩
        case measure => simp [intOf]; omega
      · by_cases hax : (a : Int) = x
        · have hst := HST.out
          rw [if_pos (.inr hax)] at hst
          have HS2 := Lib.hid hst; clear hst HST
          have e2 : ((a : Int) == x) = true := by rw [beq_iff_eq]; exact hax
          have HAX := Lib.hid hax; clear hax
          go_wp2_with fail
          go_roundw
          case rel => exact ⟨i + 1, a2, U, by omega, hmn, by first | rfl | go_num, by go_num, HL, HS2.out.symm, o1, hbw⟩
          case measure => simp [intOf]; omega
        · have hst := HST.out
          rw [if_neg (by rintro (h | h); cases h; exact hax h)] at hst
          have e2 : ((a : Int) == x) = false := by rw [beq_eq_false_iff_ne]; exact hax
          clear hax HST
          cases ub
          · rw [if_neg (by decide)] at hst
            have HS2 := Lib.hid hst; clear hst
            go_wp2_with fail
            refine wp_region_quiet_below (by kernel_rfl) (by kernel_rfl) ?_
            repeat (go_big_quiet_step (first | fail | fail))
            refine wpQuiet_nil ?_
            intro w5 hw5
            have hb5 := below_of_regrown hw5
            clear hw5
            obtain ⟨hc5, hf5⟩ := bcell hb5
            have hz5 := bsize hb5
            try simp only [sizes1] at hz5
            try simp only [sizes] at hc5 hf5
            have o5 := o1.below hb5
            have hbw5 := hbw.trans (hb5.mono hbw.size)
            clear hc5 hf5 hz5 hb5
            go_wp2_with fail
            go_ret3
            exact ⟨_, _, U, _, _, rfl, o5, hbw5, by rw [HS2.out]; exact ⟨rfl, rfl, rfl⟩⟩
          · rw [if_pos rfl] at hst
            have HS2 := Lib.hid hst; clear hst
            go_wp2_with fail
            go_roundw
            case rel => exact ⟨i + 1, a2, U.set a false, by omega, hmn, by first | rfl | go_num, by go_num, by unfold Hid; rw [List.length_set]; exact HL.out, HS2.out.symm, o1.put _ _, hbw.setCell (by dsimp only; omega) _⟩
            case measure => simp [intOf]; omega
    · obtain rfl : i = 2 * n := by omega
      have hv := HV.out
      rw [Nat.sub_self, H0V.out] at hv
      have HV2 := Lib.hid hv; clear hv HV
      go_wp2_with fail
      go_ret3
      exact ⟨_, _, U, _, _, rfl, o1, hbw, by rw [← HV2.out]⟩
end Go.Proofs.Ytbnngjhnkegliaa
namespace Go.Proofs.Ytbnngjhnkegliaa
open Go.RowKit

set_option maxHeartbeats 1000000 in
theorem bits_Next_any (s : Int) (w : World) (_hs : 0 ≤ s ∧ s < 18446744073709551616) : Calls Try.prog 65 #[.int .u64 s] w (Ret w (.tuple #[.int .u64 (nextV s), .int .u64 (nextS s)])) := by
  go_enter Try.func65, Try.ntmps65
  go_wp2
  go_ret2
  exact Ret.mk' (by unfold nextV nextZ2 nextZ1 nextS; rfl) (by repeat (first | with_reducible exact Below.refl _ _ | with_reducible refine Below.drew ?_ | (with_reducible refine Below.alloc ?_ (by first | exact Nat.le_refl _ | omega | (simp only [sizes]; omega)) _) | (with_reducible refine Below.setCell ?_ (by first | exact Nat.le_refl _ | omega | (simp only [sizes]; omega)) _) | (refine Below.trans ?_ (Below.mono (by with_reducible assumption) (by first | exact Nat.le_refl _ | omega | (simp only [sizes]; omega))))))
def hitD (d : List Bool) (j : Nat) : Bool := d[j]?.getD false
/-- How many pages on from 'i' the next one lies that is not drawn. -/
def gap (d : List Bool) (pages i : Nat) : Nat := (List.range pages).findIdx (fun j => !hitD d ((i + j) % pages))
def probe (d : List Bool) (pages i : Nat) : Nat := (i + gap d pages i) % pages
theorem gap_lt {d : List Bool} {pages i : Nat} (hi : i < pages) (h : ∃ j, j < pages ∧ hitD d j = false) : gap d pages i < pages ∧ hitD d ((i + gap d pages i) % pages) = false := by
  obtain ⟨j, hj, hf⟩ := h
  have hlt : gap d pages i < (List.range pages).length := by
    rw [gap, List.findIdx_lt_length]
    refine ⟨(j + pages - i) % pages, ?_, ?_⟩
    · rw [List.mem_range]; exact Nat.mod_lt _ (by omega)
    · have e : (i + (j + pages - i) % pages) % pages = j := by
        rw [Nat.add_mod_mod, show i + (j + pages - i) = j + pages from by omega, Nat.add_mod_right, Nat.mod_eq_of_lt hj]
      rw [e, hf]; rfl
  refine ⟨by simpa using hlt, ?_⟩
  have h1 : ∀ (x : Nat) (hx : x < (List.range pages).length), (List.range pages)[x] = x := fun x hx => by simp
  have h2 : (!hitD d ((i + (List.range pages)[gap d pages i]) % pages)) = true := List.findIdx_getElem (w := hlt) (p := fun j => !hitD d ((i + j) % pages))
  rw [h1] at h2
  simpa using h2
theorem gap_before {d : List Bool} {pages i j : Nat} (h : j < gap d pages i) (_hp : j < pages) : hitD d ((i + j) % pages) = true := by
  have := List.not_of_lt_findIdx (p := fun j => !hitD d ((i + j) % pages)) (xs := List.range pages) (i := j) h
  simpa using this
theorem gap_le {d : List Bool} {pages i j : Nat} (hp : j < pages) (h : hitD d ((i + j) % pages) = false) : gap d pages i ≤ j := by
  by_cases hc : gap d pages i ≤ j
  · exact hc
  · have := gap_before (d := d) (pages := pages) (i := i) (j := j) (by omega) hp
    rw [h] at this; cases this
theorem gap_zero {d : List Bool} {pages i : Nat} (hi : i < pages) (h : hitD d i = false) : gap d pages i = 0 := by
  have := gap_le (d := d) (pages := pages) (i := i) (j := 0) (by omega) (by rw [Nat.add_zero, Nat.mod_eq_of_lt hi]; exact h)
  omega
theorem gap_step {d : List Bool} {pages i : Nat} (hi : i < pages) (h : hitD d i = true) (hx : ∃ j, j < pages ∧ hitD d j = false) :
    gap d pages ((i + 1) % pages) + 1 = gap d pages i := by
  obtain ⟨g1, g2⟩ := gap_lt hi hx
  have h1 : gap d pages i ≠ 0 := by
    intro e
    rw [e, Nat.add_zero, Nat.mod_eq_of_lt hi, h] at g2
    cases g2
  have hi' : (i + 1) % pages < pages := Nat.mod_lt _ (by omega)
  obtain ⟨k1, k2⟩ := gap_lt hi' hx
  have a1 : gap d pages ((i + 1) % pages) ≤ gap d pages i - 1 := by
    apply gap_le (by omega)
    rw [Nat.mod_add_mod, show i + 1 + (gap d pages i - 1) = i + gap d pages i from by omega]
    exact g2
  have a2 : gap d pages i ≤ gap d pages ((i + 1) % pages) + 1 := by
    apply gap_le (by omega)
    rw [Nat.mod_add_mod, show i + 1 + gap d pages ((i + 1) % pages) = i + (gap d pages ((i + 1) % pages) + 1) from by omega] at k2
    exact k2
  omega
theorem probe_zero {d : List Bool} {pages i : Nat} (hi : i < pages) (h : hitD d i = false) : probe d pages i = i := by
  unfold probe; rw [gap_zero hi h, Nat.add_zero, Nat.mod_eq_of_lt hi]
theorem probe_step {d : List Bool} {pages i : Nat} (hi : i < pages) (h : hitD d i = true) (hx : ∃ j, j < pages ∧ hitD d j = false) : probe d pages ((i + 1) % pages) = probe d pages i := by
  unfold probe
  rw [← gap_step hi h hx, Nat.mod_add_mod]
  congr 1
  omega
theorem probe_lt {d : List Bool} {pages i : Nat} (hp : 0 < pages) : probe d pages i < pages := Nat.mod_lt _ hp

theorem emod_succ (j n : Nat) : ((j : Int) + 1) % n = ((j + 1) % n : Nat) := by
  rw [Int.natCast_emod]; rfl
def U64 (x : Int) : Prop := 0 ≤ x ∧ x < 18446744073709551616
structure Sam where
  seed : Int
  d : List Bool
  out : List Int
def samStep (pages : Nat) (q : Sam) : Sam :=
  ⟨nextS q.seed, q.d.set (probe q.d pages (nextV q.seed % pages).toNat) true, q.out ++ [(probe q.d pages (nextV q.seed % pages).toNat : Int)]⟩
def samF (pages : Nat) (seed : Int) : Nat → Sam
  | 0 => ⟨seed, List.replicate pages false, []⟩
  | k + 1 => samStep pages (samF pages seed k)

def trues (d : List Bool) : Nat := d.countP id
theorem trues_set : ∀ (d : List Bool) (i : Nat), i < d.length → hitD d i = false → trues (d.set i true) = trues d + 1
  | [], i, h, _ => by simp at h
  | b :: d, 0, _, h => by
    simp [hitD] at h
    subst h
    simp [trues]
  | b :: d, i + 1, hl, h => by
    have := trues_set d i (by simpa using hl) (by simpa [hitD] using h)
    unfold trues at *
    simp only [List.set_cons_succ, List.countP_cons, this]
    omega
theorem free_of {d : List Bool} {pages : Nat} (hl : d.length = pages) (h : trues d < pages) : ∃ j, j < pages ∧ hitD d j = false := by
  rw [← hl] at h
  have : ¬ ∀ b ∈ d, id b = true := fun hall => by
    have := List.countP_eq_length.2 hall
    unfold trues at h
    omega
  simp only [id_eq, Classical.not_forall] at this
  obtain ⟨b, hb, hf⟩ := this
  obtain ⟨j, hj⟩ := List.getElem?_of_mem hb
  refine ⟨j, by rw [← hl]; exact (List.getElem?_eq_some_iff.1 hj).1, ?_⟩
  unfold hitD
  rw [hj]
  simpa using hf
theorem hitD_set {d : List Bool} {i j : Nat} (hi : i < d.length) : hitD (d.set i true) j = (decide (i = j) || hitD d j) := by
  unfold hitD
  rw [List.getElem?_set]
  split
  · rename_i h; subst h; simp [hi]
  · rename_i h; simp [h]

/-- What holds after k draws, k at most the number of pages. -/
structure SamOk (pages k : Nat) (q : Sam) : Prop where
  seed : U64 q.seed
  len : q.d.length = pages
  cnt : trues q.d = k
  olen : q.out.length = k
  range : ∀ x ∈ q.out, 0 ≤ x ∧ x < pages
  drawn : ∀ x ∈ q.out, hitD q.d x.toNat = true
  nodup : q.out.Nodup
theorem mod_toNat_lt (x : Int) (n : Nat) (h : 0 < n) : (x % n).toNat < n := by
  have h1 := Int.emod_lt_of_pos x (show (0 : Int) < n by omega)
  have h2 := Int.emod_nonneg x (show (n : Int) ≠ 0 by omega)
  omega
theorem nextS_u64 (s : Int) : U64 (nextS s) := nextS_bd s
theorem samOk_put (pages k i : Nat) (q : Sam) (s : Int) (hs : U64 s) (hlt : i < pages) (hnew : hitD q.d i = false) (ih : SamOk pages k q) : SamOk pages (k + 1) ⟨s, q.d.set i true, q.out ++ [(i : Int)]⟩ := by
  have hl : i < q.d.length := by rw [ih.len]; exact hlt
  constructor
  · exact hs
  · exact (List.length_set ..).trans ih.len
  · exact (trues_set _ _ hl hnew).trans (by rw [ih.cnt])
  · exact (List.length_append).trans (by rw [ih.olen]; rfl)
  · intro x hx
    rw [List.mem_append, List.mem_singleton] at hx
    rcases hx with hx | rfl
    · exact ih.range x hx
    · omega
  · intro x hx
    dsimp only
    rw [List.mem_append, List.mem_singleton] at hx
    rw [hitD_set hl]
    rcases hx with hx | rfl
    · rw [ih.drawn x hx, Bool.or_true]
    · simp
  · dsimp only
    rw [List.nodup_append]
    refine ⟨ih.nodup, by simp, ?_⟩
    intro x hx y hy
    rw [List.mem_singleton] at hy
    subst hy
    rintro rfl
    have := ih.drawn _ hx
    rw [Int.toNat_natCast, hnew] at this
    cases this
theorem samOk_step (pages k : Nat) (q : Sam) (hk : k < pages) (ih : SamOk pages k q) : SamOk pages (k + 1) (samStep pages q) := by
  unfold samStep
  have hi0 : (nextV q.seed % pages).toNat < pages := mod_toNat_lt _ _ (by omega)
  generalize (nextV q.seed % pages).toNat = x at hi0 ⊢
  exact samOk_put pages k (probe q.d pages x) q (nextS q.seed) (nextS_u64 _) (probe_lt (by omega)) (gap_lt hi0 (free_of ih.len (by rw [ih.cnt]; exact hk))).2 ih
theorem samOk (pages : Nat) (seed : Int) (hs : U64 seed) (k : Nat) (hk : k ≤ pages) : SamOk pages k (samF pages seed k) := by
  induction k with
  | zero => exact ⟨hs, List.length_replicate, by simp [samF, trues, List.countP_replicate], rfl, by simp [samF], by simp [samF], by simp [samF]⟩
  | succ k ih => exact samOk_step pages k _ (by omega) (ih (by omega))
end Go.Proofs.Ytbnngjhnkegliaa
namespace Go.Proofs.Ytbnngjhnkegliaa
open Go.RowKit

def boolArr (d : List Bool) : Array Value := (d.map Value.bool).toArray
theorem boolArr_at {d : List Bool} {i : Nat} (h : i < d.length) : (boolArr d)[i]? = some (.bool (hitD d i)) := by
  unfold boolArr hitD
  rw [List.getElem?_toArray, List.getElem?_map, List.getElem?_eq_getElem h]
  rfl
theorem boolArr_set (d : List Bool) (i : Nat) (x : Bool) : (boolArr d).setIfInBounds i (.bool x) = boolArr (d.set i x) := by
  unfold boolArr
  rw [List.map_set]
  simp
theorem one_int (x : Int) : ∀ u ∈ [Value.int .i64 x], u.oneCell' = true := by
  intro u hu
  rw [List.mem_singleton] at hu
  rw [hu]
  rfl
theorem intRow_of {w : World} {base : Nat} {v : Value} {n : Nat} {fr : List Int} (h : w.ownsRow base 3 1 v n (fr.map (Value.int .i64))) : fr.length = n ∧ IntRow w v fr := by
  have h1 := h.1
  rw [List.length_map, Nat.mul_one] at h1
  refine ⟨h1, ?_⟩
  unfold IntRow
  rw [h1]
  exact RowAt.of_owns h
theorem map_snoc (xs : List Int) (x : Int) : (xs ++ [x]).map (Value.int .i64) = xs.map (Value.int .i64) ++ [.int .i64 x] := by simp
theorem make_bools (n : Nat) (hn : n ≤ 1000) (w : World) : (Instr.makeSlice 55 (.int .i64 (n : Int)) (.int .i64 (n : Int))).run Try.prog w = .ok (.slice (some ⟨w.heap.size, 0, none⟩) n n) (w.alloc (.cells (boolArr (List.replicate n false)) 4)) := by
  rw [run_make_one 55 4 (.bool false) 1 Try.underlying55 info_bool rfl n (by omega) (by omega) w]
  unfold boolArr
  rw [List.map_replicate]

def RetSam (w : World) (xs : List Int) (s : Int) (e : Ending) (w' : World) : Prop := ∃ v, e = .returned (.tuple #[v, .int .u64 s]) ∧ IntRow w' v xs ∧ Below w.heap.size w w'
def badSam (pages n : Int) : Bool := decide (pages < 1 ∨ 32 < pages ∨ n < 1)
def sampleL (seed pages n : Int) : List Int := if badSam pages n = true then [] else (samF pages.toNat seed (min n pages).toNat).out
def sampleS (seed pages n : Int) : Int := if badSam pages n = true then seed else (samF pages.toNat seed (min n pages).toNat).seed

theorem sample_out (seed pages n : Int) (w : World) (h : pages < 1 ∨ 32 < pages ∨ n < 1) : Calls Try.prog 55 #[.int .u64 seed, .int .i64 pages, .int .i64 n] w (RetSam w [] seed) := by
  by_cases h1 : pages < 1
  · go_enter Try.func55, Try.ntmps55
    go_wp2_with fail
    go_ret2
    exact ⟨_, rfl, IntRow.nil _, (by repeat (first | with_reducible exact Below.refl _ _ | with_reducible refine Below.drew ?_ | (with_reducible refine Below.alloc ?_ (by first | exact Nat.le_refl _ | omega | (simp only [sizes]; omega)) _) | (with_reducible refine Below.setCell ?_ (by first | exact Nat.le_refl _ | omega | (simp only [sizes]; omega)) _) | (refine Below.trans ?_ (Below.mono (by with_reducible assumption) (by first | exact Nat.le_refl _ | omega | (simp only [sizes]; omega))))))⟩
  · by_cases h2 : 32 < pages
    · go_enter Try.func55, Try.ntmps55
      go_wp2_with fail
      go_ret2
      exact ⟨_, rfl, IntRow.nil _, (by repeat (first | with_reducible exact Below.refl _ _ | with_reducible refine Below.drew ?_ | (with_reducible refine Below.alloc ?_ (by first | exact Nat.le_refl _ | omega | (simp only [sizes]; omega)) _) | (with_reducible refine Below.setCell ?_ (by first | exact Nat.le_refl _ | omega | (simp only [sizes]; omega)) _) | (refine Below.trans ?_ (Below.mono (by with_reducible assumption) (by first | exact Nat.le_refl _ | omega | (simp only [sizes]; omega))))))⟩
    · have h3 : n < 1 := by omega
      go_enter Try.func55, Try.ntmps55
      go_wp2_with fail
      go_ret2
      exact ⟨_, rfl, IntRow.nil _, (by repeat (first | with_reducible exact Below.refl _ _ | with_reducible refine Below.drew ?_ | (with_reducible refine Below.alloc ?_ (by first | exact Nat.le_refl _ | omega | (simp only [sizes]; omega)) _) | (with_reducible refine Below.setCell ?_ (by first | exact Nat.le_refl _ | omega | (simp only [sizes]; omega)) _) | (refine Below.trans ?_ (Below.mono (by with_reducible assumption) (by first | exact Nat.le_refl _ | omega | (simp only [sizes]; omega))))))⟩

set_option maxRecDepth 100000 in
set_option maxHeartbeats 4000000 in
theorem sample_few (seed : Int) (pages m : Nat) (w : World) (hs : 0 ≤ seed ∧ seed < 18446744073709551616) (hp : 1 ≤ pages) (hp' : pages ≤ 32) (hn : 1 ≤ m) (hm : m ≤ pages) :
    Calls Try.prog 55 #[.int .u64 seed, .int .i64 pages, .int .i64 m] w (RetSam w (samF pages seed m).out (samF pages seed m).seed) := by
  have hok := fun k => samOk pages seed hs k
  have hmk := make_bools pages (by omega)
  have HOK := Lib.hid hok; clear hok hs
  obtain ⟨i0, hi, iz0, iz1, iz2⟩ := info_parts info_int
  go_enter Try.func55, Try.ntmps55
  go_wp2_with fail
  go_loopw [0, 9, 28] (fun sd v i wr => ∃ (k : Nat) (q : Sam), k ≤ m ∧ i = .int .i64 k ∧ Hid (q = samF pages seed k) ∧ sd = .int .u64 q.seed ∧ HasBlock wr w.heap.size (boolArr q.d) 4 ∧ wr.ownsRow (w.heap.size + 1) 3 1 v k (q.out.map (Value.int .i64)) ∧ Below w.heap.size w wr) (fun _ _ i _ => m - (intOf i).toNat)
  case atStart => exact ⟨0, _, Nat.zero_le _, rfl, rfl, rfl, HasBlock.made _ _ _, World.ownsRow_nil _ _ _ _, (by repeat (first | with_reducible exact Below.refl _ _ | with_reducible refine Below.drew ?_ | (with_reducible refine Below.alloc ?_ (by first | exact Nat.le_refl _ | omega | (simp only [sizes]; omega)) _) | (with_reducible refine Below.setCell ?_ (by first | exact Nat.le_refl _ | omega | (simp only [sizes]; omega)) _) | (refine Below.trans ?_ (Below.mono (by with_reducible assumption) (by first | exact Nat.le_refl _ | omega | (simp only [sizes]; omega))))))⟩
  case round =>
    obtain ⟨k, q, hk, rfl, HQ, rfl, hblk, hown, hbw⟩ := hrel
    have hbs0 := hbw.size
    have hlt0 := hblk.lt
    by_cases hlt : k < m
    · have hokk := HOK.out k (by omega)
      rw [← HQ.out] at hokk
      have HKK := Lib.hid hokk; clear hokk
      have HO := Lib.hid hown; clear hown
      have HBL := Lib.hid hblk; clear hblk
      go_wp2_with fail
      refine (bits_Next_any q.seed _ HKK.out.seed).mono ?_
      rintro e w1 ⟨rfl, hb1⟩
      obtain ⟨hc1, hf1⟩ := bcell hb1
      have hz1 := bsize hb1
      try simp only [sizes1] at hz1
      try simp only [sizes] at hc1 hf1
      have hvb := nextV_bd q.seed
      obtain ⟨x, hx⟩ : ∃ x, nextV q.seed = x := ⟨_, rfl⟩
      rw [hx] at hvb ⊢
      have HX := Lib.hid hx; clear hx
      have hm1 := Int.emod_lt_of_pos x (show (0 : Int) < pages by omega)
      have hm2 := Int.emod_nonneg x (show (pages : Int) ≠ 0 by omega)
      have hpz : ((pages : Int) == 0) = false := by rw [beq_eq_false_iff_ne]; omega
      go_wp2_with fail
      obtain ⟨y, hy⟩ : ∃ y : Nat, x % pages = y := ⟨(x % pages).toNat, by omega⟩
      rw [hy] at hm1 hm2 ⊢
      have hy2 : y < pages := by omega
      have HY := Lib.hid hy; clear hy hvb
      have hB1 := HBL.out.below hb1
      have hfree := free_of HKK.out.len (by rw [HKK.out.cnt]; omega)
      have HFR := Lib.hid hfree; clear hfree
      have hsz1 : w.heap.size < w1.heap.size := by omega
      clear hc1 hf1
      go_loop [11] (fun i => ∃ j : Nat, j < pages ∧ i = .int .i64 j ∧ Hid (probe q.d pages j = probe q.d pages y)) (fun i => gap q.d pages (intOf i).toNat)
      case atStart => exact ⟨y, hy2, rfl, rfl⟩
      case round =>
        obtain ⟨j, hj, rfl, HJ⟩ := hrel
        have hcj : w1.cell? ⟨w.heap.size, j, none⟩ = some (.bool (hitD q.d j)) := (hB1.cell j).trans (boolArr_at (by rw [HKK.out.len]; exact hj))
        cases hh : hitD q.d j
        · rw [hh] at hcj
          have HH := Lib.hid hh; clear hh
          have hfz := hB1.free
          go_wp2_with (at_builtin; go_must (refine wpList_append_own _ rfl (.tmp 51) (.tmp 53) 22 rfl (w.heap.size + 1) 3 i0 (.int .i64 0) 1 8 Try.underlying22 hi iz0 iz1 iz2 rfl (by decide) _ k (q.out.map (Value.int .i64)) rfl ((ownsRow_setCell_below (owns_below HO.out hb1) (a := ⟨w.heap.size, j, none⟩) (Nat.lt_succ_self _) (.bool true)).alloc _) ⟨w1.heap.size, 0, none⟩ 1 1 [Value.int .i64 j] rfl rfl (cells_made _ [Value.int .i64 j] _ _ (by first | rfl | simp only [sizes])) (one_int _) (by unfold maxLen; omega) (by omega) (by first | exact Nat.le_refl _ | omega | (simp only [sizes]; omega)) ?_; intro v2 w2 hown2 hgrow2 _; have hb2 : Below w.heap.size w w2 := below_append' (by repeat (first | with_reducible exact Below.refl _ _ | with_reducible refine Below.drew ?_ | (with_reducible refine Below.alloc ?_ (by first | exact Nat.le_refl _ | omega | (simp only [sizes]; omega)) _) | (with_reducible refine Below.setCell ?_ (by first | exact Nat.le_refl _ | omega | (simp only [sizes]; omega)) _) | (refine Below.trans ?_ (Below.mono (by with_reducible assumption) (by first | exact Nat.le_refl _ | omega | (simp only [sizes]; omega)))))) ((ownsRow_setCell_below (owns_below HO.out hb1) (a := ⟨w.heap.size, j, none⟩) (Nat.lt_succ_self _) (.bool true)).alloc _) hgrow2 (by omega); have hz2 := hb2.size))
          go_wp2_with fail
          have hpz := probe_zero (pages := pages) hj HH.out
          have hq2 : samStep pages q = ⟨nextS q.seed, q.d.set j true, q.out ++ [(j : Int)]⟩ := by
            unfold samStep
            rw [HX.out, HY.out, Int.toNat_natCast, ← HJ.out, hpz]
          have HQ2 := Lib.hid hq2; clear hq2 hpz
          go_roundw
          case rel =>
            refine ⟨k + 1, ⟨nextS q.seed, q.d.set j true, q.out ++ [(j : Int)]⟩, by omega, by go_num, ?_, rfl, ?_, ?_, hb2⟩
            · exact HQ2.out.symm.trans (congrArg (samStep pages) HQ.out)
            · show HasBlock _ _ (boolArr (q.d.set j true)) _
              rw [← boolArr_set]
              exact HasBlock.append ((hB1.set_at j (.bool true)).alloc _) ((ownsRow_setCell_below (owns_below HO.out hb1) (a := ⟨w.heap.size, j, none⟩) (Nat.lt_succ_self _) (.bool true)).alloc _) hgrow2 (Nat.lt_succ_self _)
            · show World.ownsRow _ _ _ _ _ _ ((q.out ++ [(j : Int)]).map (Value.int .i64))
              rw [map_snoc]
              exact hown2
          case measure => simp [intOf]; omega
        · rw [hh] at hcj
          have HH := Lib.hid hh; clear hh
          go_wp2_with fail
          have hx := HFR.out
          have hst := probe_step (pages := pages) hj HH.out hx
          have hgs := gap_step (pages := pages) hj HH.out hx
          go_round
          case rel => exact ⟨(j + 1) % pages, Nat.mod_lt _ (by omega), by rw [emod_succ], by unfold Hid; rw [hst]; exact HJ.out⟩
          case measure =>
            rw [emod_succ]
            simp only [intOf, Int.toNat_natCast]
            omega
    · obtain rfl : k = m := by omega
      have HO := Lib.hid hown; clear hown hblk
      go_wp2_with fail
      go_ret2
      have := intRow_of HO.out
      rw [← HQ.out]
      exact ⟨_, rfl, this.2, (by repeat (first | with_reducible exact Below.refl _ _ | with_reducible refine Below.drew ?_ | (with_reducible refine Below.alloc ?_ (by first | exact Nat.le_refl _ | omega | (simp only [sizes]; omega)) _) | (with_reducible refine Below.setCell ?_ (by first | exact Nat.le_refl _ | omega | (simp only [sizes]; omega)) _) | (refine Below.trans ?_ (Below.mono (by with_reducible assumption) (by first | exact Nat.le_refl _ | omega | (simp only [sizes]; omega))))))⟩
set_option maxRecDepth 100000 in
set_option maxHeartbeats 4000000 in
theorem sample_many (seed n : Int) (pages : Nat) (w : World) (hs : 0 ≤ seed ∧ seed < 18446744073709551616) (hp : 1 ≤ pages) (hp' : pages ≤ 32) (hn : pages < n) :
    Calls Try.prog 55 #[.int .u64 seed, .int .i64 pages, .int .i64 n] w (RetSam w (samF pages seed pages).out (samF pages seed pages).seed) := by
  have hok := fun k => samOk pages seed hs k
  have hmk := make_bools pages (by omega)
  have HOK := Lib.hid hok; clear hok hs
  obtain ⟨i0, hi, iz0, iz1, iz2⟩ := info_parts info_int
  go_enter Try.func55, Try.ntmps55
  go_wp2_with fail
  go_loopw [0, 9, 28] (fun sd v i wr => ∃ (k : Nat) (q : Sam), k ≤ pages ∧ i = .int .i64 k ∧ Hid (q = samF pages seed k) ∧ sd = .int .u64 q.seed ∧ HasBlock wr w.heap.size (boolArr q.d) 4 ∧ wr.ownsRow (w.heap.size + 1) 3 1 v k (q.out.map (Value.int .i64)) ∧ Below w.heap.size w wr) (fun _ _ i _ => pages - (intOf i).toNat)
  case atStart => exact ⟨0, _, Nat.zero_le _, rfl, rfl, rfl, HasBlock.made _ _ _, World.ownsRow_nil _ _ _ _, (by repeat (first | with_reducible exact Below.refl _ _ | with_reducible refine Below.drew ?_ | (with_reducible refine Below.alloc ?_ (by first | exact Nat.le_refl _ | omega | (simp only [sizes]; omega)) _) | (with_reducible refine Below.setCell ?_ (by first | exact Nat.le_refl _ | omega | (simp only [sizes]; omega)) _) | (refine Below.trans ?_ (Below.mono (by with_reducible assumption) (by first | exact Nat.le_refl _ | omega | (simp only [sizes]; omega))))))⟩
  case round =>
    obtain ⟨k, q, hk, rfl, HQ, rfl, hblk, hown, hbw⟩ := hrel
    have hbs0 := hbw.size
    have hlt0 := hblk.lt
    by_cases hlt : k < pages
    · have hokk := HOK.out k (by omega)
      rw [← HQ.out] at hokk
      have HKK := Lib.hid hokk; clear hokk
      have HO := Lib.hid hown; clear hown
      have HBL := Lib.hid hblk; clear hblk
      go_wp2_with fail
      refine (bits_Next_any q.seed _ HKK.out.seed).mono ?_
      rintro e w1 ⟨rfl, hb1⟩
      obtain ⟨hc1, hf1⟩ := bcell hb1
      have hz1 := bsize hb1
      try simp only [sizes1] at hz1
      try simp only [sizes] at hc1 hf1
      have hvb := nextV_bd q.seed
      obtain ⟨x, hx⟩ : ∃ x, nextV q.seed = x := ⟨_, rfl⟩
      rw [hx] at hvb ⊢
      have HX := Lib.hid hx; clear hx
      have hm1 := Int.emod_lt_of_pos x (show (0 : Int) < pages by omega)
      have hm2 := Int.emod_nonneg x (show (pages : Int) ≠ 0 by omega)
      have hpz : ((pages : Int) == 0) = false := by rw [beq_eq_false_iff_ne]; omega
      go_wp2_with fail
      obtain ⟨y, hy⟩ : ∃ y : Nat, x % pages = y := ⟨(x % pages).toNat, by omega⟩
      rw [hy] at hm1 hm2 ⊢
      have hy2 : y < pages := by omega
      have HY := Lib.hid hy; clear hy hvb
      have hB1 := HBL.out.below hb1
      have hfree := free_of HKK.out.len (by rw [HKK.out.cnt]; omega)
      have HFR := Lib.hid hfree; clear hfree
      have hsz1 : w.heap.size < w1.heap.size := by omega
      clear hc1 hf1
      go_loop [11] (fun i => ∃ j : Nat, j < pages ∧ i = .int .i64 j ∧ Hid (probe q.d pages j = probe q.d pages y)) (fun i => gap q.d pages (intOf i).toNat)
      case atStart => exact ⟨y, hy2, rfl, rfl⟩
      case round =>
        obtain ⟨j, hj, rfl, HJ⟩ := hrel
        have hcj : w1.cell? ⟨w.heap.size, j, none⟩ = some (.bool (hitD q.d j)) := (hB1.cell j).trans (boolArr_at (by rw [HKK.out.len]; exact hj))
        cases hh : hitD q.d j
        · rw [hh] at hcj
          have HH := Lib.hid hh; clear hh
          have hfz := hB1.free
          go_wp2_with (at_builtin; go_must (refine wpList_append_own _ rfl (.tmp 51) (.tmp 53) 22 rfl (w.heap.size + 1) 3 i0 (.int .i64 0) 1 8 Try.underlying22 hi iz0 iz1 iz2 rfl (by decide) _ k (q.out.map (Value.int .i64)) rfl ((ownsRow_setCell_below (owns_below HO.out hb1) (a := ⟨w.heap.size, j, none⟩) (Nat.lt_succ_self _) (.bool true)).alloc _) ⟨w1.heap.size, 0, none⟩ 1 1 [Value.int .i64 j] rfl rfl (cells_made _ [Value.int .i64 j] _ _ (by first | rfl | simp only [sizes])) (one_int _) (by unfold maxLen; omega) (by omega) (by first | exact Nat.le_refl _ | omega | (simp only [sizes]; omega)) ?_; intro v2 w2 hown2 hgrow2 _; have hb2 : Below w.heap.size w w2 := below_append' (by repeat (first | with_reducible exact Below.refl _ _ | with_reducible refine Below.drew ?_ | (with_reducible refine Below.alloc ?_ (by first | exact Nat.le_refl _ | omega | (simp only [sizes]; omega)) _) | (with_reducible refine Below.setCell ?_ (by first | exact Nat.le_refl _ | omega | (simp only [sizes]; omega)) _) | (refine Below.trans ?_ (Below.mono (by with_reducible assumption) (by first | exact Nat.le_refl _ | omega | (simp only [sizes]; omega)))))) ((ownsRow_setCell_below (owns_below HO.out hb1) (a := ⟨w.heap.size, j, none⟩) (Nat.lt_succ_self _) (.bool true)).alloc _) hgrow2 (by omega); have hz2 := hb2.size))
          go_wp2_with fail
          have hpz := probe_zero (pages := pages) hj HH.out
          have hq2 : samStep pages q = ⟨nextS q.seed, q.d.set j true, q.out ++ [(j : Int)]⟩ := by
            unfold samStep
            rw [HX.out, HY.out, Int.toNat_natCast, ← HJ.out, hpz]
          have HQ2 := Lib.hid hq2; clear hq2 hpz
          go_roundw
          case rel =>
            refine ⟨k + 1, ⟨nextS q.seed, q.d.set j true, q.out ++ [(j : Int)]⟩, by omega, by go_num, ?_, rfl, ?_, ?_, hb2⟩
            · exact HQ2.out.symm.trans (congrArg (samStep pages) HQ.out)
            · show HasBlock _ _ (boolArr (q.d.set j true)) _
              rw [← boolArr_set]
              exact HasBlock.append ((hB1.set_at j (.bool true)).alloc _) ((ownsRow_setCell_below (owns_below HO.out hb1) (a := ⟨w.heap.size, j, none⟩) (Nat.lt_succ_self _) (.bool true)).alloc _) hgrow2 (Nat.lt_succ_self _)
            · show World.ownsRow _ _ _ _ _ _ ((q.out ++ [(j : Int)]).map (Value.int .i64))
              rw [map_snoc]
              exact hown2
          case measure => simp [intOf]; omega
        · rw [hh] at hcj
          have HH := Lib.hid hh; clear hh
          go_wp2_with fail
          have hx := HFR.out
          have hst := probe_step (pages := pages) hj HH.out hx
          have hgs := gap_step (pages := pages) hj HH.out hx
          go_round
          case rel => exact ⟨(j + 1) % pages, Nat.mod_lt _ (by omega), by rw [emod_succ], by unfold Hid; rw [hst]; exact HJ.out⟩
          case measure =>
            rw [emod_succ]
            simp only [intOf, Int.toNat_natCast]
            omega
    · obtain rfl : k = pages := by omega
      have HO := Lib.hid hown; clear hown hblk
      go_wp2_with fail
      go_ret2
      have := intRow_of HO.out
      rw [← HQ.out]
      exact ⟨_, rfl, this.2, (by repeat (first | with_reducible exact Below.refl _ _ | with_reducible refine Below.drew ?_ | (with_reducible refine Below.alloc ?_ (by first | exact Nat.le_refl _ | omega | (simp only [sizes]; omega)) _) | (with_reducible refine Below.setCell ?_ (by first | exact Nat.le_refl _ | omega | (simp only [sizes]; omega)) _) | (refine Below.trans ?_ (Below.mono (by with_reducible assumption) (by first | exact Nat.le_refl _ | omega | (simp only [sizes]; omega))))))⟩
theorem idletax_Sample_any (seed pages n : Int) (w : World) (hs : 0 ≤ seed ∧ seed < 18446744073709551616) :
    Calls Try.prog 55 #[.int .u64 seed, .int .i64 pages, .int .i64 n] w (RetSam w (sampleL seed pages n) (sampleS seed pages n)) := by
  unfold sampleL sampleS
  by_cases h : pages < 1 ∨ 32 < pages ∨ n < 1
  · have hb : badSam pages n = true := decide_eq_true h
    rw [if_pos hb, if_pos hb]
    exact sample_out seed pages n w h
  · rw [if_neg (by rw [badSam, decide_eq_false h]; simp), if_neg (by rw [badSam, decide_eq_false h]; simp)]
    obtain ⟨p, rfl⟩ : ∃ p : Nat, pages = p := ⟨pages.toNat, by omega⟩
    rw [Int.toNat_natCast]
    by_cases hm : n ≤ p
    · obtain ⟨m, rfl⟩ : ∃ m : Nat, n = m := ⟨n.toNat, by omega⟩
      rw [Int.min_eq_left hm, Int.toNat_natCast]
      exact sample_few seed p m w hs (by omega) (by omega) (by omega) (by omega)
    · rw [Int.min_eq_right (by omega), Int.toNat_natCast]
      exact sample_many seed n p w hs (by omega) (by omega) (by omega)

def estimateI (old used n : Int) : Int :=
  if n < 1 ∨ 32 < n ∨ used < 0 ∨ n < used ∨ old < 0 ∨ 1000 < old then old else if old < used * 1000 / n then used * 1000 / n else (3 * old + used * 1000 / n) / 4
set_option maxHeartbeats 1000000 in
theorem idletax_Estimate_bad (old used n : Int) (w : World) (h : n < 1 ∨ 32 < n ∨ used < 0 ∨ n < used ∨ old < 0 ∨ 1000 < old) : Calls Try.prog 56 #[.int .i64 old, .int .i64 used, .int .i64 n] w (Ret w (.int .i64 old)) := by
  have pick : n < 1 ∨ (1 ≤ n ∧ 32 < n) ∨ (1 ≤ n ∧ n ≤ 32 ∧ used < 0) ∨ (1 ≤ n ∧ n ≤ 32 ∧ 0 ≤ used ∧ n < used) ∨ (1 ≤ n ∧ n ≤ 32 ∧ 0 ≤ used ∧ used ≤ n ∧ old < 0) ∨ (1 ≤ n ∧ n ≤ 32 ∧ 0 ≤ used ∧ used ≤ n ∧ 1000 < old) := by omega
  clear h
  rcases pick with h | ⟨_, h⟩ | ⟨_, _, h⟩ | ⟨_, _, _, h⟩ | ⟨_, _, _, _, h⟩ | ⟨_, _, _, _, h⟩
  all_goals
    go_enter Try.func56, Try.ntmps56
    go_wp2
    go_ret
    exact Ret.mk (by repeat (first | with_reducible exact Below.refl _ _ | with_reducible refine Below.drew ?_ | (with_reducible refine Below.alloc ?_ (by first | exact Nat.le_refl _ | omega | (simp only [sizes]; omega)) _) | (with_reducible refine Below.setCell ?_ (by first | exact Nat.le_refl _ | omega | (simp only [sizes]; omega)) _) | (refine Below.trans ?_ (Below.mono (by with_reducible assumption) (by first | exact Nat.le_refl _ | omega | (simp only [sizes]; omega))))))
set_option maxHeartbeats 1000000 in
theorem idletax_Estimate_good (old used n : Int) (w : World) (h1 : 1 ≤ n) (h2 : n ≤ 32) (h3 : 0 ≤ used) (h4 : used ≤ n) (h5 : 0 ≤ old) (h6 : old ≤ 1000) :
    Calls Try.prog 56 #[.int .i64 old, .int .i64 used, .int .i64 n] w (Ret w (.int .i64 (if old < used * 1000 / n then used * 1000 / n else (3 * old + used * 1000 / n) / 4))) := by
  have q1 : 0 ≤ used * 1000 / n := Int.ediv_nonneg (by omega) (by omega)
  have q2 : used * 1000 / n ≤ 1000 := Int.ediv_le_of_le_mul (by omega) (by omega)
  have hn : (n == 0) = false := by rw [beq_eq_false_iff_ne]; omega
  by_cases hc : old < used * 1000 / n
  · rw [if_pos hc]
    go_enter Try.func56, Try.ntmps56
    go_wp2
    go_ret
    exact Ret.mk (by repeat (first | with_reducible exact Below.refl _ _ | with_reducible refine Below.drew ?_ | (with_reducible refine Below.alloc ?_ (by first | exact Nat.le_refl _ | omega | (simp only [sizes]; omega)) _) | (with_reducible refine Below.setCell ?_ (by first | exact Nat.le_refl _ | omega | (simp only [sizes]; omega)) _) | (refine Below.trans ?_ (Below.mono (by with_reducible assumption) (by first | exact Nat.le_refl _ | omega | (simp only [sizes]; omega))))))
  · rw [if_neg hc]
    go_enter Try.func56, Try.ntmps56
    go_wp2
    go_ret
    exact Ret.mk (by repeat (first | with_reducible exact Below.refl _ _ | with_reducible refine Below.drew ?_ | (with_reducible refine Below.alloc ?_ (by first | exact Nat.le_refl _ | omega | (simp only [sizes]; omega)) _) | (with_reducible refine Below.setCell ?_ (by first | exact Nat.le_refl _ | omega | (simp only [sizes]; omega)) _) | (refine Below.trans ?_ (Below.mono (by with_reducible assumption) (by first | exact Nat.le_refl _ | omega | (simp only [sizes]; omega))))))
theorem idletax_Estimate_any (old used n : Int) (w : World) : Calls Try.prog 56 #[.int .i64 old, .int .i64 used, .int .i64 n] w (Ret w (.int .i64 (estimateI old used n))) := by
  unfold estimateI
  by_cases h : n < 1 ∨ 32 < n ∨ used < 0 ∨ n < used ∨ old < 0 ∨ 1000 < old
  · rw [if_pos h]; exact idletax_Estimate_bad old used n w h
  · rw [if_neg h]; exact idletax_Estimate_good old used n w (by omega) (by omega) (by omega) (by omega) (by omega) (by omega)
end Go.Proofs.Ytbnngjhnkegliaa
namespace Go.Proofs.Ytbnngjhnkegliaa
open Go.RowKit

theorem info_gm : (Try.prog.info? 57).map (fun i => (i.zero, i.size, i.bytes)) = some (some (.agg #[.int .i64 0, .int .i64 0, .int .i64 0, .int .i64 0, .int .i64 0, .slice none 0 0, .slice none 0 0, .int .i64 0, .slice none 0 0]), 9, 120) := by kernel_rfl
theorem one_gm (r l s p a h : Int) (so uo eo : Option Addr) (sl sc ul uc el ec : Nat) : ∀ u ∈ [Value.int .i64 r, .int .i64 l, .int .i64 s, .int .i64 p, .int .i64 a, .slice so sl sc, .slice uo ul uc, .int .i64 h, .slice eo el ec], u.oneCell' = true := by
  intro u hu
  simp at hu
  rcases hu with rfl | rfl | rfl | rfl | rfl | rfl | rfl | rfl | rfl <;> rfl
theorem hoRet' {k : Value → Value} {H : Ho} {base n r m q : Nat} {w w' : World} {of or' om og : Option Addr} {kf kr km kg : Nat} {us : List Value} {gs : List Gv} {t d s : Int} (h1 : H.P.F.length = n) (h2 : H.P.R.length = r) (h3 : H.P.M.length = m) (h4 : H.G.length = q) (ht : H.t = t) (hd : H.d = d) (hs : H.n = s) (h : OwnH base w' (.slice of n kf) (.slice or' r kr) (.slice om m km) us (.slice og q kg) gs H) (hb : Below w.heap.size w w') (hz : w.heap.size ≤ base := by omega) :
    RetHoB k H w (.returned (k (.agg #[.slice of n kf, .slice or' r kr, .slice om m km, .slice og q kg, .int .i64 t, .int .u64 d, .int .i64 s]))) w' := hoRet rfl h1 h2 h3 h4 ht hd hs h hb hz
/-- A host's box written over, behind its rows. -/
theorem OwnH.fill7 {base B : Nat} {w : World} {vf vr vm : Value} {us : List Value} {vg : Value} {gs : List Gv} {H : Ho} (h : OwnH base w vf vr vm us vg gs H) (hB : B < base) (x0 x1 x2 x3 x4 x5 x6 : Value) : OwnH base (((((((w.setCell ⟨B, 0, none⟩ x0).setCell ⟨B, 1, none⟩ x1).setCell ⟨B, 2, none⟩ x2).setCell ⟨B, 3, none⟩ x3).setCell ⟨B, 4, none⟩ x4).setCell ⟨B, 5, none⟩ x5).setCell ⟨B, 6, none⟩ x6) vf vr vm us vg gs H :=
  ((((((h.setlow hB x0).setlow hB x1).setlow hB x2).setlow hB x3).setlow hB x4).setlow hB x5).setlow hB x6
theorem Below.fill7 {B b : Nat} {w w' : World} (h : Below B w w') (hB : B ≤ b) (x0 x1 x2 x3 x4 x5 x6 : Value) : Below B w (((((((w'.setCell ⟨b, 0, none⟩ x0).setCell ⟨b, 1, none⟩ x1).setCell ⟨b, 2, none⟩ x2).setCell ⟨b, 3, none⟩ x3).setCell ⟨b, 4, none⟩ x4).setCell ⟨b, 5, none⟩ x5).setCell ⟨b, 6, none⟩ x6) :=
  ((((((h.setCell (p := ⟨b, 0, none⟩) hB x0).setCell (p := ⟨b, 1, none⟩) hB x1).setCell (p := ⟨b, 2, none⟩) hB x2).setCell (p := ⟨b, 3, none⟩) hB x3).setCell (p := ⟨b, 4, none⟩) hB x4).setCell (p := ⟨b, 5, none⟩) hB x5).setCell (p := ⟨b, 6, none⟩) hB x6
set_option maxRecDepth 100000 in
set_option maxHeartbeats 8000000 in
theorem hclone_ok (v : Value) (H : Ho) (w : World) (ha : HoAt w v H) (hok : H.Ok) : Calls Try.prog 24 #[v] w (RetHoB (fun v => v) H w) := by
  have hbd := hok.bounds
  obtain ⟨s1, _, s2, s3, s5⟩ := hbd
  have s4 : ∀ l ∈ H.P.M, l.length ≤ 1000000 := fun l hl => by have := (hok.p.l l hl).2; omega
  have s6 : ∀ (i : Nat) (g : Gm), H.G[i]? = some g → g.s.length ≤ 32 ∧ g.u.length ≤ 32 ∧ g.e.length ≤ 32 := fun i g hg => by
    obtain ⟨l, hl, hgo⟩ := hok.page hg
    have := (hok.p.l l (mem_at hl)).2
    have := hgo.ls
    have := hgo.lu
    have := hgo.le
    omega
  clear hok
  obtain ⟨of, or', om, og, kf, kr, km, kg, rfl, kf1, kf2, kr1, kr2, km1, km2, kg1, kg2, h⟩ := ha
  obtain ⟨n, hn⟩ : ∃ n, H.P.F.length = n := ⟨_, rfl⟩
  obtain ⟨r, hr⟩ : ∃ n, H.P.R.length = n := ⟨_, rfl⟩
  obtain ⟨m, hm⟩ : ∃ n, H.P.M.length = n := ⟨_, rfl⟩
  obtain ⟨q, hq⟩ : ∃ n, H.G.length = n := ⟨_, rfl⟩
  obtain ⟨tx, htx⟩ : ∃ n, H.t = n := ⟨_, rfl⟩
  obtain ⟨dx, hdx⟩ : ∃ n, H.d = n := ⟨_, rfl⟩
  obtain ⟨sx, hsx⟩ : ∃ n, H.n = n := ⟨_, rfl⟩
  rw [hn] at h kf1 ⊢
  rw [hr] at h kr1 ⊢
  rw [hm] at h km1 ⊢
  rw [hq] at h kg1 ⊢
  rw [htx, hdx, hsx]
  have HN := Lib.hid hn; clear hn
  have HR := Lib.hid hr; clear hr
  have HM := Lib.hid hm; clear hm
  have HQ := Lib.hid hq; clear hq
  have HT := Lib.hid htx; clear htx
  have HD := Lib.hid hdx; clear hdx
  have HS := Lib.hid hsx; clear hsx
  rw [HN.out] at s1
  rw [HR.out] at s2
  rw [HM.out] at s3
  rw [HQ.out] at s5
  have h00 := h
  obtain ⟨h1, h2, us, h3, h4, h5⟩ := h.p.parts
  obtain ⟨om', km', e0, _, _, h3⟩ := h3
  injection e0 with e0 e9 e1
  clear e9
  subst e0 e1
  rw [HM.out] at h4
  have HF := Lib.hid h1; clear h1
  have HI := Lib.hid h2; clear h2
  have H4 := Lib.hid h4; clear h4
  have H5 := Lib.hid h5; clear h5
  have H3 := Lib.hid h3; clear h3
  have HZ := Lib.hid s4; clear s4 h
  have H6 := Lib.hid s6; clear s6
  have H0 := Lib.hid h00; clear h00
  have D1 := ((HasBlock.made w #[.slice of n kf, .slice or' r kr, .slice om m km, .slice og q kg, .int .i64 tx, .int .u64 dx, .int .i64 sx] 31).alloc (.cells #[.slice none 0 0, .slice none 0 0, .slice none 0 0, .slice none 0 0, .int .i64 0, .int .u64 0, .int .i64 0] 31)).alloc (.cells #[.slice of n kf, .slice or' r kr, .slice om m km, .slice og q kg, .int .i64 tx, .int .u64 dx, .int .i64 sx] 31)
  have D2 := (HasBlock.made (w.alloc (.cells #[.slice of n kf, .slice or' r kr, .slice om m km, .slice og q kg, .int .i64 tx, .int .u64 dx, .int .i64 sx] 31)) #[.slice none 0 0, .slice none 0 0, .slice none 0 0, .slice none 0 0, .int .i64 0, .int .u64 0, .int .i64 0] 31).alloc (.cells #[.slice of n kf, .slice or' r kr, .slice om m km, .slice og q kg, .int .i64 tx, .int .u64 dx, .int .i64 sx] 31)
  have D3 := HasBlock.made ((w.alloc (.cells #[.slice of n kf, .slice or' r kr, .slice om m km, .slice og q kg, .int .i64 tx, .int .u64 dx, .int .i64 sx] 31)).alloc (.cells #[.slice none 0 0, .slice none 0 0, .slice none 0 0, .slice none 0 0, .int .i64 0, .int .u64 0, .int .i64 0] 31)) #[.slice of n kf, .slice or' r kr, .slice om m km, .slice og q kg, .int .i64 tx, .int .u64 dx, .int .i64 sx] 31
  have hbw : Below w.heap.size w (((w.alloc (.cells #[.slice of n kf, .slice or' r kr, .slice om m km, .slice og q kg, .int .i64 tx, .int .u64 dx, .int .i64 sx] 31)).alloc (.cells #[.slice none 0 0, .slice none 0 0, .slice none 0 0, .slice none 0 0, .int .i64 0, .int .u64 0, .int .i64 0] 31)).alloc (.cells #[.slice of n kf, .slice or' r kr, .slice om m km, .slice og q kg, .int .i64 tx, .int .u64 dx, .int .i64 sx] 31)) := (by repeat (first | with_reducible exact Below.refl _ _ | with_reducible refine Below.drew ?_ | (with_reducible refine Below.alloc ?_ (by first | exact Nat.le_refl _ | omega | (dsimp only; omega) | (simp only [sizes]; omega)) _) | (with_reducible refine Below.setCell ?_ (by first | exact Nat.le_refl _ | omega | (dsimp only; omega) | (simp only [sizes]; omega)) _) | (refine Below.trans ?_ (Below.mono (by with_reducible assumption) (by first | exact Nat.le_refl _ | omega | (dsimp only; omega) | (simp only [sizes]; omega))))))
  simp only [sizes] at D2 D3
  have hz : w.heap.size + 1 + 1 + 1 ≤ (((w.alloc (.cells #[.slice of n kf, .slice or' r kr, .slice om m km, .slice og q kg, .int .i64 tx, .int .u64 dx, .int .i64 sx] 31)).alloc (.cells #[.slice none 0 0, .slice none 0 0, .slice none 0 0, .slice none 0 0, .int .i64 0, .int .u64 0, .int .i64 0] 31)).alloc (.cells #[.slice of n kf, .slice or' r kr, .slice om m km, .slice og q kg, .int .i64 tx, .int .u64 dx, .int .i64 sx] 31)).heap.size := by simp only [sizes]; omega
  go_enter Try.func24, Try.ntmps24
  go_wp2_with fail
  with_reducible refine (clone_str _ H.P.F _ (HF.out.below hbw) (by rw [HN.out]; omega)).mono ?_
  rintro e w1 ⟨v1, rfl, o1, hb1⟩
  simp only [sizes] at o1
  replace D1 := D1.below hb1
  replace D2 := D2.below hb1
  replace D3 := D3.below hb1
  replace hbw := hbw.trans (hb1.mono hbw.size)
  replace hz := Nat.le_trans hz hb1.size
  clear hb1
  obtain ⟨of1, kf1', rfl, _, _⟩ := o1.form
  rw [HN.out] at o1 ⊢
  obtain ⟨D1_c, D1_f, D1_z⟩ := D1.all
  obtain ⟨D2_c, D2_f, D2_z⟩ := D2.all
  obtain ⟨D3_c, D3_f, D3_z⟩ := D3.all
  go_wp2_with fail
  clear D1_c D1_f D1_z
  clear D2_c D2_f D2_z
  clear D3_c D3_f D3_z
  replace D3 := D3.put7_0 (.slice of1 n kf1')
  replace D1 := D1.set_ne (b' := w.heap.size + 1 + 1) (j := 0) (by omega) (.slice of1 n kf1')
  replace D2 := D2.set_ne (b' := w.heap.size + 1 + 1) (j := 0) (by omega) (.slice of1 n kf1')
  replace o1 := o1.setlow (b := w.heap.size + 1 + 1) (j := 0) (by omega) (.slice of1 n kf1')
  replace hbw := hbw.setCell (p := ⟨w.heap.size + 1 + 1, 0, none⟩) (by dsimp only; omega) (.slice of1 n kf1')
  generalize hW : World.setCell w1 ⟨w.heap.size + 1 + 1, 0, none⟩ (.slice of1 n kf1') = w2 at D1 D2 D3 o1 hbw ⊢
  replace hz := Nat.le_trans hz (Nat.le_of_eq ((World.size_setCell w1 ⟨w.heap.size + 1 + 1, 0, none⟩ (.slice of1 n kf1')).symm.trans (congrArg (fun x : World => x.heap.size) hW)))
  clear hW
  with_reducible refine (clone_num _ H.P.R _ (HI.out.below hbw) (by rw [HR.out]; omega)).mono ?_
  rintro e w3 ⟨v3, rfl, o3, hb3⟩
  replace o3 := o3.lower (base' := w.heap.size + 1 + 1 + 1) hz
  replace D1 := D1.below hb3
  replace D2 := D2.below hb3
  replace D3 := D3.below hb3
  replace o1 := o1.below hb3
  replace hbw := hbw.trans (hb3.mono hbw.size)
  replace hz := Nat.le_trans hz hb3.size
  clear hb3
  obtain ⟨or1, kr1', rfl, _, _⟩ := o3.form
  rw [HR.out] at o3 ⊢
  obtain ⟨D1_c, D1_f, D1_z⟩ := D1.all
  obtain ⟨D2_c, D2_f, D2_z⟩ := D2.all
  obtain ⟨D3_c, D3_f, D3_z⟩ := D3.all
  go_wp2_with fail
  clear D1_c D1_f D1_z
  clear D2_c D2_f D2_z
  clear D3_c D3_f D3_z
  replace D3 := D3.put7_1 (.slice or1 r kr1')
  replace D1 := D1.set_ne (b' := w.heap.size + 1 + 1) (j := 1) (by omega) (.slice or1 r kr1')
  replace D2 := D2.set_ne (b' := w.heap.size + 1 + 1) (j := 1) (by omega) (.slice or1 r kr1')
  replace o1 := o1.setlow (b := w.heap.size + 1 + 1) (j := 1) (by omega) (.slice or1 r kr1')
  replace o3 := o3.setlow (b := w.heap.size + 1 + 1) (j := 1) (by omega) (.slice or1 r kr1')
  replace hbw := hbw.setCell (p := ⟨w.heap.size + 1 + 1, 1, none⟩) (by dsimp only; omega) (.slice or1 r kr1')
  generalize hW : World.setCell w3 ⟨w.heap.size + 1 + 1, 1, none⟩ (.slice or1 r kr1') = w4' at D1 D2 D3 o1 o3 hbw ⊢
  replace hz := Nat.le_trans hz (Nat.le_of_eq ((World.size_setCell w3 ⟨w.heap.size + 1 + 1, 1, none⟩ (.slice or1 r kr1')).symm.trans (congrArg (fun x : World => x.heap.size) hW)))
  clear hW
  replace D3 := D3.put7_2 (.slice none 0 0)
  replace D1 := D1.set_ne (b' := w.heap.size + 1 + 1) (j := 2) (by omega) (.slice none 0 0)
  replace D2 := D2.set_ne (b' := w.heap.size + 1 + 1) (j := 2) (by omega) (.slice none 0 0)
  replace o1 := o1.setlow (b := w.heap.size + 1 + 1) (j := 2) (by omega) (.slice none 0 0)
  replace o3 := o3.setlow (b := w.heap.size + 1 + 1) (j := 2) (by omega) (.slice none 0 0)
  replace hbw := hbw.setCell (p := ⟨w.heap.size + 1 + 1, 2, none⟩) (by dsimp only; omega) (.slice none 0 0)
  generalize hW : World.setCell w4' ⟨w.heap.size + 1 + 1, 2, none⟩ (.slice none 0 0) = w4 at D1 D2 D3 o1 o3 hbw ⊢
  replace hz := Nat.le_trans hz (Nat.le_of_eq ((World.size_setCell w4' ⟨w.heap.size + 1 + 1, 2, none⟩ (.slice none 0 0)).symm.trans (congrArg (fun x : World => x.heap.size) hW)))
  clear hW
  have HO : OwnP (w.heap.size + 1 + 1 + 1) w4 (.slice of1 n kf1') (.slice or1 r kr1') (.slice none 0 0) [] ⟨H.P.F, H.P.R, H.P.M.take 0⟩ := ⟨o1, o3, own_nil, OwnRows.nil _ _, fun i u hu => by simp at hu⟩
  clear o1 o3
  go_loopw [27] (fun iv wr => ∃ (i : Nat) (o : Option Addr) (cp : Nat) (us' : List Value), i ≤ m ∧ iv = .int .i64 i ∧ i ≤ cp ∧ cp ≤ 9223372036854775807 ∧ HasBlock wr w.heap.size #[.slice of n kf, .slice or' r kr, .slice om m km, .slice og q kg, .int .i64 tx, .int .u64 dx, .int .i64 sx] 31 ∧ HasBlock wr (w.heap.size + 1) #[.slice none 0 0, .slice none 0 0, .slice none 0 0, .slice none 0 0, .int .i64 0, .int .u64 0, .int .i64 0] 31 ∧ HasBlock wr (w.heap.size + 1 + 1) #[.slice of1 n kf1', .slice or1 r kr1', .slice o i cp, .slice og q kg, .int .i64 tx, .int .u64 dx, .int .i64 sx] 31 ∧ OwnP (w.heap.size + 1 + 1 + 1) wr (.slice of1 n kf1') (.slice or1 r kr1') (.slice o i cp) us' ⟨H.P.F, H.P.R, H.P.M.take i⟩ ∧ Below w.heap.size w wr ∧ w.heap.size + 1 + 1 + 1 ≤ wr.heap.size) (fun iv _ => m - (intOf iv).toNat)
  case atStart => exact ⟨0, none, 0, [], Nat.zero_le _, rfl, Nat.le_refl _, by omega, D1, D2, D3, HO, hbw, hz⟩
  case round =>
    clear D1 D2 D3 HO hbw hz
    obtain ⟨i, o, cp, us', hi, rfl, hc1, hc2, D1, D2, D3, HO, hbw, hz⟩ := hrel
    by_cases hlt : i < m
    · obtain ⟨l, hl⟩ := get_lt (xs := H.P.M) (k := i) (by rw [HM.out]; exact hlt)
      obtain ⟨u, hu⟩ := get_lt (xs := us) (k := i) (by rw [H4.out]; exact hlt)
      have hrow := H5.out i u l hu hl
      have hll := HZ.out l (List.mem_of_getElem? hl)
      obtain ⟨mb, moff, rfl, hmb, hmc⟩ := H3.out.resolve_left (by intro e; rw [e] at hu; simp at hu)
      have cm := (hbw.cell (p := ⟨mb, moff + i, none⟩) hmb).trans (hmc i _ hu)
      obtain ⟨uo, uc, rfl, d1, d2, _⟩ := hrow.out
      have HROW := Lib.hid hrow
      obtain ⟨ql, hql⟩ : ∃ x, l.length = x := ⟨_, rfl⟩
      rw [hql] at hu cm HROW hll
      have HQL := Lib.hid hql; clear hql
      have HL := Lib.hid hl; clear hl hu hmc hrow d1 d2
      obtain ⟨i0, hi0, iz0, iz1, iz2⟩ := info_parts info_ints
      obtain ⟨D1_c, D1_f, D1_z⟩ := D1.all
      obtain ⟨D2_c, D2_f, D2_z⟩ := D2.all
      obtain ⟨D3_c, D3_f, D3_z⟩ := D3.all
      go_wp2_with fail
      have htl : (H.P.M.take i).length = i := by rw [List.length_take, HM.out]; omega
      have HTL := Lib.hid htl; clear htl
      have HOM : Hid (wr.ownsRow (w.heap.size + 1 + 1 + 1) 22 1 (.slice o i cp) i us') := by
        have h := HO.m
        rw [HTL.out] at h
        exact h
      go_region_law (go_loud (first
        | (refine step_append_own rfl (.tmp 33) (.tmp 36) 25 rfl (w.heap.size + 1 + 1 + 1) 22 i0 (.slice none 0 0) 1 24 Try.underlying25 hi0 iz0 iz1 iz2 rfl (by decide) (.slice o i cp) i us' rfl (HOM5.out.alloc _) ⟨_, 0, none⟩ 1 1 [.slice uo5 ql uk5] rfl rfl (cells_made _ [.slice uo5 ql uk5] _ _ rfl) (one_slice _ _ _) (by unfold maxLen; omega) (by omega) (by simp only [sizes]; omega) ?_
           intro v6 w6 hown6 hgrow6 _
           obtain ⟨o6, c6, rfl, hc61, hc62⟩ := own_form' hown6
           have hbg := below_grown (w := w5) (B := w.heap.size + 1 + 1 + 1) ((Below.refl _ _).alloc (by omega) (.cells #[.slice uo5 ql uk5] 22)) (HOM5.out.alloc _) hgrow6 (Nat.le_refl _) (by simp only [sizes]; omega)
           have HO6 := (HO5.alloc (.cells #[.slice uo5 ql uk5] 22)).push (l := l) (O5.alloc _) hr5 hu5 (by rw [HTL.out]; exact hown6) hgrow6
           have F1 := E1.under hbg (by omega)
           have F2 := E2.under hbg (by omega)
           have F3 := E3.under hbg (by omega)
           have hbw6 : Below w.heap.size w w6 := hbw5.trans (hbg.mono (by omega))
           have hz6 : w.heap.size + 1 + 1 + 1 ≤ w6.heap.size := Nat.le_trans hz5 hbg.size
           clear hbg
           obtain ⟨F3_c, F3_f, F3_z⟩ := F3.all)
        | (go_simp; go_at_call 44
           with_reducible refine (clone_num _ l _ (HROW.out.below ((hbw.drew))) (by rw [HQL.out]; omega)).mono ?_
           rintro _ w5 ⟨v5, rfl, o5, hb5⟩
           obtain ⟨uo5, uk5, rfl, _, _⟩ := o5.formN HQL.out
           have HB5 : Below wr.heap.size wr w5 := (Below.drew (Below.refl _ wr)).trans hb5
           clear hb5
           have E1 := D1.below HB5
           have E2 := D2.below HB5
           have E3 := D3.below HB5
           have HO5 := HO.below HB5
           have hz5 : w.heap.size + 1 + 1 + 1 ≤ w5.heap.size := Nat.le_trans hz HB5.size
           have hbw5 : Below w.heap.size w w5 := hbw.trans (HB5.mono hbw.size)
           have HOM5 : Hid (w5.ownsRow (w.heap.size + 1 + 1 + 1) 22 1 (.slice o i cp) i us') := Lib.hid (owns_below HOM.out HB5)
           have hr5 : Apart (.slice or1 r kr1') (.slice uo5 ql uk5) := apart_lt (B := wr.heap.size) (fun k hk => (World.ownsRow.lt HO.r.raw k hk).2) (fun k hk => (World.ownsRow.lt o5.raw k hk).1)
           have hu5 : ∀ (j : Nat) (u' : Value), us'[j]? = some u' → Apart u' (.slice uo5 ql uk5) := fun j u' hj => apart_lt (B := wr.heap.size) (fun k hk => by
             obtain ⟨xs, hxs⟩ := get_lt (xs := H.P.M.take i) (k := j) (by rw [← HO.u.1]; exact lt_of_get hj)
             exact (World.ownsRow.lt (HO.u.2.1 j u' xs hj hxs).raw k hk).2) (fun k hk => (World.ownsRow.lt o5.raw k hk).1)
           have O5 := OwnEnc.lower (base' := w.heap.size + 1 + 1 + 1) o5 hz
           clear o5
           obtain ⟨E3_c, E3_f, E3_z⟩ := E3.all)))
      all_goals
        go_wp2_with fail
        go_roundw
        case rel =>
          refine ⟨i + 1, o6, c6, us' ++ [.slice uo5 ql uk5], by omega, by go_num, hc61, hc62, F1.set_ne (by omega) _, F2.set_ne (by omega) _, F3.put7_2 _, ?_, hbw6.setCell (by dsimp only; omega) _, by rw [World.size_setCell]; exact hz6⟩
          have h := HO6.setlow (b := w.heap.size + 1 + 1) (j := 2) (by omega) (.slice o6 (i + 1) c6)
          rw [List.take_add_one, HL.out]
          exact h
        case measure => simp [intOf]; omega
    · obtain rfl : i = m := by omega
      have hall : H.P.M.take i = H.P.M := by rw [← HM.out]; exact List.take_length
      rw [hall] at HO
      clear hall
      obtain ⟨D1_c, D1_f, D1_z⟩ := D1.all
      obtain ⟨D2_c, D2_f, D2_z⟩ := D2.all
      obtain ⟨D3_c, D3_f, D3_z⟩ := D3.all
      go_wp2_with fail
      clear D1_c D1_f D1_z
      clear D2_c D2_f D2_z
      clear D3_c D3_f D3_z
      replace D3 := D3.put7_3 (.slice none 0 0)
      replace D1 := D1.set_ne (b' := w.heap.size + 1 + 1) (j := 3) (by omega) (.slice none 0 0)
      replace D2 := D2.set_ne (b' := w.heap.size + 1 + 1) (j := 3) (by omega) (.slice none 0 0)
      replace HO := HO.setlow (b := w.heap.size + 1 + 1) (j := 3) (by omega) (.slice none 0 0)
      replace hbw := hbw.setCell (p := ⟨w.heap.size + 1 + 1, 3, none⟩) (by dsimp only; omega) (.slice none 0 0)
      generalize hW : World.setCell wr ⟨w.heap.size + 1 + 1, 3, none⟩ (.slice none 0 0) = w7 at D1 D2 D3 HO hbw ⊢
      replace hz := Nat.le_trans hz (Nat.le_of_eq ((World.size_setCell wr ⟨w.heap.size + 1 + 1, 3, none⟩ (.slice none 0 0)).symm.trans (congrArg (fun x : World => x.heap.size) hW)))
      clear hW
      have HOH : OwnH (w.heap.size + 1 + 1 + 1) w7 (.slice of1 n kf1') (.slice or1 r kr1') (.slice o i cp) us' (.slice none 0 0) [] ⟨H.P, H.G.take 0, H.t, H.d, H.n⟩ := OwnH.start HO
      clear HO
      go_loopw [45] (fun iv wr => ∃ (j : Nat) (o2 : Option Addr) (cp2 : Nat) (gs : List Gv), j ≤ q ∧ iv = .int .i64 j ∧ j ≤ cp2 ∧ cp2 ≤ 9223372036854775807 ∧ HasBlock wr w.heap.size #[.slice of n kf, .slice or' r kr, .slice om i km, .slice og q kg, .int .i64 tx, .int .u64 dx, .int .i64 sx] 31 ∧ HasBlock wr (w.heap.size + 1) #[.slice none 0 0, .slice none 0 0, .slice none 0 0, .slice none 0 0, .int .i64 0, .int .u64 0, .int .i64 0] 31 ∧ HasBlock wr (w.heap.size + 1 + 1) #[.slice of1 n kf1', .slice or1 r kr1', .slice o i cp, .slice o2 j cp2, .int .i64 tx, .int .u64 dx, .int .i64 sx] 31 ∧ OwnH (w.heap.size + 1 + 1 + 1) wr (.slice of1 n kf1') (.slice or1 r kr1') (.slice o i cp) us' (.slice o2 j cp2) gs ⟨H.P, H.G.take j, H.t, H.d, H.n⟩ ∧ Below w.heap.size w wr ∧ w.heap.size + 1 + 1 + 1 ≤ wr.heap.size) (fun iv _ => q - (intOf iv).toNat)
      case atStart => exact ⟨0, none, 0, [], Nat.zero_le _, rfl, Nat.le_refl _, by omega, D1, D2, D3, HOH, hbw, hz⟩
      case round =>
        clear D1 D2 D3 HOH hbw hz
        obtain ⟨j, o2, cp2, gs, hj, rfl, hc21, hc22, D1, D2, D3, HOH, hbw, hz⟩ := hrel
        by_cases hjq : j < q
        · obtain ⟨g, hg⟩ := get_lt (xs := H.G) (k := j) (by rw [HQ.out]; exact hjq)
          obtain ⟨g1, g2, g3⟩ := H6.out j g hg
          obtain ⟨gb, goff, so, sc, uo, uc, eo, ec, rfl, hgb, t1, t2, u1, u2, e3, e4, cs, hS, hU, hE⟩ := H0.out.guest hg
          have htj : H.G.take (j + 1) = H.G.take j ++ [g] := by rw [List.take_add_one, hg]; rfl
          have hlj : (H.G.take j).length = j := by rw [List.length_take, HQ.out]; omega
          have HTJ := Lib.hid htj; clear htj
          have HLJ := Lib.hid hlj; clear hlj
          have HGX : Hid (∃ g', g' = g) := Lib.hid ⟨g, rfl⟩
          clear HGX hg
          obtain ⟨g0, hg0⟩ : ∃ g0, g0 = g := ⟨_, rfl⟩
          rw [← hg0] at HTJ
          obtain ⟨⟨rr, cl, ss, pp, aa⟩, S, U, hd, E⟩ := g
          dsimp only at g1 g2 g3 t1 u1 e3 hS hU hE
          have c0 : wr.cell? ⟨gb, goff + j * 9, none⟩ = _ := (hbw.cell (p := ⟨gb, goff + j * 9, none⟩) hgb).trans (cs 0 _ rfl)
          have c1 : wr.cell? ⟨gb, goff + j * 9 + 1, none⟩ = _ := (hbw.cell (p := ⟨gb, goff + j * 9 + 1, none⟩) hgb).trans (cs 1 _ rfl)
          have c2 : wr.cell? ⟨gb, goff + j * 9 + 2, none⟩ = _ := (hbw.cell (p := ⟨gb, goff + j * 9 + 2, none⟩) hgb).trans (cs 2 _ rfl)
          have c3 : wr.cell? ⟨gb, goff + j * 9 + 3, none⟩ = _ := (hbw.cell (p := ⟨gb, goff + j * 9 + 3, none⟩) hgb).trans (cs 3 _ rfl)
          have c4 : wr.cell? ⟨gb, goff + j * 9 + 4, none⟩ = _ := (hbw.cell (p := ⟨gb, goff + j * 9 + 4, none⟩) hgb).trans (cs 4 _ rfl)
          have c5 : wr.cell? ⟨gb, goff + j * 9 + 5, none⟩ = _ := (hbw.cell (p := ⟨gb, goff + j * 9 + 5, none⟩) hgb).trans (cs 5 _ rfl)
          have c6 : wr.cell? ⟨gb, goff + j * 9 + 6, none⟩ = _ := (hbw.cell (p := ⟨gb, goff + j * 9 + 6, none⟩) hgb).trans (cs 6 _ rfl)
          have c7 : wr.cell? ⟨gb, goff + j * 9 + 7, none⟩ = _ := (hbw.cell (p := ⟨gb, goff + j * 9 + 7, none⟩) hgb).trans (cs 7 _ rfl)
          have c8 : wr.cell? ⟨gb, goff + j * 9 + 8, none⟩ = _ := (hbw.cell (p := ⟨gb, goff + j * 9 + 8, none⟩) hgb).trans (cs 8 _ rfl)
          clear cs
          obtain ⟨sl, hsl⟩ : ∃ x, S.length = x := ⟨_, rfl⟩
          obtain ⟨ul, hul⟩ : ∃ x, U.length = x := ⟨_, rfl⟩
          obtain ⟨el, hel⟩ : ∃ x, E.length = x := ⟨_, rfl⟩
          dsimp only at c0 c1 c2 c3 c4 c5 c6 c7 c8
          rw [hsl] at g1 t1 hS c5
          rw [hul] at g2 u1 hU c6
          rw [hel] at g3 e3 hE c8
          have HSL := Lib.hid hsl; clear hsl
          have HUL := Lib.hid hul; clear hul
          have HEL := Lib.hid hel; clear hel
          have HG0 := Lib.hid hg0; clear hg0
          have HS' := Lib.hid hS; clear hS
          have HU' := Lib.hid hU; clear hU
          have HE' := Lib.hid hE; clear hE
          have hlt := HOH.lt
          have HLT := Lib.hid hlt; clear hlt
          obtain ⟨D1_c, D1_f, D1_z⟩ := D1.all
          obtain ⟨D2_c, D2_f, D2_z⟩ := D2.all
          obtain ⟨D3_c, D3_f, D3_z⟩ := D3.all
          go_wp2_with fail
          clear D1_c D1_f D1_z
          clear D2_c D2_f D2_z
          clear D3_c D3_f D3_z
          clear c0 c1 c2 c3 c4 c5 c6 c7 c8
          have hbr : Below wr.heap.size wr (wr.alloc (.cells #[.int .i64 rr, .int .i64 cl, .int .i64 ss, .int .i64 pp, .int .i64 aa, .slice so sl sc, .slice uo ul uc, .int .i64 hd, .slice eo el ec] 57)) := (Below.refl _ _).alloc (Nat.le_refl _) _
          have DG := HasBlock.made wr #[.int .i64 rr, .int .i64 cl, .int .i64 ss, .int .i64 pp, .int .i64 aa, .slice so sl sc, .slice uo ul uc, .int .i64 hd, .slice eo el ec] 57
          generalize hW : wr.alloc (.cells #[.int .i64 rr, .int .i64 cl, .int .i64 ss, .int .i64 pp, .int .i64 aa, .slice so sl sc, .slice uo ul uc, .int .i64 hd, .slice eo el ec] 57) = w8 at hbr DG ⊢
          clear hW
          have l8 := DG.lt
          with_reducible refine (clone_str _ S _ (HS'.out.below (hbw.trans (hbr.mono hbw.size))) (by rw [HSL.out]; omega)).mono ?_
          rintro e w9 ⟨v9, rfl, o5, hb9⟩
          obtain ⟨so5, sc5, rfl, _, _⟩ := o5.formN HSL.out
          replace DG := DG.below hb9
          replace hbr := hbr.trans (hb9.mono hbr.size)
          clear hb9
          obtain ⟨DG_c, DG_f, DG_z⟩ := DG.all
          go_wp2_with fail
          clear DG_c DG_f DG_z
          replace DG := DG.put9_5 (.slice so5 sl sc5)
          replace hbr := hbr.setCell (p := ⟨wr.heap.size, 5, none⟩) (Nat.le_refl _) (.slice so5 sl sc5)
          replace o5 := o5.setlow (j := 5) l8 (.slice so5 sl sc5)
          generalize hW : World.setCell w9 ⟨wr.heap.size, 5, none⟩ (.slice so5 sl sc5) = w10 at hbr DG o5 ⊢
          clear hW
          have l10 := DG.lt
          with_reducible refine (clone_bool _ U _ (HU'.out.below (hbw.trans (hbr.mono hbw.size))) (by rw [HUL.out]; omega)).mono ?_
          rintro e w11 ⟨v11, rfl, o6, hb11⟩
          obtain ⟨uo6, uc6, rfl, _, _⟩ := o6.formN HUL.out
          replace DG := DG.below hb11
          replace hbr := hbr.trans (hb11.mono hbr.size)
          replace o5 := o5.below hb11
          clear hb11
          obtain ⟨DG_c, DG_f, DG_z⟩ := DG.all
          go_wp2_with fail
          clear DG_c DG_f DG_z
          replace DG := DG.put9_6 (.slice uo6 ul uc6)
          replace hbr := hbr.setCell (p := ⟨wr.heap.size, 6, none⟩) (Nat.le_refl _) (.slice uo6 ul uc6)
          replace o5 := o5.setlow (j := 6) l8 (.slice uo6 ul uc6)
          replace o6 := o6.setlow (j := 6) l10 (.slice uo6 ul uc6)
          generalize hW : World.setCell w11 ⟨wr.heap.size, 6, none⟩ (.slice uo6 ul uc6) = w12 at hbr DG o5 o6 ⊢
          clear hW
          have l12 := DG.lt
          have hul6 : ∀ k, (Value.slice uo6 ul uc6).ownBlock = some k → k < w12.heap.size := fun k hk => (World.ownsRow.lt o6.raw k hk).2
          with_reducible refine (clone_bool _ E _ (HE'.out.below (hbw.trans (hbr.mono hbw.size))) (by rw [HEL.out]; omega)).mono ?_
          rintro e w13 ⟨v13, rfl, o7, hb13⟩
          obtain ⟨eo7, ec7, rfl, _, _⟩ := o7.formN HEL.out
          replace DG := DG.below hb13
          replace hbr := hbr.trans (hb13.mono hbr.size)
          replace o5 := o5.below hb13
          replace o6 := o6.below hb13
          clear hb13
          have hbr14 := hbr.setCell (p := ⟨wr.heap.size, 8, none⟩) (Nat.le_refl _) (.slice eo7 el ec7)
          have HO14 := HOH.below hbr14
          have HGO : Hid ((World.setCell w13 ⟨wr.heap.size, 8, none⟩ (.slice eo7 el ec7)).ownsRow (w.heap.size + 1 + 1 + 1) 57 9 (.slice o2 j cp2) j (gmFlat (H.G.take j) gs)) := by
            have h := HO14.g
            change World.ownsRow _ _ _ _ _ (H.G.take j).length (gmFlat (H.G.take j) gs) at h
            rw [HLJ.out] at h
            exact h
          have o5' := ((o5.setlow (j := 8) l8 (.slice eo7 el ec7)).lower (base' := w.heap.size + 1 + 1 + 1) (by omega)).alloc (.cells #[.int .i64 rr, .int .i64 cl, .int .i64 ss, .int .i64 pp, .int .i64 aa, .slice so5 sl sc5, .slice uo6 ul uc6, .int .i64 hd, .slice eo7 el ec7] 57)
          have hz10 : wr.heap.size < w10.heap.size := l10
          have hz12 : wr.heap.size < w12.heap.size := l12
          have o6' := ((o6.setlow (j := 8) l10 (.slice eo7 el ec7)).lower (base' := w.heap.size + 1 + 1 + 1) (by omega)).alloc (.cells #[.int .i64 rr, .int .i64 cl, .int .i64 ss, .int .i64 pp, .int .i64 aa, .slice so5 sl sc5, .slice uo6 ul uc6, .int .i64 hd, .slice eo7 el ec7] 57)
          have o7' := ((o7.setlow (j := 8) l12 (.slice eo7 el ec7)).lower (base' := w.heap.size + 1 + 1 + 1) (by omega)).alloc (.cells #[.int .i64 rr, .int .i64 cl, .int .i64 ss, .int .i64 pp, .int .i64 aa, .slice so5 sl sc5, .slice uo6 ul uc6, .int .i64 hd, .slice eo7 el ec7] 57)
          have ge5 : ∀ k, (Value.slice so5 sl sc5).ownBlock = some k → wr.heap.size ≤ k := fun k hk => by have := o5.ge k hk; omega
          have ge6 : ∀ k, (Value.slice uo6 ul uc6).ownBlock = some k → wr.heap.size ≤ k := fun k hk => by have := o6.ge k hk; omega
          have ge7 : ∀ k, (Value.slice eo7 el ec7).ownBlock = some k → wr.heap.size ≤ k := fun k hk => by have := o7.ge k hk; omega
          have hne7 : ∀ k, (Value.slice uo6 ul uc6).ownBlock = some k → (Value.slice eo7 el ec7).ownBlock ≠ some k := fun k hk hk' => by
            have := hul6 k hk
            have := o7.ge k hk'
            omega
          have HO5 := Lib.hid o5'; clear o5 o5'
          have HO6 := Lib.hid o6'; clear o6 o6'
          have HO7 := Lib.hid o7'; clear o7 o7'
          have HK := Lib.hid (And.intro ge5 (And.intro ge6 (And.intro ge7 hne7))); clear ge5 ge6 ge7 hne7 hul6
          have hbw14 : Below w.heap.size w (World.setCell w13 ⟨wr.heap.size, 8, none⟩ (.slice eo7 el ec7)) := hbw.trans (hbr14.mono hbw.size)
          have hz14 : w.heap.size + 1 + 1 + 1 ≤ w13.heap.size := Nat.le_trans hz hbr.size
          obtain ⟨i0, hi0, iz0, iz1, iz2⟩ := info_parts info_gm
          have E3 := D3.below hbr
          obtain ⟨DG_c, DG_f, DG_z⟩ := DG.all
          obtain ⟨E3_c, E3_f, E3_z⟩ := E3.all
          go_wp2_with (at_builtin; go_must (refine wpList_append_own _ rfl (.tmp 62) (.tmp 64) 28 rfl (w.heap.size + 1 + 1 + 1) 57 i0 (.agg #[.int .i64 0, .int .i64 0, .int .i64 0, .int .i64 0, .int .i64 0, .slice none 0 0, .slice none 0 0, .int .i64 0, .slice none 0 0]) 9 120 Try.underlying28 hi0 iz0 iz1 iz2 rfl (by decide) _ j (gmFlat (H.G.take j) gs) rfl (HGO.out.alloc _) ⟨w13.heap.size, 0, none⟩ 1 1 [.int .i64 rr, .int .i64 cl, .int .i64 ss, .int .i64 pp, .int .i64 aa, .slice so5 sl sc5, .slice uo6 ul uc6, .int .i64 hd, .slice eo7 el ec7] rfl rfl (cells_made _ [.int .i64 rr, .int .i64 cl, .int .i64 ss, .int .i64 pp, .int .i64 aa, .slice so5 sl sc5, .slice uo6 ul uc6, .int .i64 hd, .slice eo7 el ec7] _ _ (by first | rfl | simp only [sizes])) (one_gm _ _ _ _ _ _ _ _ _ _ _ _ _ _ _) (by unfold maxLen; omega) (by omega) (by simp only [sizes]; omega) ?_; intro v15 w15 hown15 hgrow15 _; obtain ⟨o15, c15, rfl, hc151, hc152⟩ := own_form' hown15; have F3 := ((D3.below hbr14).alloc (.cells #[.int .i64 rr, .int .i64 cl, .int .i64 ss, .int .i64 pp, .int .i64 aa, .slice so5 sl sc5, .slice uo6 ul uc6, .int .i64 hd, .slice eo7 el ec7] 57)).append (HGO.out.alloc _) hgrow15 (by omega); obtain ⟨F3_c, F3_f, F3_z⟩ := F3.all))
          have HPG := OwnH.pushG (t := H.t) (d := H.d) (n := H.n) (g := ⟨⟨rr, cl, ss, pp, aa⟩, S, U, hd, E⟩) (x := ⟨.slice so5 sl sc5, .slice uo6 ul uc6, .slice eo7 el ec7⟩) (HO14.alloc _) HO5.out HO6.out HO7.out HLT.out HK.out.1 HK.out.2.1 HK.out.2.2.1 HK.out.2.2.2 (by rw [HLJ.out]; exact hown15) hgrow15
          have F1 := ((D1.below hbr14).alloc (.cells #[.int .i64 rr, .int .i64 cl, .int .i64 ss, .int .i64 pp, .int .i64 aa, .slice so5 sl sc5, .slice uo6 ul uc6, .int .i64 hd, .slice eo7 el ec7] 57)).append (HGO.out.alloc _) hgrow15 (by omega)
          have F2 := ((D2.below hbr14).alloc (.cells #[.int .i64 rr, .int .i64 cl, .int .i64 ss, .int .i64 pp, .int .i64 aa, .slice so5 sl sc5, .slice uo6 ul uc6, .int .i64 hd, .slice eo7 el ec7] 57)).append (HGO.out.alloc _) hgrow15 (by omega)
          have hbw15 : Below w.heap.size w w15 := below_append' (Below.alloc' hbw14 (Nat.le_refl _) _) (HGO.out.alloc _) hgrow15 (by omega)
          have hz15 : w.heap.size + 1 + 1 + 1 ≤ w15.heap.size := by
            have := hgrow15.size
            simp only [sizes] at this
            omega
          go_roundw
          case rel =>
            refine ⟨j + 1, o15, c15, gs ++ [⟨.slice so5 sl sc5, .slice uo6 ul uc6, .slice eo7 el ec7⟩], by omega, by go_num, hc151, hc152, F1.set_ne (by omega) _, F2.set_ne (by omega) _, F3.put7_3 _, ?_, hbw15.setCell (by dsimp only; omega) _, by rw [World.size_setCell]; exact hz15⟩
            rw [HTJ.out, HG0.out]
            exact HPG.setlow (by omega) _
          case measure => simp [intOf]; omega
        · obtain rfl : j = q := by omega
          have hall : H.G.take j = H.G := by rw [← HQ.out]; exact List.take_length
          rw [hall] at HOH
          have HOH' : OwnH (w.heap.size + 1 + 1 + 1) wr (.slice of1 n kf1') (.slice or1 r kr1') (.slice o i cp) us' (.slice o2 j cp2) gs H := HOH
          clear hall HOH
          obtain ⟨D1_c, D1_f, D1_z⟩ := D1.all
          obtain ⟨D2_c, D2_f, D2_z⟩ := D2.all
          obtain ⟨D3_c, D3_f, D3_z⟩ := D3.all
          go_wp2_with fail
          refine bodyPost_ret (v := .agg #[.slice of1 n kf1', .slice or1 r kr1', .slice o i cp, .slice o2 j cp2, .int .i64 tx, .int .u64 dx, .int .i64 sx]) (by simp [results, Try.results24, go_sem, D2_c]) rfl ?_
          exact hoRet' (k := fun v => v) HN.out HR.out HM.out HQ.out HT.out HD.out HS.out (HOH'.fill7 (by omega) _ _ _ _ _ _ _) (Below.fill7 hbw (by omega) _ _ _ _ _ _ _)
end Go.Proofs.Ytbnngjhnkegliaa
