/-
  Texts joined for the hand-in, in build order: HoPRes HoPScan HoPAdd HoClaim HoPMade RegLast. No law is proved here.
-/
import Derived.Test.YtbnngjhnkegliaaB7
import Derived.Test.YtbnngjhnkegliaaB4
import Derived.Test.YtbnngjhnkegliaaB1
import Derived.StillTail
import Derived.OrdersHeld
namespace Go.Proofs.Ytbnngjhnkegliaa
open Go.RowKit

theorem victim_hit {cs : List Clm} {t : Int} : ∀ k : Nat, k ≤ cs.length → 0 ≤ vicF cs t k → ∃ c : Clm, cs[(vicF cs t k).toNat]? = some c ∧ c.r < c.p := by
  intro k
  induction k with
  | zero => intro _ h; simp [vicF] at h
  | succ k ih =>
    intro hk h
    obtain ⟨c, hc⟩ := get_lt (xs := cs) (k := k) (by omega)
    rw [vicF, hc] at h ⊢
    dsimp only at h ⊢
    by_cases ho : vicOk cs t (vicF cs t k) c = true
    · rw [if_pos ho] at h ⊢
      rw [Int.toNat_natCast]
      refine ⟨c, hc, ?_⟩
      unfold vicOk at ho
      rw [Bool.and_eq_true, Bool.and_eq_true, decide_eq_true_eq] at ho
      exact ho.1.2
    · rw [if_neg ho] at h ⊢
      exact ih (by omega) h
theorem victim_none {cs : List Clm} {t : Int} : ∀ k : Nat, k ≤ cs.length → vicF cs t k < 0 → ∀ (a : Nat) (c : Clm), a < k → cs[a]? = some c → validB c = true → c.p ≤ c.r := by
  intro k
  induction k with
  | zero => intro _ h a c ha; omega
  | succ k ih =>
    intro hk h a c ha hc hval
    obtain ⟨d, hd⟩ := get_lt (xs := cs) (k := k) (by omega)
    rw [vicF, hd] at h
    dsimp only at h
    by_cases ho : vicOk cs t (vicF cs t k) d = true
    · rw [if_pos ho] at h
      omega
    · rw [if_neg ho] at h
      by_cases e : a = k
      · subst e
        rw [hd] at hc
        injection hc with hc
        subst hc
        rcases Int.lt_or_le d.r d.p with h2 | h2
        · exact absurd (vicOk_first hval h2 h) ho
        · exact h2
      · exact ih (by omega) h a c (by omega) hc hval
theorem claims_at {H : Ho} {i : Nat} {g : Gm} {l : List Int} (hg : H.G[i]? = some g) (hl : H.P.M[i]? = some l) : H.claims[i]? = some { g.c with p := ((l.countP hasB : Nat) : Int) } := by
  unfold Ho.claims
  rw [List.getElem?_zipWith, hg, hl]
/-- With no frame free and no guest above its reservation every guest has just its reservation, and no frame has two pages. -/
theorem no_victim {H : Ho} (hok : H.Ok) (hfree : H.P.freeN = 0) (hv : ¬ (taxB H.t = true ∧ 0 ≤ vicF H.claims H.t H.claims.length)) : (∀ (a : Nat) (g : Gm) (l : List Int), H.G[a]? = some g → H.P.M[a]? = some l → ((l.countP hasB : Nat) : Int) = g.c.r) ∧ ∀ v : Nat, v < H.P.F.length → H.P.cnt v < 2 := by
  have hcl : H.claims.length = H.G.length := by unfold Ho.claims; rw [List.length_zipWith, hok.m, Nat.min_self]
  have htax : taxB H.t = true := decide_eq_true hok.t
  have hmiss : vicF H.claims H.t H.claims.length < 0 := by
    rcases Int.lt_or_le (vicF H.claims H.t H.claims.length) 0 with h | h
    · exact h
    · exact absurd ⟨htax, h⟩ hv
  have hle : ∀ (a : Nat) (g : Gm) (l : List Int), H.G[a]? = some g → H.P.M[a]? = some l → ((l.countP hasB : Nat) : Int) ≤ g.c.r := fun a g l hg hl => by
    have hgo := hok.g a g l hg hl
    have hrb := hgo.rb
    have hlm := hgo.lim
    refine victim_none _ (Nat.le_refl _) hmiss a { g.c with p := ((l.countP hasB : Nat) : Int) } (by rw [hcl]; exact lt_of_get hg) (claims_at hg hl) ?_
    rw [validB_iff]
    dsimp only
    omega
  have hs := flat_charge H.P.M
  have hcnt := full_cnt hok.p hfree
  obtain ⟨s1, s2⟩ := sum_ge (L := H.P.M.flatten) H.P.F.length hcnt
  have hbd : ∀ f ∈ H.P.M.flatten, f < (H.P.F.length : Int) := fun f hf => by
    rw [List.mem_flatten] at hf
    obtain ⟨l, hl, hf⟩ := hf
    exact (hok.p.pg l hl f hf).2
  have hse := sumC_eq (n := H.P.F.length) H.P.M.flatten hbd
  have hr := hok.r
  have hlen : (H.P.M.map (fun l => ((l.countP hasB : Nat) : Int))).length = (H.G.map (fun g => g.c.r)).length := by rw [List.length_map, List.length_map, hok.m]
  have hpt : ∀ (a : Nat) (x y : Int), (H.P.M.map (fun l => ((l.countP hasB : Nat) : Int)))[a]? = some x → (H.G.map (fun g => g.c.r))[a]? = some y → x ≤ y := fun a x y hx hy => by
    rw [List.getElem?_map] at hx hy
    cases hl : H.P.M[a]? with
    | none => rw [hl] at hx; simp at hx
    | some l =>
      cases hg : H.G[a]? with
      | none => rw [hg] at hy; simp at hy
      | some g =>
        rw [hl] at hx
        rw [hg] at hy
        simp at hx hy
        rw [← hx, ← hy]
        exact hle a g l hg hl
  have hsum := sumI_le hlen hpt
  unfold sumR at hr
  have heq := sumI_eq hlen hpt (by omega)
  refine ⟨fun a g l hg hl => ?_, fun v hv => ?_⟩
  · have h1 : (H.P.M.map (fun l => ((l.countP hasB : Nat) : Int)))[a]? = some ((l.countP hasB : Nat) : Int) := by rw [List.getElem?_map, hl]; rfl
    have h2 : (H.G.map (fun g => g.c.r))[a]? = some g.c.r := by rw [List.getElem?_map, hg]; rfl
    rw [heq, h2] at h1
    injection h1 with h1
    exact h1.symm
  · rcases Nat.lt_or_ge (H.P.cnt v) 2 with h | h
    · exact h
    · have := s2 ⟨v, hv, h⟩
      omega
/-- Guest 0 keeps within its reservation. -/
structure Res (H : Ho) (R : Nat) : Prop where
  sw : ∀ b, (H.sw 0 b).size = 0
  fr : ∀ b, 0 ≤ H.P.fr 0 b → b < R
  r : ∀ g : Gm, H.G[0]? = some g → g.c.r = (R : Int)
theorem count_low {l : List Int} {R : Nat} (h : ∀ (b : Nat) (f : Int), l[b]? = some f → hasB f = true → b < R) : l.countP hasB ≤ R := by
  have h1 : l.countP hasB = (l.take R).countP hasB + (l.drop R).countP hasB := by rw [← List.countP_append, List.take_append_drop]
  have h2 : (l.drop R).countP hasB = 0 := by
    rw [List.countP_eq_zero]
    intro f hf hb
    obtain ⟨j, hj⟩ := List.getElem?_of_mem hf
    rw [List.getElem?_drop] at hj
    have := h _ f hj hb
    omega
  have h3 := List.countP_le_length (p := hasB) (l := l.take R)
  rw [List.length_take] at h3
  omega
theorem fr_low {P : Pl} {a R : Nat} (h : ∀ b, 0 ≤ P.fr a b → b < R) : ∀ (b : Nat) (f : Int), (P.pages a)[b]? = some f → hasB f = true → b < R := fun b f hf hb => by
  refine h b ?_
  unfold Pl.fr
  rw [hf]
  exact of_decide_eq_true hb
theorem Res.charge {H : Ho} {R : Nat} (h : Res H R) : H.P.chargeN 0 ≤ R := count_low (fr_low h.fr)
theorem Res.charge_lt {H : Ho} {R p : Nat} (h : Res H R) (hat : H.P.at 0 p) (hp : p < R) (h0 : H.P.fr 0 p < 0) : H.P.chargeN 0 < R := by
  have hg := Pl.page_get hat
  have h1 := countP_set (q := hasB) (x := (0 : Int)) hg
  have h2 : ((H.P.pages 0).set p 0).countP hasB ≤ R := count_low (fun b f hf hb => by
    rw [List.getElem?_set] at hf
    by_cases e : p = b
    · omega
    · rw [if_neg e] at hf
      exact fr_low h.fr b f hf hb)
  rw [if_neg (show ¬ hasB (H.P.fr 0 p) = true by unfold hasB; rw [decide_eq_true_eq]; omega), if_pos (show hasB 0 = true from rfl)] at h1
  unfold Pl.chargeN
  omega
/-- Guest 0 is not chosen. -/
theorem Res.spared {H : Ho} {R : Nat} (h : Res H R) (hok : H.Ok) {i p : Nat} (hat : H.P.at i p) (hip : i = 0 → p < R) (hf : H.full i p = true) : H.chosen i ≠ 0 := by
  intro hc
  have hi := hok.at_lt hat
  have hf0 := hf
  unfold Ho.full at hf
  rw [Bool.and_eq_true, decide_eq_true_eq] at hf
  obtain ⟨hfree, hneed⟩ := hf
  obtain ⟨g, hg⟩ := get_lt (xs := H.G) (k := 0) (by omega)
  obtain ⟨l, hl, hgo⟩ := hok.page hg
  have hgr := h.r g hg
  have hch := h.charge
  have hcl : H.P.chargeN 0 = l.countP hasB := by unfold Pl.chargeN; rw [Pl.pages_eq hl]
  by_cases hv : taxB H.t = true ∧ 0 ≤ vicF H.claims H.t H.claims.length
  · have hcv : H.chosen i = vicF H.claims H.t H.claims.length := by
      unfold Ho.chosen victimR
      rw [if_pos hv]
      rfl
    obtain ⟨c, hcc, hrp⟩ := victim_hit _ (Nat.le_refl _) hv.2
    rw [← hcv, hc] at hcc
    have hcc' : H.claims[0]? = some c := hcc
    rw [claims_at hg hl] at hcc'
    injection hcc' with hcc'
    subst hcc'
    dsimp only at hrp
    omega
  · have hci : H.chosen i = i := by
      unfold Ho.chosen victimR
      rw [if_neg hv]
      rfl
    have hi0 : i = 0 := by omega
    subst hi0
    obtain ⟨heq, hone⟩ := no_victim hok hfree hv
    have h1 := heq 0 g l hg hl
    have hfr : H.P.fr 0 p < 0 := by
      unfold Pl.need at hneed
      rw [Bool.or_eq_true, decide_eq_true_eq, decide_eq_true_eq] at hneed
      rcases hneed with h | h
      · exact h
      · rcases Int.lt_or_le (H.P.fr 0 p) 0 with h2 | h2
        · exact h2
        · have hb := hok.p.at_bd hat
          obtain ⟨v, hv⟩ : ∃ v : Nat, H.P.fr 0 p = v := ⟨(H.P.fr 0 p).toNat, by omega⟩
          rw [hv, Int.toNat_natCast, hok.p.ref_eq (by omega)] at h
          have := hone v (by omega)
          omega
    have := h.charge_lt hat (hip rfl) hfr
    omega
theorem Res.ev {K L : Ho} {R j : Nat} {x : Int} (h : Res K R) (hok : K.Ok) (he : K.evict j x = some L) (hj : j ≠ 0) : Res L R := by
  obtain ⟨v, _, _, _, h1, h2⟩ := evict_sw hok he
  have E := evict_law hok he
  refine ⟨fun b => by rw [h2 0 b (fun e => hj e.1)]; exact h.sw b, fun b hb => h.fr b (by rw [h1, if_neg (fun e => hj e.1)] at hb; exact hb), fun g hg => ?_⟩
  obtain ⟨g0, hg0⟩ := get_lt (xs := K.G) (k := 0) (by have := lt_of_get hg; rw [E.gl] at this; exact this)
  obtain ⟨g', hg', hc, _⟩ := E.cl 0 g0 hg0
  rw [hg] at hg'
  injection hg' with hg'
  subst hg'
  rw [hc]
  exact h.r g0 hg0
theorem Res.first {H : Ho} {R i p : Nat} (h : Res H R) (hok : H.Ok) (hat : H.P.at i p) (hip : i = 0 → p < R) : Res (H.first i p) R := by
  unfold Ho.first
  split
  · exact h
  · rename_i g hg
    split
    · rename_i hc
      by_cases e : i = 0
      · subst e
        have h1 := h.charge_lt hat (hip rfl) hc.1
        have h2 := h.r g hg
        have h3 := (validB_iff g.c).1 (hok.gmP hg).cv
        omega
      · cases he : H.evict i p with
        | none => exact h
        | some L => exact h.ev hok he e
    · exact h
theorem Res.steps {H1 K : Ho} {R i p : Nat} (h : Res H1 R) (hok : H1.Ok) (hat : H1.P.at i p) (hip : i = 0 → p < R) (hs : Steps i p H1 K) : Res K R := by
  induction hs with
  | refl => exact h
  | @step K L hst hf he ih =>
    have hk := (hst.sp hok (hok.at_lt hat)).2
    have hatK := (hk.al.at i p).2 hat
    have hne := ih.spared hk.ok hatK hip hf
    have hb := chosen_bd hk.ok (hk.ok.at_lt hatK)
    unfold Ho.evictC at he
    exact ih.ev hk.ok he (by omega)
theorem Res.room {H K : Ho} {R i p : Nat} (h : Res H R) (hok : H.Ok) (hat : H.P.at i p) (hip : i = 0 → p < R) (hr : Roomed i p H K) : Res K R := by
  have hf := Kept.first hok i p
  exact (h.first hok hat hip).steps hf.ok ((hf.al.at i p).2 hat) hip hr.1
theorem Res.clear {H : Ho} {R i p : Nat} (h : Res H R) : Res (H.clear i p) R := by
  obtain ⟨r1, r2, r3, r4, r5⟩ := clear_rest H i p
  refine ⟨fun b => ?_, fun b hb => h.fr b (by rw [r1] at hb; exact hb), fun g hg => ?_⟩
  · rw [clear_sw]
    split
    · rfl
    · exact h.sw b
  · obtain ⟨g0, hg0⟩ := get_lt (xs := H.G) (k := 0) (by have := lt_of_get hg; rw [r5] at this; exact this)
    obtain ⟨g', hg', hc, _⟩ := clear_cl i p hg0
    rw [hg] at hg'
    injection hg' with hg'
    subst hg'
    rw [hc]
    exact h.r g0 hg0
theorem mark_sw (H : Ho) (i p a b : Nat) : (H.mark i p).sw a b = H.sw a b := by
  unfold Ho.sw
  cases h0 : H.G[a]? with
  | none =>
    have h1 : (H.mark i p).G[a]? = none := List.getElem?_eq_none (by rw [(mark_rest H i p).2.2.2.2.1]; exact List.getElem?_eq_none_iff.1 h0)
    rw [h1]
  | some g0 =>
    obtain ⟨g1, h1, _, hs⟩ := get_mark (i := i) (k := p) h0
    rw [h1]
    dsimp only
    rw [hs]
/-- A write that keeps within the reservation, or is another guest's. -/
theorem Res.write {H H' : Ho} {R i p : Nat} {d : ByteArray} (h : Res H R) (hok : H.Ok) (hat : H.P.at i p) (hd : d.size = 128) (hip : i = 0 → p < R) (hw : WriteTo H i p d H') : Res H' R := by
  obtain ⟨K, hK, rfl⟩ := hw
  have hR := write_ready hok hat hd hK
  have hKr : Res K R := by
    obtain ⟨hc1, hc2⟩ := clear_ok (i := i) (p := p) hok
    rcases hK with ⟨_, _, hr⟩ | ⟨_, rfl⟩
    · exact (h.clear (i := i) (p := p)).room hc1 (by rw [hc2]; exact hat) hip hr
    · exact h.clear
  obtain ⟨_, _, _, _, p5, p6⟩ := put_law hR.ok ((hR.al.at i p).2 hat) hd hR.wok hR.sw hR.lim
  obtain ⟨e1, _, _, _, e5, _⟩ := mark_rest (K.setP (K.P.wr i p d)) i p
  refine ⟨fun b => by rw [mark_sw]; exact hKr.sw b, fun b hb => ?_, fun g hg => ?_⟩
  · rw [e1] at hb
    change 0 ≤ (K.P.wr i p d).fr 0 b at hb
    by_cases e : i = 0 ∧ p = b
    · rw [← e.2]
      exact hip e.1
    · rw [p5 0 b e] at hb
      exact hKr.fr b hb
  · obtain ⟨g0, hg0⟩ := get_lt (xs := K.G) (k := 0) (by have := lt_of_get hg; rw [e5] at this; exact this)
    obtain ⟨g', hg', hc, _⟩ := get_mark (H := K.setP (K.P.wr i p d)) (i := i) (k := p) hg0
    rw [hg] at hg'
    injection hg' with hg'
    subst hg'
    rw [hc]
    exact hKr.r g0 hg0
end Go.Proofs.Ytbnngjhnkegliaa
namespace Go.Proofs.Ytbnngjhnkegliaa
open Go.RowKit

/-- The pages of the guests, in order. -/
def ordTo (P : Pl) (k : Nat) : List (Nat × Nat) := (List.range k).flatMap (fun i => (List.range (P.pages i).length).map (fun p => (i, p)))
def Ho.ord (H : Ho) : List (Nat × Nat) := ordTo H.P H.P.M.length
def Ho.scan1 (O : List (Nat × Nat)) (H : Ho) : Ho := match O[H.n.toNat]? with
  | none => H
  | some x => ⟨H.P.sh x.1 x.2, H.G, H.t, H.d, (H.n + 1) % O.length⟩
def Ho.scanN (O : List (Nat × Nat)) (H : Ho) : Nat → Ho
  | 0 => H
  | k + 1 => (Ho.scanN O H k).scan1 O
def Ho.scan (H : Ho) (n : Int) : Ho := if n < 1 then H else Ho.scanN H.ord H (min n.toNat H.ord.length)
theorem ordTo_succ (P : Pl) (k : Nat) : ordTo P (k + 1) = ordTo P k ++ (List.range (P.pages k).length).map (fun p => (k, p)) := by
  unfold ordTo
  rw [List.range_succ, List.flatMap_append]
  simp
theorem ordTo_len (P : Pl) : ∀ k : Nat, k ≤ P.M.length → (ordTo P k).length = lenM (P.M.take k)
  | 0, _ => rfl
  | k + 1, h => by
    obtain ⟨l, hl⟩ := get_lt (xs := P.M) (k := k) (by omega)
    rw [ordTo_succ, List.length_append, ordTo_len P k (by omega), lenM_take hl, List.length_map, List.length_range, Pl.pages_eq hl]
theorem ord_len (H : Ho) : H.ord.length = lenM H.P.M := by
  unfold Ho.ord
  rw [ordTo_len _ _ (Nat.le_refl _), List.take_length]
theorem ord_mem {H : Ho} {a b : Nat} : (a, b) ∈ H.ord ↔ H.P.at a b := by
  unfold Ho.ord ordTo
  rw [List.mem_flatMap, Pl.at_lt]
  constructor
  · rintro ⟨i, hi, hx⟩
    rw [List.mem_map] at hx
    obtain ⟨p, hp, he⟩ := hx
    injection he with e1 e2
    subst e1 e2
    exact ⟨List.mem_range.1 hi, List.mem_range.1 hp⟩
  · rintro ⟨h1, h2⟩
    exact ⟨a, List.mem_range.2 h1, List.mem_map.2 ⟨b, List.mem_range.2 h2, rfl⟩⟩
/-- The pages' order hangs on their number alone. -/
theorem ord_alike {H K : Ho} (h : H.P.Alike K.P) : K.ord = H.ord := by
  unfold Ho.ord ordTo
  rw [h.m]
  congr 1
  funext i
  rw [h.pg]
/-- A pool changed, but neither the pages that have frames nor their number. -/
theorem Ho.Ok.repool {H H' : Ho} (hok : H.Ok) (hP : H'.P.Ok) (al : H.P.Alike H'.P) (hs : ∀ a b, 0 ≤ H'.P.fr a b ↔ 0 ≤ H.P.fr a b) (hch : ∀ a, H'.P.chargeN a = H.P.chargeN a) (hG : H'.G = H.G) (ht : H'.t = H.t) (hd : H'.d = H.d) (hn : 0 ≤ H'.n ∧ H'.n < max (lenM H.P.M : Int) 1) : H'.Ok := by
  refine hok.of hP al (by rw [hG]) ht (by rw [hd]; exact hok.d) hn (by rw [hG]) (fun a g hg => ?_)
  rw [hG] at hg
  have hgp := hok.gmP hg
  refine ⟨hgp.cv, hgp.p0, by rw [hch]; exact hgp.lim, by rw [al.pg]; exact hgp.ls, by rw [al.pg]; exact hgp.lu, by rw [al.pg]; exact hgp.le, by rw [al.pg]; exact hgp.hd, fun k b hk hb h0 => ?_, fun k t hk ht => ?_⟩
  · rw [al.pg] at hk
    have := hs a k
    exact hgp.us k b hk hb (by omega)
  · rw [al.pg] at hk
    have := hs a k
    rcases hgp.sw k t hk ht with h1 | ⟨h1, h2⟩
    · exact .inl h1
    · exact .inr ⟨by omega, h2⟩
/-- What a scan leaves. -/
structure Scanned (H H' : Ho) : Prop where
  k : HoKept H H'
  g : H'.G = H.G
  d : H'.d = H.d
  s : ∀ a b, 0 ≤ H'.P.fr a b ↔ 0 ≤ H.P.fr a b
  c : ∀ a, H'.P.chargeN a = H.P.chargeN a
  pt : ∀ a b, H.P.at a b → H'.P.text a b = H.P.text a b
theorem Scanned.refl {H : Ho} (h : H.Ok) : Scanned H H := ⟨HoKept.refl h, rfl, rfl, fun _ _ => Iff.rfl, fun _ => rfl, fun _ _ _ => rfl⟩
theorem Scanned.trans {H K L : Ho} (h : Scanned H K) (h' : Scanned K L) : Scanned H L :=
  ⟨h.k.trans h'.k, h'.g.trans h.g, h'.d.trans h.d, fun a b => (h'.s a b).trans (h.s a b), fun a => (h'.c a).trans (h.c a), fun a b hab => (h'.pt a b ((h.k.al.at a b).2 hab)).trans (h.pt a b hab)⟩
theorem Scanned.sw {H H' : Ho} (h : Scanned H H') (a b : Nat) : H'.sw a b = H.sw a b := by
  unfold Ho.sw
  rw [h.g]
theorem Scanned.text {H H' : Ho} (h : Scanned H H') {a b : Nat} (hab : H.P.at a b) : H'.text a b = H.text a b := by
  rw [Ho.text_sw, Ho.text_sw, h.sw, h.pt a b hab]
theorem Scanned.res {H H' : Ho} {R : Nat} (h : Scanned H H') (hr : Res H R) : Res H' R :=
  ⟨fun b => by rw [h.sw]; exact hr.sw b, fun b hb => hr.fr b ((h.s 0 b).1 hb), fun g hg => hr.r g (by rw [← h.g]; exact hg)⟩
/-- One page shared. -/
theorem sh_scanned {H : Ho} (hok : H.Ok) {a b : Nat} (hat : H.P.at a b) {n : Int} (hn : 0 ≤ n ∧ n < max (lenM H.P.M : Int) 1) : Scanned H ⟨H.P.sh a b, H.G, H.t, H.d, n⟩ := by
  have S := (Pl.sh_law hok.p hat).1
  obtain ⟨_, F2, _, F4⟩ := Pl.sh_frames hok.p hat
  have hs : ∀ x y, 0 ≤ (H.P.sh a b).fr x y ↔ 0 ≤ H.P.fr x y := fun x y => by
    by_cases e : a = x ∧ b = y
    · rw [← e.1, ← e.2]
      exact F4
    · rw [F2 x y e]
  have hc := Pl.charge_sh hok.p hat
  exact ⟨⟨hok.repool S.ok S.al hs hc rfl rfl rfl hn, S.al, rfl, rfl, fun _ g hg => ⟨g, hg, rfl, rfl⟩⟩, rfl, rfl, hs, hc, S.text⟩
theorem scan1_scanned {H : Ho} (hok : H.Ok) : Scanned H (H.scan1 H.ord) := by
  unfold Ho.scan1
  cases ho : H.ord[H.n.toNat]? with
  | none => exact Scanned.refl hok
  | some x =>
    dsimp only
    have hat : H.P.at x.1 x.2 := ord_mem.1 (mem_at ho)
    have hl := lt_of_get ho
    rw [ord_len] at hl
    refine sh_scanned hok hat ?_
    rw [ord_len]
    have h1 : 0 ≤ (H.n + 1) % (lenM H.P.M : Int) := Int.emod_nonneg _ (by omega)
    have h2 : (H.n + 1) % (lenM H.P.M : Int) < lenM H.P.M := Int.emod_lt_of_pos _ (by omega)
    omega
theorem scanN_scanned {H : Ho} (hok : H.Ok) : ∀ k : Nat, Scanned H (Ho.scanN H.ord H k)
  | 0 => Scanned.refl hok
  | k + 1 => by
    have ih := scanN_scanned hok k
    have h1 := scan1_scanned ih.k.ok
    rw [ord_alike ih.k.al] at h1
    exact ih.trans h1
theorem scan_scanned {H : Ho} (hok : H.Ok) (n : Int) : Scanned H (H.scan n) := by
  unfold Ho.scan
  split
  · exact Scanned.refl hok
  · exact scanN_scanned hok _
end Go.Proofs.Ytbnngjhnkegliaa
namespace Go.Proofs.Ytbnngjhnkegliaa
open Go.RowKit

/-- The memory of a new guest. -/
def newG (c : Clm) (q : Nat) : Gm := ⟨c, List.replicate q ⟨#[]⟩, List.replicate q false, 0, List.replicate q false⟩
def Ho.addG (H : Ho) (c : Clm) (q : Nat) : Ho := ⟨H.P.add q, H.G ++ [newG c q], H.t, H.d, H.n⟩
/-- What adding a guest answers. -/
def Ho.addC (H : Ho) (c : Clm) (q : Int) : Int := if validB c = false ∨ c.p ≠ 0 ∨ q < 1 ∨ 32 < q then 3800 else if 8 ≤ H.G.length then 3802 else if (H.P.F.length : Int) < c.r + sumR H.G then 3801 else 0
def Ho.addTo (H : Ho) (c : Clm) (q : Int) : Ho := if H.addC c q = 0 then H.addG c q.toNat else H
theorem goodA_of {P : Pl} (h : P.Ok) {q : Nat} (hm : P.M.length < 8) (h1 : 1 ≤ q) (h2 : q ≤ 32) : P.goodA q = true := by
  unfold Pl.goodA
  rw [Pl.ok_iff.2 h, Bool.true_and]
  exact decide_eq_true ⟨by omega, by omega, by omega⟩
theorem padd_eq {P : Pl} (h : P.Ok) {q : Nat} (hm : P.M.length < 8) (h1 : 1 ≤ q) (h2 : q ≤ 32) : P.add q = ⟨P.F, P.R, P.M ++ [List.replicate q (-1)]⟩ := by
  unfold Pl.add
  rw [goodA_of h hm h1 h2, if_pos rfl, Int.toNat_natCast]
theorem padd_ok {P : Pl} (h : P.Ok) {q : Nat} (hm : P.M.length < 8) (h1 : 1 ≤ q) (h2 : q ≤ 32) : (P.add q).Ok := by
  rw [padd_eq h hm h1 h2]
  have hc : ∀ v : Nat, (⟨P.F, P.R, P.M ++ [List.replicate q (-1)]⟩ : Pl).cnt v = P.cnt v := fun v => by
    unfold Pl.cnt
    dsimp only
    rw [List.flatten_append, List.count_append]
    have : ([List.replicate q (-1 : Int)]).flatten.count (v : Int) = 0 := by
      rw [List.flatten_cons, List.flatten_nil, List.append_nil]
      exact cnt_neg q v
    omega
  refine ⟨h.n1, h.n2, h.r, by rw [List.length_append]; exact hm, fun l hl => ?_, fun l hl f hf => ?_, fun f hf => ?_⟩
  · rw [List.mem_append] at hl
    rcases hl with hl | hl
    · exact h.l l hl
    · simp at hl
      rw [hl, List.length_replicate]
      exact ⟨h1, h2⟩
  · rw [List.mem_append] at hl
    rcases hl with hl | hl
    · exact h.pg l hl f hf
    · simp at hl
      rw [hl] at hf
      have := List.eq_of_mem_replicate hf
      have := h.n1
      dsimp only
      omega
  · obtain ⟨s, a1, a2, a3, a4⟩ := h.fr f hf
    exact ⟨s, a1, by rw [hc]; exact a2, by rw [hc]; exact a3, a4⟩
theorem padd_M {P : Pl} (h : P.Ok) {q : Nat} (hm : P.M.length < 8) (h1 : 1 ≤ q) (h2 : q ≤ 32) (a : Nat) : (P.add q).M[a]? = if a < P.M.length then P.M[a]? else if a = P.M.length then some (List.replicate q (-1)) else none := by
  rw [padd_eq h hm h1 h2]
  dsimp only
  rw [List.getElem?_append]
  by_cases e : a < P.M.length
  · rw [if_pos e, if_pos e]
  · rw [if_neg e, if_neg e]
    by_cases e2 : a = P.M.length
    · subst e2
      rw [if_pos rfl, Nat.sub_self]
      rfl
    · rw [if_neg e2]
      exact List.getElem?_eq_none (by simp; omega)
theorem addG_ok {H : Ho} (hok : H.Ok) {c : Clm} {q : Nat} (hc : validB c = true) (hp : c.p = 0) (hm : H.G.length < 8) (h1 : 1 ≤ q) (h2 : q ≤ 32) (hs : c.r + sumR H.G ≤ H.P.F.length) : (H.addG c q).Ok := by
  have hm' : H.P.M.length < 8 := by rw [← hok.m]; exact hm
  have hM := padd_M hok.p hm' h1 h2
  have he := padd_eq hok.p hm' h1 h2
  have hv := (validB_iff c).1 hc
  refine ⟨padd_ok hok.p hm' h1 h2, ?_, hok.t, hok.d, fun i g l hg hl => ?_, ?_, ?_⟩
  · show (H.G ++ [newG c q]).length = (H.P.add q).M.length
    rw [he, List.length_append, List.length_append, hok.m]
    rfl
  · change (H.P.add q).M[i]? = some l at hl
    change (H.G ++ [newG c q])[i]? = some g at hg
    rw [hM] at hl
    rw [List.getElem?_append, hok.m] at hg
    by_cases e : i < H.P.M.length
    · rw [if_pos e] at hl hg
      exact hok.g i g l hg hl
    · rw [if_neg e] at hl hg
      by_cases e2 : i = H.P.M.length
      · subst e2
        rw [if_pos rfl] at hl
        rw [Nat.sub_self] at hg
        injection hl with hl
        injection hg with hg
        subst hl hg
        refine ⟨hc, hp, ?_, ?_, ?_, ?_, ?_, fun k f b hk hb h0 => ?_, fun k f t hk ht => ?_⟩
        · have : (List.replicate q (-1 : Int)).countP hasB = 0 := by
            rw [List.countP_eq_zero]
            intro f hf
            rw [List.eq_of_mem_replicate hf]
            decide
          rw [this]
          show ((0 : Nat) : Int) ≤ c.l
          omega
        · show (List.replicate q _).length = _
          rw [List.length_replicate, List.length_replicate]
        · show (List.replicate q _).length = _
          rw [List.length_replicate, List.length_replicate]
        · show (List.replicate q _).length = _
          rw [List.length_replicate, List.length_replicate]
        · rw [List.length_replicate]
          show (0 : Int) ≤ 0 ∧ (0 : Int) < q
          omega
        · change (List.replicate q false)[k]? = some b at hb
          exact List.eq_of_mem_replicate (mem_at hb)
        · change (List.replicate q (⟨#[]⟩ : ByteArray))[k]? = some t at ht
          rw [List.eq_of_mem_replicate (mem_at ht)]
          exact .inl rfl
      · rw [if_neg e2] at hl
        cases hl
  · show sumR (H.G ++ [newG c q]) ≤ ((H.P.add q).F.length : Int)
    rw [he]
    unfold sumR at hs ⊢
    rw [List.map_append, List.sum_append]
    show _ + (c.r + 0) ≤ _
    dsimp only
    omega
  · show 0 ≤ H.n ∧ H.n < max (lenM (H.P.add q).M : Int) 1
    have hn := hok.n
    have : lenM H.P.M ≤ lenM (H.P.add q).M := by
      rw [he]
      unfold lenM
      rw [List.map_append, List.sum_append]
      exact Nat.le_add_right _ _
    omega
end Go.Proofs.Ytbnngjhnkegliaa
namespace Go.Proofs.Ytbnngjhnkegliaa
open Go.RowKit

theorem and_i64_bd (x c : Int) (h0 : 0 ≤ x) (h1 : x < 9223372036854775808) (hc0 : 0 ≤ c) (hc : c < 9223372036854775808) : 0 ≤ bits .and .i64 x c ∧ bits .and .i64 x c ≤ c := by
  obtain ⟨c, rfl⟩ : ∃ m : Nat, c = m := ⟨c.toNat, by omega⟩
  obtain ⟨m, rfl⟩ : ∃ m : Nat, x = m := ⟨x.toNat, by omega⟩
  have hx : m &&& c ≤ c := Nat.and_le_right
  have e : bits .and .i64 (m : Int) (c : Int) = ((m &&& c : Nat) : Int) := by
    show IntKind.i64.wrap ((BitVec.ofInt 64 (m : Int) &&& BitVec.ofInt 64 (c : Int)).toNat : Int) = _
    have e1 : (BitVec.ofInt 64 (m : Int)).toNat = m := by rw [BitVec.ofInt_natCast, BitVec.toNat_ofNat]; exact Nat.mod_eq_of_lt (by omega)
    have e2 : (BitVec.ofInt 64 (c : Int)).toNat = c := by rw [BitVec.ofInt_natCast, BitVec.toNat_ofNat]; exact Nat.mod_eq_of_lt (by omega)
    rw [BitVec.toNat_and, e1, e2, IntKind.wrap_i64]
    omega
  rw [e]
  omega
def claimV (v : Int) : Clm :=
  { r := 1 + bits .and .i64 v 1, s := 1 + bits .and .i64 (v / 8) 63, p := 0, a := bits .and .i64 (v / 512) 511, l := 1 + bits .and .i64 v 1 + bits .and .i64 (v / 262144) 7 }
def claimI (n : Int) : Clm := claimV (mixI n 41)
theorem claimV_ok (v : Int) (h0 : 0 ≤ v) (h1 : v < 9223372036854775808) : validB (claimV v) = true ∧ (claimV v).p = 0 ∧ 1 ≤ (claimV v).r ∧ (claimV v).r ≤ 2 ∧ (claimV v).l ≤ 9 := by
  have b1 := and_i64_bd v 1 h0 h1 (by omega) (by omega)
  have b2 := and_i64_bd (v / 8) 63 (by omega) (by omega) (by omega) (by omega)
  have b3 := and_i64_bd (v / 512) 511 (by omega) (by omega) (by omega) (by omega)
  have b4 := and_i64_bd (v / 262144) 7 (by omega) (by omega) (by omega) (by omega)
  rw [validB_iff]
  unfold claimV
  dsimp only
  omega
theorem claimI_ok (n : Int) : validB (claimI n) = true ∧ (claimI n).p = 0 ∧ 1 ≤ (claimI n).r ∧ (claimI n).r ≤ 2 ∧ (claimI n).l ≤ 9 := claimV_ok _ (mixI_bd n 41).1 (mixI_bd n 41).2
set_option maxHeartbeats 1000000 in
theorem claim_any (n : Int) (w : World) : Calls Try.prog 10 #[.int .i64 n] w (Ret w (.agg #[.int .i64 (claimI n).r, .int .i64 (claimI n).l, .int .i64 (claimI n).s, .int .i64 (claimI n).p, .int .i64 (claimI n).a])) := by
  obtain ⟨v, hv⟩ : ∃ v, mixI n 41 = v := ⟨_, rfl⟩
  have hb := mixI_bd n 41
  have hm := mix_any n 41
  unfold claimI
  rw [hv] at hb hm ⊢
  have HM := Lib.hid hm; clear hm hv
  have b1 := and_i64_bd v 1 hb.1 hb.2 (by omega) (by omega)
  have b2 := and_i64_bd (v / 8) 63 (by omega) (by omega) (by omega) (by omega)
  have b3 := and_i64_bd (v / 512) 511 (by omega) (by omega) (by omega) (by omega)
  have b4 := and_i64_bd (v / 262144) 7 (by omega) (by omega) (by omega) (by omega)
  go_enter Try.func10, Try.ntmps10
  go_wp2_with fail
  refine (HM.out _).mono ?_
  rintro e w1 ⟨rfl, hb1⟩
  obtain ⟨hc1, hf1⟩ := bcell hb1
  have hz1 := bsize hb1
  try simp only [sizes1] at hz1
  try simp only [sizes] at hc1 hf1
  have hB1 : w.heap.size < w1.heap.size := by omega
  go_wp2
  exact bodyPost_ret (v := .agg #[.int .i64 (claimV v).r, .int .i64 (claimV v).l, .int .i64 (claimV v).s, .int .i64 (claimV v).p, .int .i64 (claimV v).a]) (by simp [results, Try.results10, go_sem, hB1, hc1, claimV]) rfl (Ret.mk (by repeat (first | with_reducible exact Below.refl _ _ | with_reducible refine Below.drew ?_ | (with_reducible refine Below.alloc ?_ (by first | exact Nat.le_refl _ | omega | (simp only [sizes]; omega)) _) | (with_reducible refine Below.setCell ?_ (by first | exact Nat.le_refl _ | omega | (simp only [sizes]; omega)) _) | (refine Below.trans ?_ (Below.mono (by with_reducible assumption) (by first | exact Nat.le_refl _ | omega | (simp only [sizes]; omega)))))))
set_option maxHeartbeats 1000000 in
theorem round_nat (n k : Nat) (w : World) (hk : 1 ≤ k) (hn : n ≤ 9223372036854775807) (hk' : k ≤ 9223372036854775807) : Calls Try.prog 13 #[.int .i64 n, .int .i64 k] w (Ret w (.int .i64 ((n % k : Nat) : Int))) := by
  have hk0 : ((k : Int) == 0) = false := by rw [beq_eq_false_iff_ne]; omega
  have hk1 : (k == 0) = false := by rw [beq_eq_false_iff_ne]; omega
  have hm : (n : Int).tmod k = ((n % k : Nat) : Int) := by
    rw [Int.tmod_eq_emod_of_nonneg (by omega)]
    exact (Int.natCast_emod _ _).symm
  obtain ⟨r, hr⟩ : ∃ r, n % k = r := ⟨_, rfl⟩
  have hr2 : r < k := by rw [← hr]; exact Nat.mod_lt _ (by omega)
  rw [hr] at hm ⊢
  clear hr
  go_enter Try.func13, Try.ntmps13
  go_wp2
  go_ret
  exact Ret.mk (by repeat (first | with_reducible exact Below.refl _ _ | with_reducible refine Below.drew ?_ | (with_reducible refine Below.alloc ?_ (by first | exact Nat.le_refl _ | omega | (simp only [sizes]; omega)) _) | (with_reducible refine Below.setCell ?_ (by first | exact Nat.le_refl _ | omega | (simp only [sizes]; omega)) _) | (refine Below.trans ?_ (Below.mono (by with_reducible assumption) (by first | exact Nat.le_refl _ | omega | (simp only [sizes]; omega))))))
/-- The number of a list at an index that wraps around. -/
def atI (ls : List Int) (i : Nat) : Int := if ls.length = 0 then 0 else (ls[i % ls.length]?).getD 0
theorem atI_mem {ls : List Int} {i : Nat} (h : ls.length ≠ 0) : ls[i % ls.length]? = some (atI ls i) := by
  obtain ⟨x, hx⟩ := get_lt (xs := ls) (k := i % ls.length) (Nat.mod_lt _ (by omega))
  unfold atI
  rw [if_neg h, hx]
  rfl
set_option maxHeartbeats 1000000 in
theorem at_any (va : Value) (ls : List Int) (i : Nat) (w : World) (h : NumRow w va ls) (hi : i ≤ 1000) : Calls Try.prog 11 #[va, .int .i64 i] w (Ret w (.int .i64 (atI ls i))) := by
  obtain ⟨ao, ca, rfl, a1, a2, _⟩ := h.out
  unfold maxLen at a2
  by_cases h0 : ls.length = 0
  · have e : atI ls i = 0 := if_pos h0
    rw [e]
    rw [h0] at a1 ⊢
    go_enter Try.func11, Try.ntmps11
    go_wp2
    go_ret
    exact Ret.mk (by repeat (first | with_reducible exact Below.refl _ _ | with_reducible refine Below.drew ?_ | (with_reducible refine Below.alloc ?_ (by first | exact Nat.le_refl _ | omega | (simp only [sizes]; omega)) _) | (with_reducible refine Below.setCell ?_ (by first | exact Nat.le_refl _ | omega | (simp only [sizes]; omega)) _) | (refine Below.trans ?_ (Below.mono (by with_reducible assumption) (by first | exact Nat.le_refl _ | omega | (simp only [sizes]; omega))))))
  · have hx := atI_mem (i := i) h0
    obtain ⟨N, hN⟩ : ∃ N, ls.length = N := ⟨_, rfl⟩
    rw [hN] at h h0 a1 hx ⊢
    clear hN
    obtain ⟨x, hxx⟩ : ∃ x, atI ls i = x := ⟨_, rfl⟩
    rw [hxx] at hx ⊢
    have RN := fun w => round_nat i N w (by omega) (by omega) (by omega)
    obtain ⟨j, hj⟩ : ∃ j, i % N = j := ⟨_, rfl⟩
    have hjN : j < N := by rw [← hj]; exact Nat.mod_lt _ (by omega)
    rw [hj] at RN hx
    have HRN := Lib.hid RN; clear RN hj hxx
    obtain ⟨b, off, rfl, hb, hc⟩ := EncRow.elem (enc := Value.int .i64) h hx
    clear hx h
    have n0 : ((N : Int) == 0) = false := by rw [beq_eq_false_iff_ne]; omega
    have n1 : (N == 0) = false := by rw [beq_eq_false_iff_ne]; omega
    have j0 : (0 : Int) ≤ (j : Int) := by omega
    have jN : (j : Int) < (N : Int) := by omega
    go_enter Try.func11, Try.ntmps11
    go_wp2_with fail
    refine (HRN.out _).mono ?_
    rintro e w1 ⟨rfl, hb1⟩
    have hc1 := (hb1.cell (p := ⟨b, off + j, none⟩) hb).trans hc
    go_wp2_with fail
    go_ret
    exact Ret.mk hb1
end Go.Proofs.Ytbnngjhnkegliaa
namespace Go.Proofs.Ytbnngjhnkegliaa
open Go.RowKit

theorem newHo_ok {n : Nat} {t d : Int} (h1 : 1 ≤ n) (h2 : n ≤ 96) (ht : 0 ≤ t ∧ t ≤ 99) (hd : 0 ≤ d ∧ d < 18446744073709551616) : (newHo n t d).Ok := by
  have hp := (fill_eq h1 h2).2.2.2.1
  have he := fresh_eq h1 h2
  refine ⟨hp, ?_, ht, hd, fun i g l hg _ => ?_, ?_, ?_⟩
  · show ([] : List Gm).length = (newPl n).M.length
    rw [he]
    rfl
  · change ([] : List Gm)[i]? = some g at hg
    simp at hg
  · show sumR [] ≤ ((newPl n).F.length : Int)
    unfold sumR
    simp
  · show (0 : Int) ≤ 0 ∧ (0 : Int) < max (lenM (newPl n).M : Int) 1
    omega
/-- The host with some guests of six pages. -/
def madeH (n : Nat) (t : Int) (ls : List Int) : Nat → Ho
  | 0 => newHo n t 5
  | k + 1 => (madeH n t ls k).addG (claimI (atI ls k)) 6
/-- A fresh host: so many guests of six pages, nothing written. -/
structure Fresh (n : Nat) (ls : List Int) (k : Nat) (H : Ho) : Prop where
  ok : H.Ok
  f : H.P.F.length = n
  g : H.G.length = k
  pg : ∀ a, a < k → H.P.pages a = List.replicate 6 (-1)
  gm : ∀ a, a < k → H.G[a]? = some (newG (claimI (atI ls a)) 6)
  r : 0 ≤ sumR H.G ∧ sumR H.G ≤ 2 * k
theorem Fresh.good {n : Nat} {ls : List Int} {k : Nat} {H : Ho} (h : Fresh n ls k H) (hn : 6 ≤ n) (hk : k < 3) (c : Int) : H.addC (claimI c) 6 = 0 := by
  obtain ⟨c1, c2, c3, c4, c5⟩ := claimI_ok c
  unfold Ho.addC
  rw [if_neg, if_neg (by rw [h.g]; omega), if_neg (by rw [h.f]; have := h.r; omega)]
  rintro (h | h | h | h)
  · rw [c1] at h; cases h
  · exact h c2
  · omega
  · omega
theorem Fresh.next {n : Nat} {ls : List Int} {k : Nat} {H : Ho} (h : Fresh n ls k H) (hn : 6 ≤ n) (hk : k < 3) {c : Clm} (hc : claimI (atI ls k) = c) : Fresh n ls (k + 1) (H.addG c 6) := by
  obtain ⟨c1, c2, c3, c4, c5⟩ := claimI_ok (atI ls k)
  rw [hc] at c1 c2 c3 c4 c5
  have hg := h.g
  have hm : H.P.M.length = k := by rw [← h.ok.m]; exact hg
  have hr := h.r
  have he := padd_eq h.ok.p (q := 6) (by omega) (by omega) (by omega)
  have hM := padd_M h.ok.p (q := 6) (by omega) (by omega) (by omega)
  refine ⟨addG_ok h.ok c1 c2 (by omega) (by omega) (by omega) (by rw [h.f]; omega), ?_, ?_, fun a ha => ?_, fun a ha => ?_, ?_⟩
  · show (H.P.add (6 : Nat)).F.length = n
    rw [he]
    exact h.f
  · show (H.G ++ [_]).length = k + 1
    rw [List.length_append, hg]
    rfl
  · show (H.P.add (6 : Nat)).pages a = _
    unfold Pl.pages
    rw [hM, hm]
    by_cases e : a < k
    · rw [if_pos e]
      exact h.pg a e
    · rw [if_neg e, if_pos (by omega)]
      rfl
  · show (H.G ++ [_])[a]? = _
    rw [List.getElem?_append, hg]
    by_cases e : a < k
    · rw [if_pos e]
      exact h.gm a e
    · rw [if_neg e]
      have : a = k := by omega
      subst this
      rw [Nat.sub_self, hc]
      rfl
  · show 0 ≤ sumR (H.G ++ [_]) ∧ sumR (H.G ++ [_]) ≤ _
    unfold sumR at hr ⊢
    rw [List.map_append, List.sum_append]
    show 0 ≤ _ + (c.r + 0) ∧ _ + (c.r + 0) ≤ _
    omega
theorem madeH_fresh {n : Nat} {t : Int} {ls : List Int} (h1 : 6 ≤ n) (h2 : n ≤ 96) (ht : 0 ≤ t ∧ t ≤ 99) : ∀ k : Nat, k ≤ 3 → Fresh n ls k (madeH n t ls k)
  | 0, _ => by
    have he := fresh_eq (n := n) (by omega) h2
    refine ⟨newHo_ok (by omega) h2 ht (by omega), ?_, rfl, fun a ha => by omega, fun a ha => by omega, ?_⟩
    · show (newPl n).F.length = n
      rw [he]
      exact List.length_replicate ..
    · show 0 ≤ sumR [] ∧ sumR [] ≤ _
      unfold sumR
      simp
  | k + 1, hk => (madeH_fresh h1 h2 ht k (by omega)).next h1 (by omega) rfl
/-- Three guests of six pages, so many frames, the claims as they were made. -/
structure HShape (n : Nat) (ls : List Int) (H : Ho) : Prop where
  ok : H.Ok
  f : H.P.F.length = n
  g : H.G.length = 3
  pg : ∀ a, a < 3 → (H.P.pages a).length = 6
  cl : ∀ (a : Nat) (x : Gm), H.G[a]? = some x → x.c.r = (claimI (atI ls a)).r ∧ x.c.l = (claimI (atI ls a)).l
theorem HShape.kept {n : Nat} {ls : List Int} {H H' : Ho} (h : HShape n ls H) (k : HoKept H H') : HShape n ls H' :=
  ⟨k.ok, k.al.f.trans h.f, k.gl.trans h.g, fun a ha => (k.al.pg a).trans (h.pg a ha), fun a x hx => by
    obtain ⟨y, hy⟩ := get_lt (xs := H.G) (k := a) (by rw [← k.gl]; exact lt_of_get hx)
    obtain ⟨x', hx', e1, e2⟩ := k.cl a y hy
    rw [hx] at hx'
    injection hx' with hx'
    subst hx'
    obtain ⟨e3, e4⟩ := h.cl a y hy
    exact ⟨e1.trans e3, e2.trans e4⟩⟩
theorem HShape.at_ {n : Nat} {ls : List Int} {H : Ho} (h : HShape n ls H) (a b : Nat) : H.P.at a b ↔ a < 3 ∧ b < 6 := by
  rw [Pl.at_lt, ← h.ok.m, h.g]
  constructor
  · rintro ⟨h1, h2⟩
    rw [h.pg a h1] at h2
    exact ⟨h1, h2⟩
  · rintro ⟨h1, h2⟩
    exact ⟨h1, by rw [h.pg a h1]; exact h2⟩
theorem Fresh.shape {n : Nat} {ls : List Int} {H : Ho} (h : Fresh n ls 3 H) : HShape n ls H :=
  ⟨h.ok, h.f, h.g, fun a ha => by rw [h.pg a ha, List.length_replicate], fun a x hx => by
    have ha : a < 3 := by rw [← h.g]; exact lt_of_get hx
    rw [h.gm a ha] at hx
    injection hx with hx
    subst hx
    exact ⟨rfl, rfl⟩⟩
theorem Fresh.fr {n : Nat} {ls : List Int} {H : Ho} (h : Fresh n ls 3 H) (a b : Nat) : H.P.fr a b = -1 := by
  by_cases ha : a < 3
  · unfold Pl.fr
    rw [h.pg a ha, List.getElem?_replicate]
    split <;> rfl
  · have : H.P.pages a = [] := by
      unfold Pl.pages
      rw [List.getElem?_eq_none (by rw [← h.ok.m, h.g]; omega)]
      rfl
    unfold Pl.fr
    rw [this]
    rfl
theorem Fresh.sw {n : Nat} {ls : List Int} {H : Ho} (h : Fresh n ls 3 H) (a b : Nat) : H.sw a b = ⟨#[]⟩ := by
  unfold Ho.sw
  by_cases ha : a < 3
  · rw [h.gm a ha]
    show ((List.replicate 6 (⟨#[]⟩ : ByteArray))[b]?).getD ⟨#[]⟩ = _
    rw [List.getElem?_replicate]
    split <;> rfl
  · rw [List.getElem?_eq_none (by rw [h.g]; omega)]
theorem Fresh.text {n : Nat} {ls : List Int} {H : Ho} (h : Fresh n ls 3 H) (a b : Nat) : H.text a b = zeros128 := by
  rw [Ho.text_sw, h.sw, if_pos (show (⟨#[]⟩ : ByteArray).size = 0 from rfl)]
  unfold Pl.text
  rw [h.fr, if_pos (by decide)]
theorem Fresh.res {n : Nat} {ls : List Int} {H : Ho} (h : Fresh n ls 3 H) : Res H (claimI (atI ls 0)).r.toNat := by
  refine ⟨fun b => by rw [h.sw]; rfl, fun b hb => by rw [h.fr] at hb; omega, fun g hg => ?_⟩
  rw [h.gm 0 (by omega)] at hg
  injection hg with hg
  subst hg
  have := (claimI_ok (atI ls 0)).2.2.1
  show (claimI (atI ls 0)).r = _
  omega
/-- A host stored into a box. -/
theorem HostAt.fill {base B n r m q : Nat} {w : World} {H : Ho} {of or' om og : Option Addr} {kf kr km kg : Nat} {us : List Value} {gs : List Gv} {t d s : Int} {x0 x1 x2 x3 x4 x5 x6 : Value} (hG : H.P.F.length = n ∧ H.P.R.length = r ∧ H.P.M.length = m ∧ H.G.length = q ∧ H.t = t ∧ H.d = d ∧ H.n = s) (D : HasBlock w B #[x0, x1, x2, x3, x4, x5, x6] 31) (O : OwnH base w (.slice of n kf) (.slice or' r kr) (.slice om m km) us (.slice og q kg) gs H) :
    HostAt base B (((((((w.setCell ⟨B, 0, none⟩ (.slice of n kf)).setCell ⟨B, 1, none⟩ (.slice or' r kr)).setCell ⟨B, 2, none⟩ (.slice om m km)).setCell ⟨B, 3, none⟩ (.slice og q kg)).setCell ⟨B, 4, none⟩ (.int .i64 t)).setCell ⟨B, 5, none⟩ (.int .u64 d)).setCell ⟨B, 6, none⟩ (.int .i64 s)) H := by
  obtain ⟨h1, h2, h3, h4, h5, h6, h7⟩ := hG
  refine HostAt.mk (us := us) (gs := gs) h1 h2 h3 h4 h5 h6 h7 (D.fill7 _ _ _ _ _ _ _) ?_
  have D1 := D.put7_0 (.slice of n kf)
  have D2 := D1.put7_1 (.slice or' r kr)
  have D3 := D2.put7_2 (.slice om m km)
  have D4 := D3.put7_3 (.slice og q kg)
  have D5 := D4.set_at 4 (.int .i64 t)
  have D6 := D5.set_at 5 (.int .u64 d)
  exact ((((((O.setbox D hostT _).setbox D1 hostT _).setbox D2 hostT _).setbox D3 hostT _).setbox D4 hostT _).setbox D5 hostT _).setbox D6 hostT _
/-- A host stored into a box that has just been made. -/
theorem HasBlock.fill7z {w : World} {b : Nat} {T : TypeId} {x0 x1 x2 x3 x4 x5 x6 y0 y1 y2 y3 y4 y5 y6 : Value} (h : HasBlock w b #[x0, x1, x2, x3, x4, x5, x6] T) : HasBlock (((((((w.setCell ⟨b, 0, none⟩ y0).setCell ⟨b, 1, none⟩ y1).setCell ⟨b, 2, none⟩ y2).setCell ⟨b, 3, none⟩ y3).setCell ⟨b, 4, none⟩ y4).setCell ⟨b, 5, none⟩ y5).setCell ⟨b, 6, none⟩ y6) b #[y0, y1, y2, y3, y4, y5, y6] T := h.fill7 _ _ _ _ _ _ _
theorem HasBlock.fill7_ne {w : World} {b B : Nat} {T : TypeId} {cs : Array Value} (h : HasBlock w b cs T) (hne : b ≠ B) (y0 y1 y2 y3 y4 y5 y6 : Value) : HasBlock (((((((w.setCell ⟨B, 0, none⟩ y0).setCell ⟨B, 1, none⟩ y1).setCell ⟨B, 2, none⟩ y2).setCell ⟨B, 3, none⟩ y3).setCell ⟨B, 4, none⟩ y4).setCell ⟨B, 5, none⟩ y5).setCell ⟨B, 6, none⟩ y6) b cs T :=
  ((((((h.set_ne hne y0).set_ne hne y1).set_ne hne y2).set_ne hne y3).set_ne hne y4).set_ne hne y5).set_ne hne y6
theorem OwnH.fillz {base B : Nat} {w : World} {vf vr vm : Value} {us : List Value} {vg : Value} {gs : List Gv} {H : Ho} {x0 x1 x2 x3 x4 x5 x6 : Value} (O : OwnH base w vf vr vm us vg gs H) (D : HasBlock w B #[x0, x1, x2, x3, x4, x5, x6] 31) (y0 y1 y2 y3 y4 y5 y6 : Value) : OwnH base (((((((w.setCell ⟨B, 0, none⟩ y0).setCell ⟨B, 1, none⟩ y1).setCell ⟨B, 2, none⟩ y2).setCell ⟨B, 3, none⟩ y3).setCell ⟨B, 4, none⟩ y4).setCell ⟨B, 5, none⟩ y5).setCell ⟨B, 6, none⟩ y6) vf vr vm us vg gs H := by
  have D1 := D.put7_0 y0
  have D2 := D1.put7_1 y1
  have D3 := D2.put7_2 y2
  have D4 := D3.put7_3 y3
  have D5 := D4.set_at 4 y4
  have D6 := D5.set_at 5 y5
  exact ((((((O.setbox D hostT _).setbox D1 hostT _).setbox D2 hostT _).setbox D3 hostT _).setbox D4 hostT _).setbox D5 hostT _).setbox D6 hostT _
/-- A box that has just been made for a host, and what is kept beside it. -/
def NewHost (base : Nat) (K : Nat → World → Prop) (H : Ho) (v : Value) (wx : World) : Prop := ∃ B : Nat, v = .pointer (some ⟨B, 0, none⟩) ∧ HostAt base B wx H ∧ K B wx
/-- A host's box while another one is stored over. -/
theorem HostAt.off {base B B2 j : Nat} {w : World} {H : Ho} {cs : Array Value} (h : HostAt base B w H) (D : HasBlock w B2 cs 31) (hne : B ≠ B2) (x : Value) : HostAt base B (w.setCell ⟨B2, j, none⟩ x) H := by
  obtain ⟨of, or', om, og, kf, kr, km, kg, us, gs, D0, O⟩ := h
  exact ⟨of, or', om, og, kf, kr, km, kg, us, gs, D0.set_ne hne x, O.setbox D hostT x⟩
theorem HostAt.off7 {base B B2 : Nat} {w : World} {H : Ho} {x0 x1 x2 x3 x4 x5 x6 : Value} (h : HostAt base B w H) (D : HasBlock w B2 #[x0, x1, x2, x3, x4, x5, x6] 31) (hne : B ≠ B2) (y0 y1 y2 y3 y4 y5 y6 : Value) :
    HostAt base B (((((((w.setCell ⟨B2, 0, none⟩ y0).setCell ⟨B2, 1, none⟩ y1).setCell ⟨B2, 2, none⟩ y2).setCell ⟨B2, 3, none⟩ y3).setCell ⟨B2, 4, none⟩ y4).setCell ⟨B2, 5, none⟩ y5).setCell ⟨B2, 6, none⟩ y6) H := by
  have D1 := D.put7_0 y0
  have D2 := D1.put7_1 y1
  have D3 := D2.put7_2 y2
  have D4 := D3.put7_3 y3
  have D5 := D4.set_at 4 y4
  have D6 := D5.set_at 5 y5
  exact ((((((h.off D hne y0).off D1 hne y1).off D2 hne y2).off D3 hne y3).off D4 hne y4).off D5 hne y5).off D6 hne y6
theorem HostAt.lower {base base' B : Nat} {w : World} {H : Ho} (h : HostAt base B w H) (hb : base' ≤ base) : HostAt base' B w H := by
  obtain ⟨of, or', om, og, kf, kr, km, kg, us, gs, D0, O⟩ := h
  exact ⟨of, or', om, og, kf, kr, km, kg, us, gs, D0, O.lower hb⟩
/-- A host just put into a new box. -/
theorem HostAt.new {n r m q : Nat} {w : World} {H : Ho} {of or' om og : Option Addr} {kf kr km kg : Nat} {us : List Value} {gs : List Gv} {t d s : Int} {base base' : Nat} (hG : H.P.F.length = n ∧ H.P.R.length = r ∧ H.P.M.length = m ∧ H.G.length = q ∧ H.t = t ∧ H.d = d ∧ H.n = s) (O : OwnH base w (.slice of n kf) (.slice or' r kr) (.slice om m km) us (.slice og q kg) gs H) (hb : base' ≤ base) :
    HostAt base' w.heap.size (w.alloc (.cells #[.slice of n kf, .slice or' r kr, .slice om m km, .slice og q kg, .int .i64 t, .int .u64 d, .int .i64 s] 31)) H := by
  obtain ⟨h1, h2, h3, h4, h5, h6, h7⟩ := hG
  exact HostAt.mk h1 h2 h3 h4 h5 h6 h7 (HasBlock.made w _ _) ((O.lower hb).alloc _)
end Go.Proofs.Ytbnngjhnkegliaa
namespace Go.Proofs.Ytbnngjhnkegliaa
open Go.RowKit

section
variable {P : Program} {md : Region.Mode}

/-- What is owed behind all operations but the last: the last alone. -/
def headPost (P : Program) (ops : Array Oper) (Q : Exit → Act → World → Prop) (o : Oper) : Exit → Act → World → Prop
  | .normal, a, w => wpList P ops Q [o] a w
  | e, a, w => Q e a w
/-- The last waits for all others, and each waits for elder ones alone; no guards. -/
def lastB (md : Region.Mode) (l : List Oper) (o : Oper) : Bool :=
  l.all (fun x => x.guard.isNone) && o.guard.isNone && (List.range l.length).all (fun i => match l[i]? with | none => true | some x => x.after.toList.all (fun e => decide (e.on < i))) && o.after.toList.all (fun e => decide (e.on < l.length)) && (List.range l.length).all (fun j => o.after.toList.any (fun e => Region.binds md e && decide (e.on = j)))
structure LastOk (md : Region.Mode) (l : List Oper) (o : Oper) : Prop where
  gl : ∀ x ∈ l, x.guard = none
  go : o.guard = none
  back : ∀ (i : Nat) (x : Oper), l[i]? = some x → ∀ e ∈ x.after, e.on < i
  ob : ∀ e ∈ o.after, e.on < l.length
  w : ∀ j : Nat, j < l.length → ∃ e ∈ o.after, Region.binds md e = true ∧ e.on = j
theorem lastB_spec {l : List Oper} {o : Oper} (h : lastB md l o = true) : LastOk md l o := by
  unfold lastB at h
  simp only [Bool.and_eq_true, List.all_eq_true, List.any_eq_true, decide_eq_true_eq, Array.mem_toList_iff, Option.isNone_iff_eq_none, List.mem_range] at h
  obtain ⟨⟨⟨⟨h1, h2⟩, h3⟩, h4⟩, h5⟩ := h
  refine ⟨h1, h2, fun i x hx e he => ?_, h4, fun j hj => ?_⟩
  · have := h3 i (lt_of_get hx)
    rw [hx] at this
    simp only [List.all_eq_true, decide_eq_true_eq, Array.mem_toList_iff] at this
    exact this e he
  · obtain ⟨e, he, hb, ho⟩ := h5 j hj
    exact ⟨e, he, hb, ho⟩
/-- What has come up, told of the head alone and of the whole. -/
structure Agree (n : Nat) (L' L : Array Bool) : Prop where
  s' : L'.size = n
  s : L.size = n + 1
  eq : ∀ j : Nat, j < n → L'[j]? = L[j]?
  last : L[n]? = some false
theorem Agree.getD {n j : Nat} {L' L : Array Bool} (h : Agree n L' L) (hj : j < n) (d : Bool) : L'.getD j d = L.getD j d := by
  rw [Array.getD_eq_getD_getElem?, Array.getD_eq_getD_getElem?, h.eq j hj]
theorem Agree.set {n i : Nat} {L' L : Array Bool} (h : Agree n L' L) (hi : i < n) : Agree n (L'.setIfInBounds i true) (L.setIfInBounds i true) := by
  refine ⟨by simp [h.s'], by simp [h.s], fun j hj => ?_, ?_⟩
  · rw [Array.getElem?_setIfInBounds, Array.getElem?_setIfInBounds, h.s', h.s]
    by_cases e : i = j
    · subst e
      rw [if_pos rfl, if_pos rfl, if_pos hi, if_pos (by omega)]
    · rw [if_neg e, if_neg e]
      exact h.eq j hj
  · rw [Array.getElem?_setIfInBounds, if_neg (by omega)]
    exact h.last
theorem Agree.start (n : Nat) : Agree n (Array.replicate n false) (Array.replicate (n + 1) false) :=
  ⟨by simp, by simp, fun j hj => by rw [Array.getElem?_replicate, Array.getElem?_replicate, if_pos hj, if_pos (by omega)], by rw [Array.getElem?_replicate, if_pos (by omega)]⟩
theorem getD_tt {L : Array Bool} {j : Nat} (hj : j < L.size) (h : L.getD j true = true) : L.getD j false = true := by
  simp [hj] at h ⊢
  exact h
section
variable {l : List Oper} {o : Oper} {Q : Exit → Act → World → Prop}
theorem whole_get {j : Nat} (hj : j < l.length) : (l ++ [o]).toArray[j]? = l.toArray[j]? := by
  simp [List.getElem?_append_left hj]
theorem whole_last : (l ++ [o]).toArray[l.length]? = some o := by simp
theorem whole_lt {j : Nat} {x : Oper} (h : (l ++ [o]).toArray[j]? = some x) : j < l.length ∨ j = l.length := by
  have := (Array.getElem?_eq_some_iff.1 h).1
  simp at this
  omega
theorem ready_head (H : LastOk md l o) {L' L : Array Bool} (h : Agree l.length L' L) {j : Nat} (hj : j < l.length) : j ∈ Region.ready md (l ++ [o]).toArray L ↔ j ∈ Region.ready md l.toArray L' := by
  rw [mem_ready, mem_ready, h.getD hj, whole_get hj]
  constructor
  · rintro ⟨h0, x, hx, ha⟩
    refine ⟨h0, x, hx, fun e he hb => ?_⟩
    have := H.back j x (by simpa using hx) e he
    rw [h.getD (by omega)]
    exact ha e he hb
  · rintro ⟨h0, x, hx, ha⟩
    refine ⟨h0, x, hx, fun e he hb => ?_⟩
    have := H.back j x (by simpa using hx) e he
    rw [← h.getD (by omega)]
    exact ha e he hb
theorem ready_lt {L' : Array Bool} {j : Nat} (h : j ∈ Region.ready md l.toArray L') : j < l.length := by
  obtain ⟨_, x, hx, _⟩ := mem_ready.1 h
  have := (Array.getElem?_eq_some_iff.1 hx).1
  simpa using this
/-- Where nothing of the head may come up all of it has. -/
theorem all_listed (H : LastOk md l o) {L' L : Array Bool} (h : Agree l.length L' L) (hr : Region.ready md l.toArray L' = []) : ∀ j : Nat, j < l.length → L.getD j false = true := by
  intro j
  induction j using Nat.strongRecOn with
  | _ j ih =>
    intro hj
    cases ht : L.getD j true with
    | true => exact getD_tt (by rw [h.s]; omega) ht
    | false =>
      exfalso
      obtain ⟨x, hx⟩ := get_lt hj
      have : j ∈ Region.ready md l.toArray L' := by
        rw [mem_ready, h.getD hj]
        refine ⟨ht, x, by simpa using hx, fun e he _ => ?_⟩
        have := H.back j x hx e he
        rw [h.getD (by omega)]
        exact ih e.on this (by omega)
      rw [hr] at this
      cases this
theorem last_step (H : LastOk md l o) {L' L : Array Bool} (h : Agree l.length L' L) (hr : Region.ready md l.toArray L' = []) {a : Act} {w : World} (hl : wpList P (l ++ [o]).toArray Q [o] a w) (f : Nat) : wpAny P md (l ++ [o]).toArray Q (f + 1) L a w := by
  have hall := all_listed H h hr
  have hn : l.length ∈ Region.ready md (l ++ [o]).toArray L := by
    rw [mem_ready]
    exact ⟨by rw [Array.getD_eq_getD_getElem?, h.last]; rfl, o, whole_last, fun e he _ => hall _ (H.ob e he)⟩
  have hdone : Region.ready md (l ++ [o]).toArray (L.setIfInBounds l.length true) = [] := by
    rw [List.eq_nil_iff_forall_not_mem]
    intro j hj
    obtain ⟨h0, x, hx, _⟩ := mem_ready.1 hj
    have h1 : (L.setIfInBounds l.length true).getD j false = true := by
      rcases whole_lt hx with hlt | rfl
      · exact getD_set_true (hall j hlt)
      · simp [h.s]
    rw [getD_both h0] at h1
    cases h1
  refine ⟨fun h0 => (by rw [h0] at hn; cases hn), fun i hi => ?_⟩
  obtain ⟨h0, x, hx, _⟩ := mem_ready.1 hi
  rcases whole_lt hx with hlt | rfl
  · have := hall i hlt
    rw [getD_both h0] at this
    cases this
  · unfold wpOp
    rw [whole_last]
    have hw : Region.wanted o (yielded (l ++ [o]).toArray a.tmps) = true := by simp [Region.wanted, H.go]
    unfold wpList at hl
    rw [if_pos hw] at hl
    show if Region.wanted o (yielded (l ++ [o]).toArray a.tmps) = true then _ else _
    rw [if_pos hw]
    exact hl.imp (Oper.wp_mono (fun a' w' hq => wpAny_done hdone hq f)) id
theorem wp_post {x : Oper} {a : Act} {w : World} {K K' : Act → World → Prop} {ops : Array Oper} (hK : ∀ a w, K a w → K' a w) (h : x.wp P a w K (headPost P ops Q o)) : x.wp P a w K' Q := by
  have h2 := Oper.wp_mono hK h
  unfold Oper.wp at *
  generalize (execOp a.eval x).run P w = r at *
  cases r with
  | ok n w' =>
    cases n <;> first
      | exact h2
      | (refine Calls.mono h2 fun e w'' he => ?_
         cases e <;> exact he)
  | halt y w' =>
    cases y <;> first | exact h2 | exact (h2 : False).elim
theorem wpAny_last (H : LastOk md l o) : ∀ (f : Nat) (L' L : Array Bool) (a : Act) (w : World), Agree l.length L' L → wpAny P md l.toArray (headPost P (l ++ [o]).toArray Q o) f L' a w → wpAny P md (l ++ [o]).toArray Q (f + 1) L a w
  | 0, L', L, a, w, hA, h => last_step H hA h.1 h.2 0
  | f + 1, L', L, a, w, hA, h => by
    by_cases hr : Region.ready md l.toArray L' = []
    · exact last_step H hA hr (h.1 hr) (f + 1)
    · have hne : l.length ∉ Region.ready md (l ++ [o]).toArray L := by
        intro hn
        apply hr
        rw [List.eq_nil_iff_forall_not_mem]
        intro j hj
        have hlt := ready_lt hj
        obtain ⟨h0, _⟩ := mem_ready.1 hj
        obtain ⟨_, x, hx, hall⟩ := mem_ready.1 hn
        rw [whole_last] at hx
        injection hx with hx
        subst hx
        obtain ⟨e, he, hb, ho⟩ := H.w j hlt
        have := hall e he hb
        rw [ho, ← hA.getD hlt, getD_both h0] at this
        cases this
      refine ⟨fun h0 => ?_, fun i hi => ?_⟩
      · exfalso
        apply hr
        rw [List.eq_nil_iff_forall_not_mem]
        intro j hj
        have := (ready_head H hA (ready_lt hj)).2 hj
        rw [h0] at this
        cases this
      · obtain ⟨_, x, hx, _⟩ := mem_ready.1 hi
        have hlt : i < l.length := by
          rcases whole_lt hx with h1 | rfl
          · exact h1
          · exact absurd hi hne
        have h2 := h.2 i ((ready_head H hA hlt).1 hi)
        have ih := fun a w => wpAny_last H f (L'.setIfInBounds i true) (L.setIfInBounds i true) a w (hA.set hlt)
        rw [whole_get hlt] at hx
        have hg := H.gl x (by
          have : l[i]? = some x := by simpa using hx
          exact List.mem_of_getElem? this)
        unfold wpOp at h2 ⊢
        rw [whole_get hlt, hx]
        rw [hx] at h2
        have w1 : Region.wanted x (yielded l.toArray a.tmps) = true := by simp [Region.wanted, hg]
        have w2 : Region.wanted x (yielded (l ++ [o]).toArray a.tmps) = true := by simp [Region.wanted, hg]
        change if Region.wanted x (yielded l.toArray a.tmps) = true then _ else _ at h2
        rw [if_pos w1] at h2
        show if Region.wanted x (yielded (l ++ [o]).toArray a.tmps) = true then _ else _
        rw [if_pos w2]
        exact h2.imp (wp_post ih) (fun ⟨h3, a', w', h4⟩ => ⟨h3, a', w', h4⟩)
end
/-- Cut off the last operation of a region that draws its order; the rest goes in whatever order, S held. -/
theorem wp_region_lastH {L : List Oper} {Q : Exit → Act → World → Prop} {S : World → Prop} {id : Nat} {a : Act} {w : World} (n : Nat) (o : Oper) (ho : L = L.take n ++ [o]) (hn : (L.take n).length = n) (hm : P.follows .mixedOrders = true) (hB : lastB .any (L.take n) o = true) (hS : S w.drew)
    (h : S w.drew → wpAnyH P .any (L.take n).toArray (headPost P L.toArray Q o) S n (Array.replicate n false) a w.drew) : (Code.region id L.toArray true).wp P Q a w := by
  refine wp_region_any hm ?_
  have h1 := wpAny_of_held _ _ _ _ (h hS)
  have h2 := wpAny_last (Q := Q) (lastB_spec hB) _ _ (Array.replicate (n + 1) false) a w.drew (by rw [hn]; exact Agree.start n) (by rw [← ho]; exact h1)
  rw [← ho] at h2
  have hs : L.toArray.size = n + 1 := by
    rw [ho]
    simp [hn]
  rw [hs]
  exact h2
end
end Go.Proofs.Ytbnngjhnkegliaa
