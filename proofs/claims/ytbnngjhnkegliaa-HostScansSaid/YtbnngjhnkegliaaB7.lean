/-
  Texts joined for the hand-in, in build order: HoRead HoWrite HoPClear HoPPut HoCount HoSample HoPSample HoPTo. No law is proved here.
-/
import Derived.Test.YtbnngjhnkegliaaB6
import Derived.Test.YtbnngjhnkegliaaB5
import Derived.Test.YtbnngjhnkegliaaB3
namespace Go.Proofs.Ytbnngjhnkegliaa
open Go.RowKit

/-- With a frame free, or one of its own, a page can be written. -/
theorem wok_of_full {H : Ho} (hok : H.P.Ok) {i p : Nat} (hat : H.P.at i p) (hf : H.full i p = false) {d : ByteArray} (hd : d.size = 128) : H.P.wok i p d = true := by
  rw [(Pl.wr_eq hok hat hd).2]
  unfold Pl.wok'
  unfold Ho.full at hf
  rw [Bool.and_eq_false_iff, decide_eq_false_iff_not] at hf
  rcases hf with hf | hf
  · have hpos : 0 < H.P.F.countP emptyB := Nat.pos_of_ne_zero hf
    obtain ⟨s, hs, hb⟩ := List.countP_pos_iff.1 hpos
    obtain ⟨k, hk⟩ := List.getElem?_of_mem hs
    rw [empty_of_size (of_decide_eq_true hb)] at hk
    cases hfo : firstOf H.P.F ⟨#[]⟩ with
    | none => exact absurd hk (firstOf_none.1 hfo k)
    | some q => simp
  · unfold Pl.need at hf
    rw [Bool.or_eq_false_iff, decide_eq_false_iff_not, decide_eq_false_iff_not] at hf
    have hb := hok.at_bd hat
    obtain ⟨v, hv⟩ : ∃ v : Nat, H.P.fr i p = v := ⟨(H.P.fr i p).toNat, by omega⟩
    have hc := Pl.cnt_of_fr hat hv
    have hr := hok.ref_eq (f := v) (by omega)
    have ho : H.P.own i p = true := by
      unfold Pl.own
      rw [hv, Int.toNat_natCast] at hf ⊢
      rw [hr] at hf ⊢
      rw [Bool.and_eq_true, decide_eq_true_eq, decide_eq_true_eq]
      omega
    rw [ho]
    simp
/-- What evictions for a page's sake leave as it is. -/
structure Kept (H K : Ho) (i p : Nat) : Prop where
  ok : K.Ok
  al : H.P.Alike K.P
  gl : K.G.length = H.G.length
  t : K.t = H.t
  d : K.d = H.d
  n : K.n = H.n
  text : ∀ a b, H.P.at a b → K.text a b = H.text a b
  cl : ∀ (a : Nat) (g : Gm), H.G[a]? = some g → ∃ g', K.G[a]? = some g' ∧ g'.c = g.c ∧ g'.e = g.e
  le : ∀ a, K.P.chargeN a ≤ H.P.chargeN a
theorem Kept.refl {H : Ho} (h : H.Ok) (i p : Nat) : Kept H H i p := ⟨h, Pl.Alike.refl _, rfl, rfl, rfl, rfl, fun _ _ _ => rfl, fun _ g hg => ⟨g, hg, rfl, rfl⟩, fun _ => Nat.le_refl _⟩
theorem Kept.ev {H K L : Ho} {i p j : Nat} {x : Int} (h : Kept H K i p) (e : Evicted K L j x) : Kept H L i p := by
  obtain ⟨v, _, _, _, _, hc⟩ := e.pg
  refine ⟨e.ok, h.al.trans e.al, e.gl.trans h.gl, e.t.trans h.t, e.d.trans h.d, e.n.trans h.n, fun a b hab => (e.text a b ((h.al.at a b).2 hab)).trans (h.text a b hab), fun a g hg => ?_, fun a => ?_⟩
  · obtain ⟨g', hg', c1, c2⟩ := h.cl a g hg
    obtain ⟨g2, hg2, d1, d2, _⟩ := e.cl a g' hg'
    exact ⟨g2, hg2, d1.trans c1, d2.trans c2⟩
  · have := hc a
    have := h.le a
    omega
theorem Kept.first {H : Ho} (h : H.Ok) (i p : Nat) : Kept H (H.first i p) i p := by
  unfold Ho.first
  split
  · exact Kept.refl h i p
  · split
    · cases he : H.evict i p with
      | none => exact Kept.refl h i p
      | some L => exact (Kept.refl h i p).ev (evict_law h he)
    · exact Kept.refl h i p
theorem Kept.steps {H H1 K : Ho} {i p : Nat} (h1 : Kept H H1 i p) (h : Steps i p H1 K) : Kept H K i p := by
  induction h with
  | refl => exact h1
  | step _ _ he ih => exact ih.ev (evict_law ih.ok he)
theorem Roomed.kept {H K : Ho} {i p : Nat} (h : Roomed i p H K) (hok : H.Ok) (hat : H.P.at i p) : Kept H K i p ∧ K.full i p = false := by
  have hk := (Kept.first hok i p).steps h.1
  refine ⟨hk, ?_⟩
  rcases h.2 with h2 | ⟨h2, h3⟩
  · exact h2
  · exact absurd h3 (not_stuck hk.ok ((hk.al.at i p).2 hat) h2)
/-- A page of a host is taken out of the swap. -/
def Ho.back (K : Ho) (i p : Nat) (t : ByteArray) : Ho := match K.G[i]? with
  | none => K
  | some g => (K.setP (K.P.wr i p t)).setG i { g with s := g.s.set p ⟨#[]⟩ }
/-- What a read leaves. -/
def ReadTo (H : Ho) (i p : Nat) (H' : Ho) : Prop := ∃ (g : Gm) (t : ByteArray), H.G[i]? = some g ∧ g.s[p]? = some t ∧ ((t.size = 0 ∧ H' = H.mark i p) ∨ (t.size ≠ 0 ∧ ∃ K, Roomed i p H K ∧ H' = (K.back i p t).mark i p))
def RetRead (i p : Nat) (H : Ho) (w : World) (e : Ending) (w' : World) : Prop := ∃ H', ReadTo H i p H' ∧ RetHoB (fun v => .tuple #[v, .string (H'.P.text i p), .int .i64 0]) H' w e w'
theorem OwnEnc.frz {α : Type} {enc : α → Value} {e : TypeId} {base n g k : Nat} {w : World} {xs : List α} (h : OwnEnc enc e base w (.slice (some ⟨g, 0, none⟩) n k) xs) (j : Nat) : w.frozen? ⟨g, j, none⟩ = false := by
  obtain rfl := h.len
  exact World.ownsRow.frozenAt h j
theorem HasBlock.under' {w w' : World} {b base : Nat} {cs : Array Value} {T : TypeId} (h : HasBlock w b cs T) (hb : Below base w w') (hlt : b < base) : HasBlock w' b cs T := (hb.block b hlt).trans h
set_option maxRecDepth 100000 in
set_option maxHeartbeats 8000000 in
theorem hread_ok (v : Value) (H : Ho) (i p : Nat) (w : World) (ha : HoAt w v H) (hok : H.Ok) (hat : H.P.at i p) : Calls Try.prog 21 #[v, .int .i64 i, .int .i64 p] w (RetRead i p H w) := by
  have CL := fun v w h => hclone_ok v H w h hok
  have HS0 := fun v w h => hhas_ok v H i p w h hok hat
  have HCL := Lib.hid CL; clear CL
  have HHS := Lib.hid HS0; clear HS0
  have hi := hok.at_lt hat
  obtain ⟨g, hg⟩ := get_lt hi
  have hgp := hok.gmP hg
  obtain ⟨l, f, hl, hf⟩ := hat
  have hgo := hok.g i g l hg hl
  have hat : H.P.at i p := ⟨l, f, hl, hf⟩
  have hp := lt_of_get hf
  have hll := hok.p.l l (mem_at hl)
  obtain ⟨t, ht⟩ := get_lt (xs := g.s) (k := p) (by rw [hgo.ls]; exact hp)
  have hsw := hgo.sw p f t hf ht
  obtain ⟨of, or', om, og, kf, kr, km, kg, rfl, kf1, kf2, kr1, kr2, km1, km2, kg1, kg2, h⟩ := ha
  obtain ⟨n, hn⟩ : ∃ n, H.P.F.length = n := ⟨_, rfl⟩
  obtain ⟨r, hr⟩ : ∃ n, H.P.R.length = n := ⟨_, rfl⟩
  obtain ⟨m, hm⟩ : ∃ n, H.P.M.length = n := ⟨_, rfl⟩
  obtain ⟨q, hq⟩ : ∃ n, H.G.length = n := ⟨_, rfl⟩
  obtain ⟨tx, htx⟩ : ∃ n, H.t = n := ⟨_, rfl⟩
  obtain ⟨dx, hdx⟩ : ∃ n, H.d = n := ⟨_, rfl⟩
  obtain ⟨sx, hsx⟩ : ∃ n, H.n = n := ⟨_, rfl⟩
  rw [hn] at h kf1 ⊢
  rw [hr] at h kr1 ⊢
  rw [hm] at h km1 ⊢
  rw [hq] at h kg1 ⊢
  rw [htx, hdx, hsx]
  have HN := Lib.hid hn; clear hn
  have HR := Lib.hid hr; clear hr
  have HM := Lib.hid hm; clear hm
  have HQ := Lib.hid hq; clear hq
  have HT := Lib.hid htx; clear htx
  have HD := Lib.hid hdx; clear hdx
  have HS := Lib.hid hsx; clear hsx
  have h0 := h
  have HVA : Hid (∀ w' : World, Below w.heap.size w w' → HoAt w' (.agg #[.slice of n kf, .slice or' r kr, .slice om m km, .slice og q kg, .int .i64 tx, .int .u64 dx, .int .i64 sx]) H) := Lib.hid (fun w' hb => by
    have := (h0.below hb).at_
    rwa [HT.out, HD.out, HS.out] at this)
  clear h h0
  have D1 := (HasBlock.made w #[.slice of n kf, .slice or' r kr, .slice om m km, .slice og q kg, .int .i64 tx, .int .u64 dx, .int .i64 sx] 31).alloc (.cells #[.slice none 0 0, .slice none 0 0, .slice none 0 0, .slice none 0 0, .int .i64 0, .int .u64 0, .int .i64 0] 31)
  have D2 := HasBlock.made (w.alloc (.cells #[.slice of n kf, .slice or' r kr, .slice om m km, .slice og q kg, .int .i64 tx, .int .u64 dx, .int .i64 sx] 31)) #[.slice none 0 0, .slice none 0 0, .slice none 0 0, .slice none 0 0, .int .i64 0, .int .u64 0, .int .i64 0] 31
  rw [World.size_alloc] at D2
  have hbw : Below w.heap.size w ((w.alloc (.cells #[.slice of n kf, .slice or' r kr, .slice om m km, .slice og q kg, .int .i64 tx, .int .u64 dx, .int .i64 sx] 31)).alloc (.cells #[.slice none 0 0, .slice none 0 0, .slice none 0 0, .slice none 0 0, .int .i64 0, .int .u64 0, .int .i64 0] 31)) := (by repeat (first | with_reducible exact Below.refl _ _ | with_reducible refine Below.drew ?_ | (with_reducible refine Below.alloc ?_ (by first | exact Nat.le_refl _ | omega | (dsimp only; omega) | (simp only [sizes]; omega)) _) | (with_reducible refine Below.setCell ?_ (by first | exact Nat.le_refl _ | omega | (dsimp only; omega) | (simp only [sizes]; omega)) _) | (refine Below.trans ?_ (Below.mono (by with_reducible assumption) (by first | exact Nat.le_refl _ | omega | (dsimp only; omega) | (simp only [sizes]; omega))))))
  have HOK := Lib.hid hok; clear hok
  have HAT := Lib.hid hat; clear hat
  have HG := Lib.hid hg; clear hg
  have HL := Lib.hid hl; clear hl
  have HF := Lib.hid hf; clear hf
  have HTT := Lib.hid ht; clear ht
  have HSW := Lib.hid hsw; clear hsw
  have HGO := Lib.hid hgo; clear hgo hgp hi
  have hz0 : w.heap.size + 1 + 1 = ((w.alloc (.cells #[.slice of n kf, .slice or' r kr, .slice om m km, .slice og q kg, .int .i64 tx, .int .u64 dx, .int .i64 sx] 31)).alloc (.cells #[.slice none 0 0, .slice none 0 0, .slice none 0 0, .slice none 0 0, .int .i64 0, .int .u64 0, .int .i64 0] 31)).heap.size := by simp only [sizes]
  go_enter Try.func21, Try.ntmps21
  obtain ⟨D1_c, D1_f, D1_z⟩ := D1.all
  go_wp2_with fail
  clear D1_c D1_f D1_z
  with_reducible refine (HCL.out _ _ (HVA.out _ hbw)).mono ?_
  rintro e w1 ⟨of1, or1, om1, og1, kf1', kr1', km1', kg1', us1, gs1, rfl, O1, hb1⟩
  rw [HN.out, HR.out, HM.out, HQ.out] at O1 ⊢
  rw [HT.out, HD.out, HS.out]
  replace O1 := O1.lower (base' := w.heap.size + 1 + 1) (Nat.le_of_eq hz0)
  have hz1 := hb1.size
  rw [← hz0] at hz1
  replace D1 := D1.below hb1
  replace D2 := D2.below hb1
  replace hbw := hbw.trans (hb1.mono hbw.size)
  clear hb1 hz0
  obtain ⟨D1_c, D1_f, D1_z⟩ := D1.all
  go_wp2_with fail
  clear D1_c D1_f D1_z
  have hbx : Below w1.heap.size w1 (w1.alloc (.cells #[.slice of1 n kf1', .slice or1 r kr1', .slice om1 m km1', .slice og1 q kg1', .int .i64 tx, .int .u64 dx, .int .i64 sx] 31)) := (Below.refl _ _).alloc (Nat.le_refl _) _
  have DR := HasBlock.made w1 #[.slice of1 n kf1', .slice or1 r kr1', .slice om1 m km1', .slice og1 q kg1', .int .i64 tx, .int .u64 dx, .int .i64 sx] 31
  replace D1 := D1.below hbx
  replace D2 := D2.below hbx
  replace O1 := O1.below hbx
  replace hbw := hbw.trans (hbx.mono hbw.size)
  have hz2 := hbx.size
  clear hbx
  generalize hW : w1.alloc (.cells #[.slice of1 n kf1', .slice or1 r kr1', .slice om1 m km1', .slice og1 q kg1', .int .i64 tx, .int .u64 dx, .int .i64 sx] 31) = w2 at D1 D2 DR O1 hbw hz2 ⊢
  obtain ⟨B, hB⟩ : ∃ B, w1.heap.size = B := ⟨_, rfl⟩
  rw [hB] at DR hz1 hz2 ⊢
  clear hW hB
  have hBA : w.heap.size + 1 + 1 ≤ B := hz1
  with_reducible refine (HHS.out _ _ (HVA.out _ hbw)).mono ?_
  rintro e w3 ⟨rfl, hb3⟩
  replace D1 := D1.below hb3
  replace D2 := D2.below hb3
  replace DR := DR.below hb3
  replace O1 := O1.below hb3
  replace hbw := hbw.trans (hb3.mono hbw.size)
  replace hz2 := Nat.le_trans hz2 hb3.size
  clear hb3
  have hzz : w.heap.size + 1 + 1 ≤ w3.heap.size := Nat.le_trans hBA hz2
  have hA : HostAt (w.heap.size + 1 + 1) B w3 H := HostAt.mk HN.out HR.out HM.out HQ.out HT.out HD.out HS.out DR O1
  have hrow : ∃ (bG c so sc : Nat) (oso : Option Addr), og1 = some ⟨bG, 0, none⟩ ∧ w3.cell? ⟨bG, i * 9 + 5, none⟩ = some (.slice oso so sc) ∧ so = l.length ∧ StrRow w3 (.slice oso so sc) g.s := by
    obtain ⟨bG, cG, y, so, sc, uo, uc, eo, ec, e0, b1, b2, hy, ys, yu, ye, _, cg2, _, sc2, _, uc2, _, ec2, cs, cfz⟩ := O1.guest HG.out
    injection e0 with e0 e9 e10
    subst e0
    obtain ⟨rs1, _, _⟩ := O1.r i _ g hy HG.out
    have c5 := cs 5 _ rfl
    rw [ys] at rs1 c5
    exact ⟨bG, 0, _, sc, so, rfl, c5, HGO.out.ls, rs1.row⟩
  obtain ⟨bG, _, so, sc, oso, rfl, c5, rfl, hsr⟩ := hrow
  obtain ⟨sb, soff, rfl, hsb, ct⟩ := hsr.elem HTT.out
  clear hsr
  obtain ⟨ql, hql⟩ : ∃ k, l.length = k := ⟨_, rfl⟩
  rw [hql] at hp c5 hll
  have HQL := Lib.hid hql; clear hql
  have hiq : i < q := by rw [← HQ.out]; exact lt_of_get HG.out
  have i0 : (0 : Int) ≤ (i : Int) := by omega
  have iq : (i : Int) < (q : Int) := by omega
  have p0 : (0 : Int) ≤ (p : Int) := by omega
  have pq : (p : Int) < (ql : Int) := by omega
  have hii := isEmpty_iff t
  have HA := Lib.hid hA; clear hA O1
  by_cases h0 : t.size = 0
  · rw [decide_eq_true h0] at hii
    have HT0 := Lib.hid h0; clear h0 HSW
    obtain ⟨DR_c, DR_f, DR_z⟩ := DR.all
    go_wp2_with fail
    clear DR_c DR_f DR_z
    clear c5 ct
    have hbb : Below (w.heap.size + 1 + 1) w3 w3 := Below.refl _ _
    have hrows : ∃ gK lK fK, H.G[i]? = some gK ∧ H.P.M[i]? = some lK ∧ lK[p]? = some fK ∧ gK.u.length = lK.length ∧ gK.e.length = lK.length ∧ lK.length ≤ 32 := ⟨g, l, f, HG.out, HL.out, HF.out, HGO.out.lu, HGO.out.le, by rw [HQL.out]; exact hll.2⟩
    have hokP := HOK.out.p
    -- the page is marked, then read
    obtain ⟨gK, lK, fK, hgK, hlK, hfK, huK, heK, hlK32⟩ := hrows
    have hzA := hbb.size
    with_reducible refine (hmark_ok (w.heap.size + 1 + 1) B H i p w3 HA.out gK lK fK hgK hlK hfK huK heK hlK32 (Nat.le_trans hzz hzA)).mono ?_
    rintro e wm ⟨rfl, hAm, hbm⟩
    replace hbb := hbb.trans hbm
    have hPm : (H.mark i p).P = H.P := by unfold Ho.mark; rw [hgK]; rfl
    obtain ⟨of9, or9, om9, og9, kf9, kr9, km9, kg9, us9, gs9, D9, O9⟩ := hAm
    have hat9 : (H.mark i p).P.at i p := by rw [hPm]; exact ⟨lK, fK, hlK, hfK⟩
    have RDc := fun v' w h => pread_any v' (H.mark i p).P i p w h (by rw [hPm]; exact hokP.fit)
    rw [Pl.read_eq (by rw [hPm]; exact hokP) hat9, Pl.at_has (by rw [hPm]; exact hokP) hat9] at RDc
    obtain ⟨tx9, htx9⟩ : ∃ x, (H.mark i p).P.text i p = x := ⟨_, rfl⟩
    rw [htx9] at RDc
    have HRD := Lib.hid RDc; clear RDc hat9 hPm
    have HTX := Lib.hid htx9; clear htx9
    clear hgK hlK hfK huK heK hlK32
    have D29 := D2.under' hbb (by omega)
    obtain ⟨Hx, hHx⟩ : ∃ Hx, H.mark i p = Hx := ⟨_, rfl⟩
    rw [hHx] at D9 O9 HRD HTX
    have HHX := Lib.hid hHx; clear hHx
    obtain ⟨n9, hn9⟩ : ∃ n, Hx.P.F.length = n := ⟨_, rfl⟩
    obtain ⟨r9, hr9⟩ : ∃ n, Hx.P.R.length = n := ⟨_, rfl⟩
    obtain ⟨m9, hm9⟩ : ∃ n, Hx.P.M.length = n := ⟨_, rfl⟩
    obtain ⟨q9, hq9⟩ : ∃ n, Hx.G.length = n := ⟨_, rfl⟩
    obtain ⟨t9, ht9⟩ : ∃ n, Hx.t = n := ⟨_, rfl⟩
    obtain ⟨d9, hd9⟩ : ∃ n, Hx.d = n := ⟨_, rfl⟩
    obtain ⟨s9, hs9⟩ : ∃ n, Hx.n = n := ⟨_, rfl⟩
    rw [hn9, hr9, hm9, hq9] at O9 D9
    rw [ht9, hd9, hs9] at D9
    have H9 := Lib.hid (And.intro hn9 (And.intro hr9 (And.intro hm9 (And.intro hq9 (And.intro ht9 (And.intro hd9 hs9)))))); clear hn9 hr9 hm9 hq9 ht9 hd9 hs9
    obtain ⟨D9_c, D9_f, D9_z⟩ := D9.all
    go_wp2_with fail
    clear D9_c D9_f D9_z
    with_reducible refine (HRD.out _ _ O9.row.p).mono ?_
    rintro e wn ⟨rfl, hbn⟩
    replace D9 := D9.below hbn
    replace O9 := O9.below hbn
    replace D29 := D29.below hbn
    replace hbb := hbb.trans (hbn.mono (Nat.le_trans hzz hbb.size))
    clear hbn
    obtain ⟨D9_c, D9_f, D9_z⟩ := D9.all
    obtain ⟨D29_c, D29_f, D29_z⟩ := D29.all
    have nB : w.heap.size + 1 ≠ B := by omega
    go_wp2_with fail
    refine bodyPost_ret (v := .tuple #[.agg #[.slice of9 n9 kf9, .slice or9 r9 kr9, .slice om9 m9 km9, .slice og9 q9 kg9, .int .i64 t9, .int .u64 d9, .int .i64 s9], .string tx9, .int .i64 0]) (by simp [results, Try.results21, go_sem, D29_c]) rfl ?_
    refine ⟨Hx, ⟨g, t, HG.out, HTT.out, .inl ⟨HT0.out, HHX.out.symm⟩⟩, ?_⟩
    rw [HTX.out]
    exact hoRet' (k := fun v => .tuple #[v, .string tx9, .int .i64 0]) H9.out.1 H9.out.2.1 H9.out.2.2.1 H9.out.2.2.2.1 H9.out.2.2.2.2.1 H9.out.2.2.2.2.2.1 H9.out.2.2.2.2.2.2 (O9.fill7 (by omega) _ _ _ _ _ _ _) (Below.fill7 (hbw.trans (hbb.mono (by omega))) (by omega) _ _ _ _ _ _ _)
  · rw [decide_eq_false h0] at hii
    obtain ⟨d1, d2, d3⟩ := HSW.out.resolve_left h0
    have HT0 := Lib.hid h0; clear h0 HSW d1
    obtain ⟨DR_c, DR_f, DR_z⟩ := DR.all
    go_wp2_with fail
    clear DR_c DR_f DR_z
    clear c5 ct
    with_reducible refine (hroom_ok (w.heap.size + 1 + 1) B H i p w3 HA.out hBA HOK.out HAT.out hzz).mono ?_
    rintro e w4 ⟨rfl, ⟨K, hrm, hKo, hK⟩, hbb⟩
    obtain ⟨hke, hfull⟩ := hrm.kept HOK.out HAT.out
    have hKat := (hke.al.at i p).2 HAT.out
    obtain ⟨gK, hgK⟩ := get_lt (hKo.at_lt hKat)
    have hgKp := hKo.gmP hgK
    obtain ⟨lK, fK, hlK, hfK⟩ := hKat
    have hKat : K.P.at i p := ⟨lK, fK, hlK, hfK⟩
    have hplK := Pl.pages_eq hlK
    have hwok := wok_of_full hKo.p hKat hfull d2
    have WRc := fun v' w h => pwrite_own v' K.P i p t w h hKo.p.fit hKo.p.small
    rw [hwok] at WRc
    obtain ⟨we1, we2⟩ := Pl.wr_eq hKo.p hKat d2
    rw [we2] at hwok
    have WL := (Pl.wr_law hKo.p hKat d2).1 hwok
    rw [← we1] at WL
    have hback : K.back i p t = (K.setP (K.P.wr i p t)).setG i { gK with s := gK.s.set p ⟨#[]⟩ } := by unfold Ho.back; rw [hgK]
    obtain ⟨P2, hP2⟩ : ∃ P, K.P.wr i p t = P := ⟨_, rfl⟩
    rw [hP2] at WRc WL hback
    have hrows : ∃ gX lX fX, (K.back i p t).G[i]? = some gX ∧ (K.back i p t).P.M[i]? = some lX ∧ lX[p]? = some fX ∧ gX.u.length = lX.length ∧ gX.e.length = lX.length ∧ lX.length ≤ 32 := by
      rw [hback]
      obtain ⟨lX, fX, hlX, hfX⟩ := (WL.al.at i p).2 hKat
      have hpl := WL.al.pg i
      rw [Pl.pages_eq hlX] at hpl
      refine ⟨_, lX, fX, by show (K.G.set i _)[i]? = _; rw [List.getElem?_set, if_pos rfl, if_pos (lt_of_get hgK)], hlX, hfX, ?_, ?_, (WL.ok.l lX (mem_at hlX)).2⟩
      · rw [hpl]; exact hgKp.lu
      · rw [hpl]; exact hgKp.le
    have hokP : (K.back i p t).P.Ok := by rw [hback]; exact WL.ok
    have hA4 := hK
    obtain ⟨of4, or4, om4, og4, kf4, kr4, km4, kg4, us4, gs4, D4, O4⟩ := hK
    obtain ⟨bG4, cG4, y4, so4, sc4, uo4, uc4, eo4, ec4, e0, b1, b2, hy, ys, yu, ye, _, cg2, _, sc2, _, uc2, _, ec2, cs4, cfz⟩ := O4.guest hgK
    injection e0 with e0 e9 e10
    subst e0 e10
    clear e9
    obtain ⟨ys1, yu1, ye1⟩ := y4
    dsimp only at ys yu ye
    subst ys yu ye
    obtain ⟨rs1, rs2, rs3⟩ := O4.r i _ gK hy hgK
    dsimp only at rs1 rs2 rs3
    have hsl4 := hgKp.ls
    rw [hplK] at hsl4
    have hlen4 := hke.al.pg i
    rw [hplK, Pl.pages_eq HL.out, HQL.out] at hlen4
    rw [hlen4] at hsl4
    have c54 : w4.cell? ⟨bG4, i * 9 + 5, none⟩ = _ := cs4 5 _ rfl
    dsimp only at c54
    rw [hsl4] at c54 rs1 hy
    obtain ⟨gS, rfl, gs1', gs2'⟩ := rs1.addr hsl4 (by omega)
    obtain ⟨s0, hs0⟩ := get_lt (xs := gK.s) (k := p) (by omega)
    obtain ⟨cS0, fS0⟩ := rs1.at hs0
    have hqK : K.G.length = q := by rw [hke.gl]; exact HQ.out
    have hnGB : bG4 ≠ B := fun e => own_off O4.g D4 (by decide) (by rw [e]; rfl)
    have hnSB : gS ≠ B := fun e => own_off rs1 D4 (by decide) (by rw [e]; rfl)
    have hnSG : gS ≠ bG4 := fun e => own_ne_type rs1 O4.g (by decide) rfl (by rw [e]; rfl)
    rw [hqK] at D4 O4
    obtain ⟨nK, hnK⟩ : ∃ n, K.P.F.length = n := ⟨_, rfl⟩
    obtain ⟨rK, hrK⟩ : ∃ n, K.P.R.length = n := ⟨_, rfl⟩
    obtain ⟨mK, hmK⟩ : ∃ n, K.P.M.length = n := ⟨_, rfl⟩
    obtain ⟨tK, htK⟩ : ∃ n, K.t = n := ⟨_, rfl⟩
    obtain ⟨dK, hdK⟩ : ∃ n, K.d = n := ⟨_, rfl⟩
    obtain ⟨sK, hsK⟩ : ∃ n, K.n = n := ⟨_, rfl⟩
    rw [hnK, hrK, hmK] at D4 O4
    rw [htK, hdK, hsK] at D4
    have HWR := Lib.hid WRc; clear WRc
    have HBK := Lib.hid hback; clear hback
    have HGK := Lib.hid hgK; clear hgK
    have HYK := Lib.hid hy; clear hy
    have HX4 := Lib.hid (And.intro htK (And.intro hdK (And.intro hsK hqK))); clear htK hdK hsK hqK hnK hrK hmK
    have HRM := Lib.hid hrm; clear hrm
    clear hke hfull hKat hgKp hlK hfK hplK hwok we1 we2 WL hP2 hA4 cs4 hs0 hsl4 hlen4 hKo
    obtain ⟨D4_c, D4_f, D4_z⟩ := D4.all
    go_wp2_with fail
    clear D4_c D4_f D4_z
    with_reducible refine (HWR.out _ _ O4.row.p).mono ?_
    rintro e w5 ⟨of5, or5, om5, kf5, kr5, km5, us5, rfl, O5, hb5⟩
    obtain ⟨n5, hgn⟩ : ∃ n, (Pl.F P2).length = n := ⟨_, rfl⟩
    obtain ⟨r5, hgr⟩ : ∃ n, (Pl.R P2).length = n := ⟨_, rfl⟩
    obtain ⟨m5, hgm⟩ : ∃ n, (Pl.M P2).length = n := ⟨_, rfl⟩
    rw [hgn, hgr, hgm] at O5 ⊢
    have HG5 := Lib.hid (And.intro hgn (And.intro hgr hgm))
    clear hgn hgr hgm
    have D5 := D4.below hb5
    have hfz5 : ∀ o, w5.frozen? ⟨gS, o, none⟩ = false := fun o => (hb5.frozen (p := ⟨gS, o, none⟩) gs2').trans (rs1.frz o)
    have c5 := (hb5.cell (p := ⟨bG4, i * 9 + 5, none⟩) b2).trans c54
    have cS := (hb5.cell (p := ⟨gS, p, none⟩) gs2').trans cS0
    have hgsz : gS < w5.heap.size := Nat.lt_of_lt_of_le gs2' hb5.size
    have hbgz : bG4 < w5.heap.size := Nat.lt_of_lt_of_le b2 hb5.size
    have hn1 : B ≠ gS := fun e => hnSB e.symm
    have hn2 : B ≠ bG4 := fun e => hnGB e.symm
    obtain ⟨D5_c, D5_f, D5_z⟩ := D5.all
    go_wp2_with fail
    clear D5_c D5_f D5_z c5 cS
    have O4b := O4.below hb5
    have Oa := O4b.newPool (O5.lower (Nat.le_trans hzz hbb.size)) O4.ltG O5.ge
    have Ob := ((Oa.setbox (j := 0) D5 hostT (.slice of5 n5 kf5)).setbox (j := 1) (D5.put7_0 (.slice of5 n5 kf5)) hostT (.slice or5 r5 kr5)).setbox (j := 2) ((D5.put7_0 (.slice of5 n5 kf5)).put7_1 (.slice or5 r5 kr5)) hostT (.slice om5 m5 km5)
    have Oc := Ob.putS (i := i) HGK.out HYK.out rfl p ⟨#[]⟩
    have Dc := (D5.poolIn (.slice of5 n5 kf5) (.slice or5 r5 kr5) (.slice om5 m5 km5)).set_ne hn1 (j := p) (.string ⟨#[]⟩)
    have Od := Oc.alloc (.cells #[.slice of5 n5 kf5, .slice or5 r5 kr5, .slice om5 m5 km5] 27)
    have Dd := Dc.alloc (.cells #[.slice of5 n5 kf5, .slice or5 r5 kr5, .slice om5 m5 km5] 27)
    have hbb5 := hbb.trans (hb5.mono (Nat.le_trans hzz hbb.size))
    have hbe := ((((hbb5.setCell (p := ⟨B, 0, none⟩) hBA (.slice of5 n5 kf5)).setCell (p := ⟨B, 1, none⟩) hBA (.slice or5 r5 kr5)).setCell (p := ⟨B, 2, none⟩) hBA (.slice om5 m5 km5)).setCell (p := ⟨gS, p, none⟩) gs1' (.string ⟨#[]⟩)).alloc (Nat.le_trans hzz (by simp only [sizes]; exact hbb5.size)) (.cells #[.slice of5 n5 kf5, .slice or5 r5 kr5, .slice om5 m5 km5] 27)
    have HAE := HostAt.mk (H := (K.setP P2).setG i { gK with s := gK.s.set p ⟨#[]⟩ }) HG5.out.1 HG5.out.2.1 HG5.out.2.2 ((List.length_set ..).trans HX4.out.2.2.2) HX4.out.1 HX4.out.2.1 HX4.out.2.2.1 Dd Od
    rw [← HBK.out] at HAE
    generalize hW : (((((World.setCell w5 ⟨B, 0, none⟩ (.slice of5 n5 kf5)).setCell ⟨B, 1, none⟩ (.slice or5 r5 kr5)).setCell ⟨B, 2, none⟩ (.slice om5 m5 km5)).setCell ⟨gS, p, none⟩ (.string ⟨#[]⟩)).alloc (.cells #[.slice of5 n5 kf5, .slice or5 r5 kr5, .slice om5 m5 km5] 27)) = wq at HAE hbe ⊢
    clear hW Oa Ob Oc Od Dc Dd hbb hbb5 hfz5 O4b O4 O5 D4 D5 rs1 rs2 rs3 c54 cS0 fS0 hb5
    have hbb := hbe
    clear hbe
    obtain ⟨KB, hKB⟩ : ∃ KB, K.back i p t = KB := ⟨_, rfl⟩
    rw [hKB] at HAE hrows hokP
    have HKB := Lib.hid hKB; clear hKB
    have HAQ := Lib.hid HAE; clear HAE
    -- the page is marked, then read
    obtain ⟨gK, lK, fK, hgK, hlK, hfK, huK, heK, hlK32⟩ := hrows
    have hzA := hbb.size
    with_reducible refine (hmark_ok (w.heap.size + 1 + 1) B KB i p wq HAQ.out gK lK fK hgK hlK hfK huK heK hlK32 (Nat.le_trans hzz hzA)).mono ?_
    rintro e wm ⟨rfl, hAm, hbm⟩
    replace hbb := hbb.trans hbm
    have hPm : (KB.mark i p).P = KB.P := by unfold Ho.mark; rw [hgK]; rfl
    obtain ⟨of9, or9, om9, og9, kf9, kr9, km9, kg9, us9, gs9, D9, O9⟩ := hAm
    have hat9 : (KB.mark i p).P.at i p := by rw [hPm]; exact ⟨lK, fK, hlK, hfK⟩
    have RDc := fun v' w h => pread_any v' (KB.mark i p).P i p w h (by rw [hPm]; exact hokP.fit)
    rw [Pl.read_eq (by rw [hPm]; exact hokP) hat9, Pl.at_has (by rw [hPm]; exact hokP) hat9] at RDc
    obtain ⟨tx9, htx9⟩ : ∃ x, (KB.mark i p).P.text i p = x := ⟨_, rfl⟩
    rw [htx9] at RDc
    have HRD := Lib.hid RDc; clear RDc hat9 hPm
    have HTX := Lib.hid htx9; clear htx9
    clear hgK hlK hfK huK heK hlK32
    have D29 := D2.under' hbb (by omega)
    obtain ⟨Hx, hHx⟩ : ∃ Hx, KB.mark i p = Hx := ⟨_, rfl⟩
    rw [hHx] at D9 O9 HRD HTX
    have HHX := Lib.hid hHx; clear hHx
    obtain ⟨n9, hn9⟩ : ∃ n, Hx.P.F.length = n := ⟨_, rfl⟩
    obtain ⟨r9, hr9⟩ : ∃ n, Hx.P.R.length = n := ⟨_, rfl⟩
    obtain ⟨m9, hm9⟩ : ∃ n, Hx.P.M.length = n := ⟨_, rfl⟩
    obtain ⟨q9, hq9⟩ : ∃ n, Hx.G.length = n := ⟨_, rfl⟩
    obtain ⟨t9, ht9⟩ : ∃ n, Hx.t = n := ⟨_, rfl⟩
    obtain ⟨d9, hd9⟩ : ∃ n, Hx.d = n := ⟨_, rfl⟩
    obtain ⟨s9, hs9⟩ : ∃ n, Hx.n = n := ⟨_, rfl⟩
    rw [hn9, hr9, hm9, hq9] at O9 D9
    rw [ht9, hd9, hs9] at D9
    have H9 := Lib.hid (And.intro hn9 (And.intro hr9 (And.intro hm9 (And.intro hq9 (And.intro ht9 (And.intro hd9 hs9)))))); clear hn9 hr9 hm9 hq9 ht9 hd9 hs9
    obtain ⟨D9_c, D9_f, D9_z⟩ := D9.all
    go_wp2_with fail
    clear D9_c D9_f D9_z
    with_reducible refine (HRD.out _ _ O9.row.p).mono ?_
    rintro e wn ⟨rfl, hbn⟩
    replace D9 := D9.below hbn
    replace O9 := O9.below hbn
    replace D29 := D29.below hbn
    replace hbb := hbb.trans (hbn.mono (Nat.le_trans hzz hbb.size))
    clear hbn
    obtain ⟨D9_c, D9_f, D9_z⟩ := D9.all
    obtain ⟨D29_c, D29_f, D29_z⟩ := D29.all
    have nB : w.heap.size + 1 ≠ B := by omega
    go_wp2_with fail
    refine bodyPost_ret (v := .tuple #[.agg #[.slice of9 n9 kf9, .slice or9 r9 kr9, .slice om9 m9 km9, .slice og9 q9 kg9, .int .i64 t9, .int .u64 d9, .int .i64 s9], .string tx9, .int .i64 0]) (by simp [results, Try.results21, go_sem, D29_c]) rfl ?_
    refine ⟨Hx, ⟨g, t, HG.out, HTT.out, .inr ⟨HT0.out, K, HRM.out, by rw [HKB.out]; exact HHX.out.symm⟩⟩, ?_⟩
    rw [HTX.out]
    exact hoRet' (k := fun v => .tuple #[v, .string tx9, .int .i64 0]) H9.out.1 H9.out.2.1 H9.out.2.2.1 H9.out.2.2.2.1 H9.out.2.2.2.2.1 H9.out.2.2.2.2.2.1 H9.out.2.2.2.2.2.2 (O9.fill7 (by omega) _ _ _ _ _ _ _) (Below.fill7 (hbw.trans (hbb.mono (by omega))) (by omega) _ _ _ _ _ _ _)
end Go.Proofs.Ytbnngjhnkegliaa
namespace Go.Proofs.Ytbnngjhnkegliaa
open Go.RowKit

/-- A page that is swapped no more. -/
def Ho.clear (H : Ho) (i p : Nat) : Ho := match H.G[i]? with
  | none => H
  | some g => H.setG i { g with s := g.s.set p ⟨#[]⟩ }
theorem clear_ok {H : Ho} (hok : H.Ok) {i p : Nat} : (H.clear i p).Ok ∧ (H.clear i p).P = H.P := by
  unfold Ho.clear
  cases hg : H.G[i]? with
  | none => exact ⟨hok, rfl⟩
  | some g =>
    dsimp only
    refine ⟨hok.of hok.p (Pl.Alike.refl _) (List.length_set ..) rfl hok.d hok.n (sumR_set hg rfl) (fun a z hz => ?_), rfl⟩
    change (H.G.set i _)[a]? = some z at hz
    rw [List.getElem?_set] at hz
    by_cases e : i = a
    · subst e
      rw [if_pos rfl, if_pos (lt_of_get hg)] at hz
      injection hz with hz
      subst hz
      obtain ⟨a1, a2, a3, a4, a5, a6, a7, a8, a9⟩ := hok.gmP hg
      refine ⟨a1, a2, a3, by rw [List.length_set]; exact a4, a5, a6, a7, a8, fun k t hk ht => ?_⟩
      rw [List.getElem?_set] at ht
      by_cases ek : p = k
      · rw [if_pos ek] at ht
        split at ht
        · injection ht with ht
          subst ht
          exact .inl rfl
        · cases ht
      · rw [if_neg ek] at ht
        exact a9 k t hk ht
    · rw [if_neg e] at hz
      exact hok.gmP hz
/-- A page with a frame of its own can be written. -/
theorem wok_of_need {P : Pl} (hok : P.Ok) {i p : Nat} (hat : P.at i p) (hf : P.need i p = false) {d : ByteArray} (hd : d.size = 128) : P.wok i p d = true :=
  wok_of_full (H := ⟨P, [], 0, 0, 0⟩) hok hat (by unfold Ho.full; rw [hf, Bool.and_false]) hd
/-- What a write leaves. -/
def WriteTo (H : Ho) (i p : Nat) (d : ByteArray) (H' : Ho) : Prop := ∃ K, ((zeroB d = false ∧ H.P.need i p = true ∧ Roomed i p (H.clear i p) K) ∨ ((zeroB d = true ∨ H.P.need i p = false) ∧ K = H.clear i p)) ∧ H' = (K.setP (K.P.wr i p d)).mark i p
def RetWrite (i p : Nat) (d : ByteArray) (H : Ho) (w : World) (e : Ending) (w' : World) : Prop := ∃ H', WriteTo H i p d H' ∧ RetHoB (fun v => .tuple #[v, .int .i64 0]) H' w e w'
set_option maxRecDepth 100000 in
set_option maxHeartbeats 8000000 in
theorem hwrite_ok (v : Value) (H : Ho) (i p : Nat) (d : ByteArray) (w : World) (ha : HoAt w v H) (hok : H.Ok) (hat : H.P.at i p) (hd : d.size = 128) : Calls Try.prog 12 #[v, .int .i64 i, .int .i64 p, .string d] w (RetWrite i p d H w) := by
  have CL := fun v w h => hclone_ok v H w h hok
  have HS0 := fun v w h => hhas_ok v H i p w h hok hat
  have HCL := Lib.hid CL; clear CL
  have HHS := Lib.hid HS0; clear HS0
  have hi := hok.at_lt hat
  obtain ⟨g, hg⟩ := get_lt hi
  have hgp := hok.gmP hg
  obtain ⟨l, f, hl, hf⟩ := hat
  have hgo := hok.g i g l hg hl
  have hat : H.P.at i p := ⟨l, f, hl, hf⟩
  have hp := lt_of_get hf
  have hll := hok.p.l l (mem_at hl)
  obtain ⟨t, ht⟩ := get_lt (xs := g.s) (k := p) (by rw [hgo.ls]; exact hp)
  obtain ⟨hcl, hclP⟩ := clear_ok hok (i := i) (p := p)
  have hcle : H.clear i p = H.setG i { g with s := g.s.set p ⟨#[]⟩ } := by unfold Ho.clear; rw [hg]
  have ZC := fun w => hzeros_any d w
  have NC : ∀ v w, HoAt w v (H.clear i p) → Calls Try.prog 27 #[v, .int .i64 i, .int .i64 p] w (Ret w (.bool (H.P.need i p))) := fun v w h => by
    have := hneed_ok v (H.clear i p) i p w h hcl.p (by rw [hclP]; exact hat)
    rwa [hclP] at this
  obtain ⟨of, or', om, og, kf, kr, km, kg, rfl, kf1, kf2, kr1, kr2, km1, km2, kg1, kg2, h⟩ := ha
  obtain ⟨n, hn⟩ : ∃ n, H.P.F.length = n := ⟨_, rfl⟩
  obtain ⟨r, hr⟩ : ∃ n, H.P.R.length = n := ⟨_, rfl⟩
  obtain ⟨m, hm⟩ : ∃ n, H.P.M.length = n := ⟨_, rfl⟩
  obtain ⟨q, hq⟩ : ∃ n, H.G.length = n := ⟨_, rfl⟩
  obtain ⟨tx, htx⟩ : ∃ n, H.t = n := ⟨_, rfl⟩
  obtain ⟨dx, hdx⟩ : ∃ n, H.d = n := ⟨_, rfl⟩
  obtain ⟨sx, hsx⟩ : ∃ n, H.n = n := ⟨_, rfl⟩
  rw [hn] at h kf1 ⊢
  rw [hr] at h kr1 ⊢
  rw [hm] at h km1 ⊢
  rw [hq] at h kg1 ⊢
  rw [htx, hdx, hsx]
  have HN := Lib.hid hn; clear hn
  have HR := Lib.hid hr; clear hr
  have HM := Lib.hid hm; clear hm
  have HQ := Lib.hid hq; clear hq
  have HT := Lib.hid htx; clear htx
  have HD := Lib.hid hdx; clear hdx
  have HS := Lib.hid hsx; clear hsx
  have h0 := h
  have HVA : Hid (∀ w' : World, Below w.heap.size w w' → HoAt w' (.agg #[.slice of n kf, .slice or' r kr, .slice om m km, .slice og q kg, .int .i64 tx, .int .u64 dx, .int .i64 sx]) H) := Lib.hid (fun w' hb => by
    have := (h0.below hb).at_
    rwa [HT.out, HD.out, HS.out] at this)
  clear h h0
  have D1 := (HasBlock.made w #[.slice of n kf, .slice or' r kr, .slice om m km, .slice og q kg, .int .i64 tx, .int .u64 dx, .int .i64 sx] 31).alloc (.cells #[.slice none 0 0, .slice none 0 0, .slice none 0 0, .slice none 0 0, .int .i64 0, .int .u64 0, .int .i64 0] 31)
  have D2 := HasBlock.made (w.alloc (.cells #[.slice of n kf, .slice or' r kr, .slice om m km, .slice og q kg, .int .i64 tx, .int .u64 dx, .int .i64 sx] 31)) #[.slice none 0 0, .slice none 0 0, .slice none 0 0, .slice none 0 0, .int .i64 0, .int .u64 0, .int .i64 0] 31
  rw [World.size_alloc] at D2
  have hbw : Below w.heap.size w ((w.alloc (.cells #[.slice of n kf, .slice or' r kr, .slice om m km, .slice og q kg, .int .i64 tx, .int .u64 dx, .int .i64 sx] 31)).alloc (.cells #[.slice none 0 0, .slice none 0 0, .slice none 0 0, .slice none 0 0, .int .i64 0, .int .u64 0, .int .i64 0] 31)) := (by repeat (first | with_reducible exact Below.refl _ _ | with_reducible refine Below.drew ?_ | (with_reducible refine Below.alloc ?_ (by first | exact Nat.le_refl _ | omega | (dsimp only; omega) | (simp only [sizes]; omega)) _) | (with_reducible refine Below.setCell ?_ (by first | exact Nat.le_refl _ | omega | (dsimp only; omega) | (simp only [sizes]; omega)) _) | (refine Below.trans ?_ (Below.mono (by with_reducible assumption) (by first | exact Nat.le_refl _ | omega | (dsimp only; omega) | (simp only [sizes]; omega))))))
  have HOK := Lib.hid hok; clear hok
  have HAT := Lib.hid hat; clear hat
  have HG := Lib.hid hg; clear hg
  have HL := Lib.hid hl; clear hl
  have HF := Lib.hid hf; clear hf
  have HTT := Lib.hid ht; clear ht
  have HCO := Lib.hid hcl; clear hcl
  have HCP := Lib.hid hclP; clear hclP
  have HCE := Lib.hid hcle; clear hcle
  have HZC := Lib.hid ZC; clear ZC
  have HNC := Lib.hid NC; clear NC
  have HDD := Lib.hid hd
  have hd1 : ((d.size : Int) != 128) = false := by rw [hd]; rfl
  have hd2 : (d.size != 128) = false := by rw [hd]; rfl
  clear hd
  have HGO := Lib.hid hgo; clear hgo hgp hi
  have hz0 : w.heap.size + 1 + 1 = ((w.alloc (.cells #[.slice of n kf, .slice or' r kr, .slice om m km, .slice og q kg, .int .i64 tx, .int .u64 dx, .int .i64 sx] 31)).alloc (.cells #[.slice none 0 0, .slice none 0 0, .slice none 0 0, .slice none 0 0, .int .i64 0, .int .u64 0, .int .i64 0] 31)).heap.size := by simp only [sizes]
  go_enter Try.func12, Try.ntmps12
  obtain ⟨D1_c, D1_f, D1_z⟩ := D1.all
  go_wp2_with fail
  clear D1_c D1_f D1_z
  with_reducible refine (HCL.out _ _ (HVA.out _ hbw)).mono ?_
  rintro e w1 ⟨of1, or1, om1, og1, kf1', kr1', km1', kg1', us1, gs1, rfl, O1, hb1⟩
  rw [HN.out, HR.out, HM.out, HQ.out] at O1 ⊢
  rw [HT.out, HD.out, HS.out]
  replace O1 := O1.lower (base' := w.heap.size + 1 + 1) (Nat.le_of_eq hz0)
  have hz1 := hb1.size
  rw [← hz0] at hz1
  replace D1 := D1.below hb1
  replace D2 := D2.below hb1
  replace hbw := hbw.trans (hb1.mono hbw.size)
  clear hb1 hz0
  obtain ⟨D1_c, D1_f, D1_z⟩ := D1.all
  go_wp2_with fail
  clear D1_c D1_f D1_z
  have hbx : Below w1.heap.size w1 (w1.alloc (.cells #[.slice of1 n kf1', .slice or1 r kr1', .slice om1 m km1', .slice og1 q kg1', .int .i64 tx, .int .u64 dx, .int .i64 sx] 31)) := (Below.refl _ _).alloc (Nat.le_refl _) _
  have DR := HasBlock.made w1 #[.slice of1 n kf1', .slice or1 r kr1', .slice om1 m km1', .slice og1 q kg1', .int .i64 tx, .int .u64 dx, .int .i64 sx] 31
  replace D1 := D1.below hbx
  replace D2 := D2.below hbx
  replace O1 := O1.below hbx
  replace hbw := hbw.trans (hbx.mono hbw.size)
  have hz2 := hbx.size
  clear hbx
  generalize hW : w1.alloc (.cells #[.slice of1 n kf1', .slice or1 r kr1', .slice om1 m km1', .slice og1 q kg1', .int .i64 tx, .int .u64 dx, .int .i64 sx] 31) = w2 at D1 D2 DR O1 hbw hz2 ⊢
  obtain ⟨B, hB⟩ : ∃ B, w1.heap.size = B := ⟨_, rfl⟩
  rw [hB] at DR hz1 hz2 ⊢
  clear hW hB
  have hBA : w.heap.size + 1 + 1 ≤ B := hz1
  with_reducible refine (HHS.out _ _ (HVA.out _ hbw)).mono ?_
  rintro e w3 ⟨rfl, hb3⟩
  replace D1 := D1.below hb3
  replace D2 := D2.below hb3
  replace DR := DR.below hb3
  replace O1 := O1.below hb3
  replace hbw := hbw.trans (hb3.mono hbw.size)
  replace hz2 := Nat.le_trans hz2 hb3.size
  clear hb3
  have hzz : w.heap.size + 1 + 1 ≤ w3.heap.size := Nat.le_trans hBA hz2
  have hA : HostAt (w.heap.size + 1 + 1) B w3 H := HostAt.mk HN.out HR.out HM.out HQ.out HT.out HD.out HS.out DR O1
  obtain ⟨bG, cG, y, so, sc, uo, uc, eo, ec, e0, b1, b2, hy, ys, yu, ye, _, cg2, _, sc2, _, uc2, _, ec2, cs, cfz⟩ := O1.guest HG.out
  injection e0 with e0 e9 e10
  subst e0 e10
  clear e9
  obtain ⟨ys1, yu1, ye1⟩ := y
  dsimp only at ys yu ye
  subst ys yu ye
  obtain ⟨rs1, _, _⟩ := O1.r i _ g hy HG.out
  dsimp only at rs1
  have c5 : w3.cell? ⟨bG, i * 9 + 5, none⟩ = _ := cs 5 _ rfl
  dsimp only at c5
  rw [HGO.out.ls] at c5 rs1 hy
  clear cs cfz
  obtain ⟨ql, hql⟩ : ∃ k, l.length = k := ⟨_, rfl⟩
  rw [hql] at hp c5 hll rs1 hy
  have HQL := Lib.hid hql; clear hql
  have hiq : i < q := by rw [← HQ.out]; exact lt_of_get HG.out
  have i0 : (0 : Int) ≤ (i : Int) := by omega
  have iq : (i : Int) < (q : Int) := by omega
  have p0 : (0 : Int) ≤ (p : Int) := by omega
  have pq : (p : Int) < (ql : Int) := by omega
  have hii := isEmpty_iff t
  obtain ⟨gS, rfl, gs1', gs2'⟩ := rs1.addr (by rw [HGO.out.ls, HQL.out]) (by omega)
  obtain ⟨cS, fS⟩ := rs1.at HTT.out
  have hnSB : gS ≠ B := fun e => own_off rs1 DR (by decide) (by rw [e]; rfl)
  have hn1 : B ≠ gS := fun e => hnSB e.symm
  have HA := Lib.hid hA; clear hA
  have Oc := O1.putS HG.out hy rfl p ⟨#[]⟩
  have Dc := DR.set_ne hn1 (j := p) (.string ⟨#[]⟩)
  have hAc := HostAt.mk (H := H.setG i { g with s := g.s.set p ⟨#[]⟩ }) HN.out HR.out HM.out ((List.length_set ..).trans HQ.out) HT.out HD.out HS.out Dc Oc
  rw [← HCE.out] at hAc
  rw [← HCE.out] at Oc
  have hbb : Below (w.heap.size + 1 + 1) w3 (World.setCell w3 ⟨gS, p, none⟩ (.string ⟨#[]⟩)) := (Below.refl _ _).setCell (p := ⟨gS, p, none⟩) gs1' _
  obtain ⟨DR_c, DR_f, DR_z⟩ := DR.all
  go_wp2_with fail
  clear DR_c DR_f DR_z
  generalize hW : World.setCell w3 ⟨gS, p, none⟩ (.string ⟨#[]⟩) = w4 at hAc hbb Oc Dc ⊢
  clear hW
  obtain ⟨C, hC⟩ : ∃ C, H.clear i p = C := ⟨_, rfl⟩
  rw [hC] at hAc Oc HCO HCP HNC
  have HC := Lib.hid hC; clear hC
  have hCat : C.P.at i p := by rw [HCP.out]; exact HAT.out
  have HCA := Lib.hid hCat; clear hCat
  have HAC := Lib.hid hAc; clear hAc Oc Dc O1 DR c5 cS fS rs1 hy
  with_reducible refine (HZC.out _).mono ?_
  rintro e w5 ⟨rfl, hb5⟩
  have hz4 : w.heap.size + 1 + 1 ≤ w4.heap.size := Nat.le_trans hzz hbb.size
  replace hbb := hbb.trans (hb5.mono hz4)
  have HAD := Lib.hid (HAC.out.below hb5); clear HAC hb5
  obtain ⟨zb, hzb⟩ : ∃ b, zeroB d = b := ⟨_, rfl⟩
  rw [hzb]
  have HZB := Lib.hid hzb; clear hzb
  cases zb
  · obtain ⟨nb, hnb⟩ : ∃ b, H.P.need i p = b := ⟨_, rfl⟩
    rw [hnb] at HNC
    have HNB := Lib.hid hnb; clear hnb
    have hAD := HAD.out
    obtain ⟨of6, or6, om6, og6, kf6, kr6, km6, kg6, us6, gs6, D6, O6⟩ := hAD
    have hv6 := O6.at_
    have HV6 := Lib.hid hv6; clear hv6 O6
    cases nb
    · obtain ⟨D6_c, D6_f, D6_z⟩ := D6.all
      go_wp2_with fail
      clear D6_c D6_f D6_z
      with_reducible refine (HNC.out _ _ HV6.out).mono ?_
      rintro e w6 ⟨rfl, hb6⟩
      replace hbb := hbb.trans (hb6.mono (Nat.le_trans hzz hbb.size))
      have HA6 := Lib.hid (HAD.out.below hb6)
      clear hb6 D6 HAD
      have hwokC : C.P.wok i p d = true := wok_of_need HCO.out.p HCA.out (by rw [HCP.out]; exact HNB.out) HDD.out
      have HWC := Lib.hid hwokC; clear hwokC
      have hokK := HCO.out
      have hatK := HCA.out
      have hwokK := HWC.out
      have hzA := Nat.le_trans hzz hbb.size
      obtain ⟨gK, hgK⟩ := get_lt (hokK.at_lt hatK)
      have hgKp := hokK.gmP hgK
      have WRc := fun v' w h => pwrite_own v' C.P i p d w h hokK.p.fit hokK.p.small
      rw [hwokK] at WRc
      obtain ⟨we1, we2⟩ := Pl.wr_eq hokK.p hatK HDD.out
      rw [we2] at hwokK
      have WL := (Pl.wr_law hokK.p hatK HDD.out).1 hwokK
      rw [← we1] at WL
      obtain ⟨P2, hP2⟩ : ∃ P, C.P.wr i p d = P := ⟨_, rfl⟩
      rw [hP2] at WRc WL
      have hrows : ∃ lX fX, P2.M[i]? = some lX ∧ lX[p]? = some fX ∧ gK.u.length = lX.length ∧ gK.e.length = lX.length ∧ lX.length ≤ 32 := by
        obtain ⟨lX, fX, hlX, hfX⟩ := (WL.al.at i p).2 hatK
        have hpl := WL.al.pg i
        rw [Pl.pages_eq hlX] at hpl
        refine ⟨lX, fX, hlX, hfX, ?_, ?_, (WL.ok.l lX (mem_at hlX)).2⟩
        · rw [hpl]; exact hgKp.lu
        · rw [hpl]; exact hgKp.le
      obtain ⟨of4, or4, om4, og4, kf4, kr4, km4, kg4, us4, gs4, D4, O4⟩ := HA6.out
      obtain ⟨nK, hnK⟩ : ∃ n, C.P.F.length = n := ⟨_, rfl⟩
      obtain ⟨rK, hrK⟩ : ∃ n, C.P.R.length = n := ⟨_, rfl⟩
      obtain ⟨mK, hmK⟩ : ∃ n, C.P.M.length = n := ⟨_, rfl⟩
      obtain ⟨qK, hqK⟩ : ∃ n, C.G.length = n := ⟨_, rfl⟩
      obtain ⟨tK, htK⟩ : ∃ n, C.t = n := ⟨_, rfl⟩
      obtain ⟨dK, hdK⟩ : ∃ n, C.d = n := ⟨_, rfl⟩
      obtain ⟨sK, hsK⟩ : ∃ n, C.n = n := ⟨_, rfl⟩
      rw [hnK, hrK, hmK, hqK] at D4 O4
      rw [htK, hdK, hsK] at D4
      have HWR := Lib.hid WRc; clear WRc
      have HGK := Lib.hid hgK; clear hgK
      have HX4 := Lib.hid (And.intro htK (And.intro hdK (And.intro hsK hqK))); clear htK hdK hsK hqK hnK hrK hmK
      have HRW := Lib.hid hrows; clear hrows
      have HP2 := Lib.hid hP2; clear hP2
      clear hokK hatK hwokK hgKp we1 we2 WL
      obtain ⟨D4_c, D4_f, D4_z⟩ := D4.all
      go_wp2_with fail
      clear D4_c D4_f D4_z
      with_reducible refine (HWR.out _ _ O4.row.p).mono ?_
      rintro e w8 ⟨of5, or5, om5, kf5, kr5, km5, us5, rfl, O5, hb8⟩
      obtain ⟨n5, hgn⟩ : ∃ n, (Pl.F P2).length = n := ⟨_, rfl⟩
      obtain ⟨r5, hgr⟩ : ∃ n, (Pl.R P2).length = n := ⟨_, rfl⟩
      obtain ⟨m5, hgm⟩ : ∃ n, (Pl.M P2).length = n := ⟨_, rfl⟩
      rw [hgn, hgr, hgm] at O5 ⊢
      have HG5 := Lib.hid (And.intro hgn (And.intro hgr hgm))
      clear hgn hgr hgm
      have D5 := D4.below hb8
      obtain ⟨D5_c, D5_f, D5_z⟩ := D5.all
      go_wp2_with fail
      clear D5_c D5_f D5_z
      have O4b := O4.below hb8
      have Oa := O4b.newPool (O5.lower hzA) O4.ltG O5.ge
      have Ob := (((Oa.setbox (j := 0) D5 hostT (.slice of5 n5 kf5)).setbox (j := 1) (D5.put7_0 (.slice of5 n5 kf5)) hostT (.slice or5 r5 kr5)).setbox (j := 2) ((D5.put7_0 (.slice of5 n5 kf5)).put7_1 (.slice or5 r5 kr5)) hostT (.slice om5 m5 km5)).alloc (.cells #[.slice of5 n5 kf5, .slice or5 r5 kr5, .slice om5 m5 km5] 27)
      have Dc := (D5.poolIn (.slice of5 n5 kf5) (.slice or5 r5 kr5) (.slice om5 m5 km5)).alloc (.cells #[.slice of5 n5 kf5, .slice or5 r5 kr5, .slice om5 m5 km5] 27)
      have hbb8 := hbb.trans (hb8.mono hzA)
      have hbe := (((hbb8.setCell (p := ⟨B, 0, none⟩) hBA (.slice of5 n5 kf5)).setCell (p := ⟨B, 1, none⟩) hBA (.slice or5 r5 kr5)).setCell (p := ⟨B, 2, none⟩) hBA (.slice om5 m5 km5)).alloc (Nat.le_trans hzz (by simp only [sizes]; exact hbb8.size)) (.cells #[.slice of5 n5 kf5, .slice or5 r5 kr5, .slice om5 m5 km5] 27)
      have HAE := HostAt.mk (H := C.setP P2) HG5.out.1 HG5.out.2.1 HG5.out.2.2 HX4.out.2.2.2 HX4.out.1 HX4.out.2.1 HX4.out.2.2.1 Dc Ob
      generalize hW : ((((World.setCell w8 ⟨B, 0, none⟩ (.slice of5 n5 kf5)).setCell ⟨B, 1, none⟩ (.slice or5 r5 kr5)).setCell ⟨B, 2, none⟩ (.slice om5 m5 km5)).alloc (.cells #[.slice of5 n5 kf5, .slice or5 r5 kr5, .slice om5 m5 km5] 27)) = wq at HAE hbe ⊢
      clear hW Oa Ob Dc hbb hbb8 O4b O4 O5 D4 D5 hb8
      have hbb := hbe
      clear hbe
      have hzB := hbb.size
      obtain ⟨lX, fX, hlX, hfX, huX, heX, hlX32⟩ := HRW.out
      have hmk := hmark_ok (w.heap.size + 1 + 1) B (C.setP P2) i p wq HAE gK lX fX HGK.out hlX hfX huX heX hlX32 (Nat.le_trans hzz hzB)
      have HMK := Lib.hid hmk; clear hmk HAE hlX hfX huX heX hlX32 HRW
      with_reducible refine HMK.out.mono ?_
      rintro e wm ⟨rfl, hAm, hbm⟩
      replace hbb := hbb.trans hbm
      obtain ⟨of9, or9, om9, og9, kf9, kr9, km9, kg9, us9, gs9, D9, O9⟩ := hAm
      have D29 := D2.under' hbb (by omega)
      obtain ⟨Hx, hHx⟩ : ∃ Hx, (C.setP P2).mark i p = Hx := ⟨_, rfl⟩
      rw [hHx] at D9 O9
      have HHX := Lib.hid hHx; clear hHx
      obtain ⟨n9, hn9⟩ : ∃ n, Hx.P.F.length = n := ⟨_, rfl⟩
      obtain ⟨r9, hr9⟩ : ∃ n, Hx.P.R.length = n := ⟨_, rfl⟩
      obtain ⟨m9, hm9⟩ : ∃ n, Hx.P.M.length = n := ⟨_, rfl⟩
      obtain ⟨q9, hq9⟩ : ∃ n, Hx.G.length = n := ⟨_, rfl⟩
      obtain ⟨t9, ht9⟩ : ∃ n, Hx.t = n := ⟨_, rfl⟩
      obtain ⟨d9, hd9⟩ : ∃ n, Hx.d = n := ⟨_, rfl⟩
      obtain ⟨s9, hs9⟩ : ∃ n, Hx.n = n := ⟨_, rfl⟩
      rw [hn9, hr9, hm9, hq9] at O9 D9
      rw [ht9, hd9, hs9] at D9
      have H9 := Lib.hid (And.intro hn9 (And.intro hr9 (And.intro hm9 (And.intro hq9 (And.intro ht9 (And.intro hd9 hs9)))))); clear hn9 hr9 hm9 hq9 ht9 hd9 hs9
      obtain ⟨D9_c, D9_f, D9_z⟩ := D9.all
      obtain ⟨D29_c, D29_f, D29_z⟩ := D29.all
      have nB : w.heap.size + 1 ≠ B := by omega
      go_wp2_with fail
      refine bodyPost_ret (v := .tuple #[.agg #[.slice of9 n9 kf9, .slice or9 r9 kr9, .slice om9 m9 km9, .slice og9 q9 kg9, .int .i64 t9, .int .u64 d9, .int .i64 s9], .int .i64 0]) (by simp [results, Try.results12, go_sem, D29_c]) rfl ?_
      refine ⟨Hx, ⟨C, .inr ⟨.inr HNB.out, HC.out.symm⟩, by rw [HP2.out]; exact HHX.out.symm⟩, ?_⟩
      exact hoRet' (k := fun v => .tuple #[v, .int .i64 0]) H9.out.1 H9.out.2.1 H9.out.2.2.1 H9.out.2.2.2.1 H9.out.2.2.2.2.1 H9.out.2.2.2.2.2.1 H9.out.2.2.2.2.2.2 (O9.fill7 (by omega) _ _ _ _ _ _ _) (Below.fill7 (hbw.trans (hbb.mono (by omega))) (by omega) _ _ _ _ _ _ _)
    · obtain ⟨D6_c, D6_f, D6_z⟩ := D6.all
      go_wp2_with fail
      clear D6_c D6_f D6_z
      with_reducible refine (HNC.out _ _ HV6.out).mono ?_
      rintro e w6 ⟨rfl, hb6⟩
      replace hbb := hbb.trans (hb6.mono (Nat.le_trans hzz hbb.size))
      have HA6 := Lib.hid (HAD.out.below hb6)
      clear hb6 D6 HAD
      go_wp2_with fail
      have hz6 := Nat.le_trans hzz hbb.size
      with_reducible refine (hroom_ok (w.heap.size + 1 + 1) B C i p w6 HA6.out hBA HCO.out HCA.out hz6).mono ?_
      rintro e w7 ⟨rfl, ⟨K, hrm, hKo, hK⟩, hbR⟩
      replace hbb := hbb.trans hbR
      obtain ⟨hke, hfull⟩ := hrm.kept HCO.out HCA.out
      have hKat := (hke.al.at i p).2 HCA.out
      have hwokR := wok_of_full hKo.p hKat hfull HDD.out
      have HKO := Lib.hid hKo; clear hKo
      have HKA := Lib.hid hKat; clear hKat
      have HWC := Lib.hid hwokR; clear hwokR
      have HRM := Lib.hid hrm; clear hrm
      have HAK := Lib.hid hK; clear hK hke hfull hbR HA6
      have hokK := HKO.out
      have hatK := HKA.out
      have hwokK := HWC.out
      have hzA := Nat.le_trans hzz hbb.size
      obtain ⟨gK, hgK⟩ := get_lt (hokK.at_lt hatK)
      have hgKp := hokK.gmP hgK
      have WRc := fun v' w h => pwrite_own v' K.P i p d w h hokK.p.fit hokK.p.small
      rw [hwokK] at WRc
      obtain ⟨we1, we2⟩ := Pl.wr_eq hokK.p hatK HDD.out
      rw [we2] at hwokK
      have WL := (Pl.wr_law hokK.p hatK HDD.out).1 hwokK
      rw [← we1] at WL
      obtain ⟨P2, hP2⟩ : ∃ P, K.P.wr i p d = P := ⟨_, rfl⟩
      rw [hP2] at WRc WL
      have hrows : ∃ lX fX, P2.M[i]? = some lX ∧ lX[p]? = some fX ∧ gK.u.length = lX.length ∧ gK.e.length = lX.length ∧ lX.length ≤ 32 := by
        obtain ⟨lX, fX, hlX, hfX⟩ := (WL.al.at i p).2 hatK
        have hpl := WL.al.pg i
        rw [Pl.pages_eq hlX] at hpl
        refine ⟨lX, fX, hlX, hfX, ?_, ?_, (WL.ok.l lX (mem_at hlX)).2⟩
        · rw [hpl]; exact hgKp.lu
        · rw [hpl]; exact hgKp.le
      obtain ⟨of4, or4, om4, og4, kf4, kr4, km4, kg4, us4, gs4, D4, O4⟩ := HAK.out
      obtain ⟨nK, hnK⟩ : ∃ n, K.P.F.length = n := ⟨_, rfl⟩
      obtain ⟨rK, hrK⟩ : ∃ n, K.P.R.length = n := ⟨_, rfl⟩
      obtain ⟨mK, hmK⟩ : ∃ n, K.P.M.length = n := ⟨_, rfl⟩
      obtain ⟨qK, hqK⟩ : ∃ n, K.G.length = n := ⟨_, rfl⟩
      obtain ⟨tK, htK⟩ : ∃ n, K.t = n := ⟨_, rfl⟩
      obtain ⟨dK, hdK⟩ : ∃ n, K.d = n := ⟨_, rfl⟩
      obtain ⟨sK, hsK⟩ : ∃ n, K.n = n := ⟨_, rfl⟩
      rw [hnK, hrK, hmK, hqK] at D4 O4
      rw [htK, hdK, hsK] at D4
      have HWR := Lib.hid WRc; clear WRc
      have HGK := Lib.hid hgK; clear hgK
      have HX4 := Lib.hid (And.intro htK (And.intro hdK (And.intro hsK hqK))); clear htK hdK hsK hqK hnK hrK hmK
      have HRW := Lib.hid hrows; clear hrows
      have HP2 := Lib.hid hP2; clear hP2
      clear hokK hatK hwokK hgKp we1 we2 WL
      obtain ⟨D4_c, D4_f, D4_z⟩ := D4.all
      go_wp2_with fail
      clear D4_c D4_f D4_z
      with_reducible refine (HWR.out _ _ O4.row.p).mono ?_
      rintro e w8 ⟨of5, or5, om5, kf5, kr5, km5, us5, rfl, O5, hb8⟩
      obtain ⟨n5, hgn⟩ : ∃ n, (Pl.F P2).length = n := ⟨_, rfl⟩
      obtain ⟨r5, hgr⟩ : ∃ n, (Pl.R P2).length = n := ⟨_, rfl⟩
      obtain ⟨m5, hgm⟩ : ∃ n, (Pl.M P2).length = n := ⟨_, rfl⟩
      rw [hgn, hgr, hgm] at O5 ⊢
      have HG5 := Lib.hid (And.intro hgn (And.intro hgr hgm))
      clear hgn hgr hgm
      have D5 := D4.below hb8
      obtain ⟨D5_c, D5_f, D5_z⟩ := D5.all
      go_wp2_with fail
      clear D5_c D5_f D5_z
      have O4b := O4.below hb8
      have Oa := O4b.newPool (O5.lower hzA) O4.ltG O5.ge
      have Ob := (((Oa.setbox (j := 0) D5 hostT (.slice of5 n5 kf5)).setbox (j := 1) (D5.put7_0 (.slice of5 n5 kf5)) hostT (.slice or5 r5 kr5)).setbox (j := 2) ((D5.put7_0 (.slice of5 n5 kf5)).put7_1 (.slice or5 r5 kr5)) hostT (.slice om5 m5 km5)).alloc (.cells #[.slice of5 n5 kf5, .slice or5 r5 kr5, .slice om5 m5 km5] 27)
      have Dc := (D5.poolIn (.slice of5 n5 kf5) (.slice or5 r5 kr5) (.slice om5 m5 km5)).alloc (.cells #[.slice of5 n5 kf5, .slice or5 r5 kr5, .slice om5 m5 km5] 27)
      have hbb8 := hbb.trans (hb8.mono hzA)
      have hbe := (((hbb8.setCell (p := ⟨B, 0, none⟩) hBA (.slice of5 n5 kf5)).setCell (p := ⟨B, 1, none⟩) hBA (.slice or5 r5 kr5)).setCell (p := ⟨B, 2, none⟩) hBA (.slice om5 m5 km5)).alloc (Nat.le_trans hzz (by simp only [sizes]; exact hbb8.size)) (.cells #[.slice of5 n5 kf5, .slice or5 r5 kr5, .slice om5 m5 km5] 27)
      have HAE := HostAt.mk (H := K.setP P2) HG5.out.1 HG5.out.2.1 HG5.out.2.2 HX4.out.2.2.2 HX4.out.1 HX4.out.2.1 HX4.out.2.2.1 Dc Ob
      generalize hW : ((((World.setCell w8 ⟨B, 0, none⟩ (.slice of5 n5 kf5)).setCell ⟨B, 1, none⟩ (.slice or5 r5 kr5)).setCell ⟨B, 2, none⟩ (.slice om5 m5 km5)).alloc (.cells #[.slice of5 n5 kf5, .slice or5 r5 kr5, .slice om5 m5 km5] 27)) = wq at HAE hbe ⊢
      clear hW Oa Ob Dc hbb hbb8 O4b O4 O5 D4 D5 hb8
      have hbb := hbe
      clear hbe
      have hzB := hbb.size
      obtain ⟨lX, fX, hlX, hfX, huX, heX, hlX32⟩ := HRW.out
      have hmk := hmark_ok (w.heap.size + 1 + 1) B (K.setP P2) i p wq HAE gK lX fX HGK.out hlX hfX huX heX hlX32 (Nat.le_trans hzz hzB)
      have HMK := Lib.hid hmk; clear hmk HAE hlX hfX huX heX hlX32 HRW
      with_reducible refine HMK.out.mono ?_
      rintro e wm ⟨rfl, hAm, hbm⟩
      replace hbb := hbb.trans hbm
      obtain ⟨of9, or9, om9, og9, kf9, kr9, km9, kg9, us9, gs9, D9, O9⟩ := hAm
      have D29 := D2.under' hbb (by omega)
      obtain ⟨Hx, hHx⟩ : ∃ Hx, (K.setP P2).mark i p = Hx := ⟨_, rfl⟩
      rw [hHx] at D9 O9
      have HHX := Lib.hid hHx; clear hHx
      obtain ⟨n9, hn9⟩ : ∃ n, Hx.P.F.length = n := ⟨_, rfl⟩
      obtain ⟨r9, hr9⟩ : ∃ n, Hx.P.R.length = n := ⟨_, rfl⟩
      obtain ⟨m9, hm9⟩ : ∃ n, Hx.P.M.length = n := ⟨_, rfl⟩
      obtain ⟨q9, hq9⟩ : ∃ n, Hx.G.length = n := ⟨_, rfl⟩
      obtain ⟨t9, ht9⟩ : ∃ n, Hx.t = n := ⟨_, rfl⟩
      obtain ⟨d9, hd9⟩ : ∃ n, Hx.d = n := ⟨_, rfl⟩
      obtain ⟨s9, hs9⟩ : ∃ n, Hx.n = n := ⟨_, rfl⟩
      rw [hn9, hr9, hm9, hq9] at O9 D9
      rw [ht9, hd9, hs9] at D9
      have H9 := Lib.hid (And.intro hn9 (And.intro hr9 (And.intro hm9 (And.intro hq9 (And.intro ht9 (And.intro hd9 hs9)))))); clear hn9 hr9 hm9 hq9 ht9 hd9 hs9
      obtain ⟨D9_c, D9_f, D9_z⟩ := D9.all
      obtain ⟨D29_c, D29_f, D29_z⟩ := D29.all
      have nB : w.heap.size + 1 ≠ B := by omega
      go_wp2_with fail
      refine bodyPost_ret (v := .tuple #[.agg #[.slice of9 n9 kf9, .slice or9 r9 kr9, .slice om9 m9 km9, .slice og9 q9 kg9, .int .i64 t9, .int .u64 d9, .int .i64 s9], .int .i64 0]) (by simp [results, Try.results12, go_sem, D29_c]) rfl ?_
      refine ⟨Hx, ⟨K, .inl ⟨HZB.out, HNB.out, by rw [HC.out]; exact HRM.out⟩, by rw [HP2.out]; exact HHX.out.symm⟩, ?_⟩
      exact hoRet' (k := fun v => .tuple #[v, .int .i64 0]) H9.out.1 H9.out.2.1 H9.out.2.2.1 H9.out.2.2.2.1 H9.out.2.2.2.2.1 H9.out.2.2.2.2.2.1 H9.out.2.2.2.2.2.2 (O9.fill7 (by omega) _ _ _ _ _ _ _) (Below.fill7 (hbw.trans (hbb.mono (by omega))) (by omega) _ _ _ _ _ _ _)
  · have hwokZ : C.P.wok i p d = true := by
      rw [(Pl.wr_eq HCO.out.p HCA.out HDD.out).2]
      unfold Pl.wok'
      rw [HZB.out]
      rfl
    have HWC := Lib.hid hwokZ; clear hwokZ
    have hokK := HCO.out
    have hatK := HCA.out
    have hwokK := HWC.out
    have hzA := Nat.le_trans hzz hbb.size
    obtain ⟨gK, hgK⟩ := get_lt (hokK.at_lt hatK)
    have hgKp := hokK.gmP hgK
    have WRc := fun v' w h => pwrite_own v' C.P i p d w h hokK.p.fit hokK.p.small
    rw [hwokK] at WRc
    obtain ⟨we1, we2⟩ := Pl.wr_eq hokK.p hatK HDD.out
    rw [we2] at hwokK
    have WL := (Pl.wr_law hokK.p hatK HDD.out).1 hwokK
    rw [← we1] at WL
    obtain ⟨P2, hP2⟩ : ∃ P, C.P.wr i p d = P := ⟨_, rfl⟩
    rw [hP2] at WRc WL
    have hrows : ∃ lX fX, P2.M[i]? = some lX ∧ lX[p]? = some fX ∧ gK.u.length = lX.length ∧ gK.e.length = lX.length ∧ lX.length ≤ 32 := by
      obtain ⟨lX, fX, hlX, hfX⟩ := (WL.al.at i p).2 hatK
      have hpl := WL.al.pg i
      rw [Pl.pages_eq hlX] at hpl
      refine ⟨lX, fX, hlX, hfX, ?_, ?_, (WL.ok.l lX (mem_at hlX)).2⟩
      · rw [hpl]; exact hgKp.lu
      · rw [hpl]; exact hgKp.le
    obtain ⟨of4, or4, om4, og4, kf4, kr4, km4, kg4, us4, gs4, D4, O4⟩ := HAD.out
    obtain ⟨nK, hnK⟩ : ∃ n, C.P.F.length = n := ⟨_, rfl⟩
    obtain ⟨rK, hrK⟩ : ∃ n, C.P.R.length = n := ⟨_, rfl⟩
    obtain ⟨mK, hmK⟩ : ∃ n, C.P.M.length = n := ⟨_, rfl⟩
    obtain ⟨qK, hqK⟩ : ∃ n, C.G.length = n := ⟨_, rfl⟩
    obtain ⟨tK, htK⟩ : ∃ n, C.t = n := ⟨_, rfl⟩
    obtain ⟨dK, hdK⟩ : ∃ n, C.d = n := ⟨_, rfl⟩
    obtain ⟨sK, hsK⟩ : ∃ n, C.n = n := ⟨_, rfl⟩
    rw [hnK, hrK, hmK, hqK] at D4 O4
    rw [htK, hdK, hsK] at D4
    have HWR := Lib.hid WRc; clear WRc
    have HGK := Lib.hid hgK; clear hgK
    have HX4 := Lib.hid (And.intro htK (And.intro hdK (And.intro hsK hqK))); clear htK hdK hsK hqK hnK hrK hmK
    have HRW := Lib.hid hrows; clear hrows
    have HP2 := Lib.hid hP2; clear hP2
    clear hokK hatK hwokK hgKp we1 we2 WL
    obtain ⟨D4_c, D4_f, D4_z⟩ := D4.all
    go_wp2_with fail
    clear D4_c D4_f D4_z
    with_reducible refine (HWR.out _ _ O4.row.p).mono ?_
    rintro e w8 ⟨of5, or5, om5, kf5, kr5, km5, us5, rfl, O5, hb8⟩
    obtain ⟨n5, hgn⟩ : ∃ n, (Pl.F P2).length = n := ⟨_, rfl⟩
    obtain ⟨r5, hgr⟩ : ∃ n, (Pl.R P2).length = n := ⟨_, rfl⟩
    obtain ⟨m5, hgm⟩ : ∃ n, (Pl.M P2).length = n := ⟨_, rfl⟩
    rw [hgn, hgr, hgm] at O5 ⊢
    have HG5 := Lib.hid (And.intro hgn (And.intro hgr hgm))
    clear hgn hgr hgm
    have D5 := D4.below hb8
    obtain ⟨D5_c, D5_f, D5_z⟩ := D5.all
    go_wp2_with fail
    clear D5_c D5_f D5_z
    have O4b := O4.below hb8
    have Oa := O4b.newPool (O5.lower hzA) O4.ltG O5.ge
    have Ob := (((Oa.setbox (j := 0) D5 hostT (.slice of5 n5 kf5)).setbox (j := 1) (D5.put7_0 (.slice of5 n5 kf5)) hostT (.slice or5 r5 kr5)).setbox (j := 2) ((D5.put7_0 (.slice of5 n5 kf5)).put7_1 (.slice or5 r5 kr5)) hostT (.slice om5 m5 km5)).alloc (.cells #[.slice of5 n5 kf5, .slice or5 r5 kr5, .slice om5 m5 km5] 27)
    have Dc := (D5.poolIn (.slice of5 n5 kf5) (.slice or5 r5 kr5) (.slice om5 m5 km5)).alloc (.cells #[.slice of5 n5 kf5, .slice or5 r5 kr5, .slice om5 m5 km5] 27)
    have hbb8 := hbb.trans (hb8.mono hzA)
    have hbe := (((hbb8.setCell (p := ⟨B, 0, none⟩) hBA (.slice of5 n5 kf5)).setCell (p := ⟨B, 1, none⟩) hBA (.slice or5 r5 kr5)).setCell (p := ⟨B, 2, none⟩) hBA (.slice om5 m5 km5)).alloc (Nat.le_trans hzz (by simp only [sizes]; exact hbb8.size)) (.cells #[.slice of5 n5 kf5, .slice or5 r5 kr5, .slice om5 m5 km5] 27)
    have HAE := HostAt.mk (H := C.setP P2) HG5.out.1 HG5.out.2.1 HG5.out.2.2 HX4.out.2.2.2 HX4.out.1 HX4.out.2.1 HX4.out.2.2.1 Dc Ob
    generalize hW : ((((World.setCell w8 ⟨B, 0, none⟩ (.slice of5 n5 kf5)).setCell ⟨B, 1, none⟩ (.slice or5 r5 kr5)).setCell ⟨B, 2, none⟩ (.slice om5 m5 km5)).alloc (.cells #[.slice of5 n5 kf5, .slice or5 r5 kr5, .slice om5 m5 km5] 27)) = wq at HAE hbe ⊢
    clear hW Oa Ob Dc hbb hbb8 O4b O4 O5 D4 D5 hb8
    have hbb := hbe
    clear hbe
    have hzB := hbb.size
    obtain ⟨lX, fX, hlX, hfX, huX, heX, hlX32⟩ := HRW.out
    have hmk := hmark_ok (w.heap.size + 1 + 1) B (C.setP P2) i p wq HAE gK lX fX HGK.out hlX hfX huX heX hlX32 (Nat.le_trans hzz hzB)
    have HMK := Lib.hid hmk; clear hmk HAE hlX hfX huX heX hlX32 HRW
    with_reducible refine HMK.out.mono ?_
    rintro e wm ⟨rfl, hAm, hbm⟩
    replace hbb := hbb.trans hbm
    obtain ⟨of9, or9, om9, og9, kf9, kr9, km9, kg9, us9, gs9, D9, O9⟩ := hAm
    have D29 := D2.under' hbb (by omega)
    obtain ⟨Hx, hHx⟩ : ∃ Hx, (C.setP P2).mark i p = Hx := ⟨_, rfl⟩
    rw [hHx] at D9 O9
    have HHX := Lib.hid hHx; clear hHx
    obtain ⟨n9, hn9⟩ : ∃ n, Hx.P.F.length = n := ⟨_, rfl⟩
    obtain ⟨r9, hr9⟩ : ∃ n, Hx.P.R.length = n := ⟨_, rfl⟩
    obtain ⟨m9, hm9⟩ : ∃ n, Hx.P.M.length = n := ⟨_, rfl⟩
    obtain ⟨q9, hq9⟩ : ∃ n, Hx.G.length = n := ⟨_, rfl⟩
    obtain ⟨t9, ht9⟩ : ∃ n, Hx.t = n := ⟨_, rfl⟩
    obtain ⟨d9, hd9⟩ : ∃ n, Hx.d = n := ⟨_, rfl⟩
    obtain ⟨s9, hs9⟩ : ∃ n, Hx.n = n := ⟨_, rfl⟩
    rw [hn9, hr9, hm9, hq9] at O9 D9
    rw [ht9, hd9, hs9] at D9
    have H9 := Lib.hid (And.intro hn9 (And.intro hr9 (And.intro hm9 (And.intro hq9 (And.intro ht9 (And.intro hd9 hs9)))))); clear hn9 hr9 hm9 hq9 ht9 hd9 hs9
    obtain ⟨D9_c, D9_f, D9_z⟩ := D9.all
    obtain ⟨D29_c, D29_f, D29_z⟩ := D29.all
    have nB : w.heap.size + 1 ≠ B := by omega
    go_wp2_with fail
    refine bodyPost_ret (v := .tuple #[.agg #[.slice of9 n9 kf9, .slice or9 r9 kr9, .slice om9 m9 km9, .slice og9 q9 kg9, .int .i64 t9, .int .u64 d9, .int .i64 s9], .int .i64 0]) (by simp [results, Try.results12, go_sem, D29_c]) rfl ?_
    refine ⟨Hx, ⟨C, .inr ⟨.inl HZB.out, HC.out.symm⟩, by rw [HP2.out]; exact HHX.out.symm⟩, ?_⟩
    exact hoRet' (k := fun v => .tuple #[v, .int .i64 0]) H9.out.1 H9.out.2.1 H9.out.2.2.1 H9.out.2.2.2.1 H9.out.2.2.2.2.1 H9.out.2.2.2.2.2.1 H9.out.2.2.2.2.2.2 (O9.fill7 (by omega) _ _ _ _ _ _ _) (Below.fill7 (hbw.trans (hbb.mono (by omega))) (by omega) _ _ _ _ _ _ _)
end Go.Proofs.Ytbnngjhnkegliaa
namespace Go.Proofs.Ytbnngjhnkegliaa
open Go.RowKit

theorem clear_text {H : Ho} {i p a b : Nat} (hi : i < H.G.length) : (H.clear i p).text a b = if i = a ∧ p = b then H.P.text a b else H.text a b := by
  obtain ⟨g, hg⟩ := get_lt hi
  unfold Ho.clear Ho.text
  rw [hg]
  dsimp only [Ho.setG]
  rw [List.getElem?_set]
  by_cases e : i = a
  · subst e
    rw [if_pos rfl, if_pos hi, hg]
    dsimp only
    rw [List.getElem?_set]
    by_cases e2 : p = b
    · subst e2
      rw [if_pos (⟨rfl, rfl⟩ : i = i ∧ p = p), if_pos (rfl : p = p)]
      by_cases hp : p < g.s.length
      · simp only [if_pos hp]
        rfl
      · simp only [if_neg hp]
    · rw [if_neg e2, if_neg (fun h => e2 h.2)]
  · rw [if_neg e, if_neg (fun h => e h.1)]
end Go.Proofs.Ytbnngjhnkegliaa
namespace Go.Proofs.Ytbnngjhnkegliaa
open Go.RowKit

theorem Pl.page_get {P : Pl} {a b : Nat} (h : P.at a b) : (P.pages a)[b]? = some (P.fr a b) := by
  obtain ⟨l, hl, hp⟩ := Pl.at_fr h
  rw [Pl.pages_eq hl]
  exact hp
theorem Pl.page_none {P : Pl} {a b : Nat} (h : ¬ P.at a b) : (P.pages a)[b]? = none := by
  cases hl : P.M[a]? with
  | none =>
    have : P.pages a = [] := by unfold Pl.pages; rw [hl]; rfl
    rw [this]
    rfl
  | some l =>
    rw [Pl.pages_eq hl]
    cases hf : l[b]? with
    | none => rfl
    | some f => exact absurd ⟨l, f, hl, hf⟩ h
/-- What a write leaves of the frames. -/
theorem Pl.wr_fr {P : Pl} (H : P.Ok) {g p : Nat} {d : ByteArray} (h : P.at g p) (hk : P.wok' g p d = true) :
    (∀ a b, ¬ (g = a ∧ p = b) → (P.wr' g p d).fr a b = P.fr a b) ∧ (0 ≤ (P.wr' g p d).fr g p ↔ zeroB d = false) := by
  have G := H.gave h
  unfold Pl.wok' at hk
  unfold Pl.wr'
  cases hz : zeroB d
  · rw [hz] at hk
    simp only [Bool.false_eq_true, if_false]
    cases ho : P.own g p
    · rw [ho] at hk
      simp only [Bool.false_eq_true, if_false]
      cases hfo : firstOf P.F ⟨#[]⟩ with
      | none =>
        rw [hfo] at hk
        simp at hk
      | some i =>
        dsimp only
        obtain ⟨T, _⟩ := Pl.take_put (d := d) H h (firstOf_some.1 hfo).1
        refine ⟨fun a b hab => ?_, ?_⟩
        · rw [T.fr, if_neg hab, G.fr, if_neg hab]
        · rw [T.fr, if_pos ⟨rfl, rfl⟩]
          exact ⟨fun _ => trivial, fun _ => by omega⟩
    · simp only [if_true]
      unfold Pl.own at ho
      rw [Bool.and_eq_true, decide_eq_true_eq] at ho
      exact ⟨fun _ _ _ => rfl, ⟨fun _ => trivial, fun _ => ho.1⟩⟩
  · simp only [if_true]
    refine ⟨fun a b hab => by rw [G.fr, if_neg hab], ?_⟩
    rw [G.fr_self]
    exact ⟨fun h => by omega, fun h => by cases h⟩
theorem Pl.charge_map (P : Pl) (a : Nat) : P.chargeN a = ((P.pages a).map hasB).countP id := by
  unfold Pl.chargeN
  rw [List.countP_map]
  rfl
/-- The pages with frames are counted, where one page alone may have got or lost one. -/
theorem Pl.charge_fr {P Q : Pl} {g p : Nat} (al : P.Alike Q) (h : P.at g p) (hs : ∀ a b, ¬ (g = a ∧ p = b) → (0 ≤ Q.fr a b ↔ 0 ≤ P.fr a b)) (a : Nat) : Q.chargeN a + (if g = a ∧ 0 ≤ P.fr g p then 1 else 0) = P.chargeN a + (if g = a ∧ 0 ≤ Q.fr g p then 1 else 0) := by
  have hget : ∀ b, ¬ (g = a ∧ p = b) → ((Q.pages a).map hasB)[b]? = ((P.pages a).map hasB)[b]? := fun b hab => by
    rw [List.getElem?_map, List.getElem?_map]
    by_cases hat : P.at a b
    · rw [Pl.page_get hat, Pl.page_get ((al.at a b).2 hat)]
      have := hs a b hab
      show some (decide _) = some (decide _)
      rw [decide_eq_decide.2 this]
    · rw [Pl.page_none hat, Pl.page_none (fun h => hat ((al.at a b).1 h))]
  rw [Pl.charge_map, Pl.charge_map]
  by_cases e : g = a
  · subst e
    have hx : ((P.pages g).map hasB)[p]? = some (hasB (P.fr g p)) := by rw [List.getElem?_map, Pl.page_get h]; rfl
    have he : (Q.pages g).map hasB = ((P.pages g).map hasB).set p (hasB (Q.fr g p)) := List.ext_getElem? (fun b => by
      rw [List.getElem?_set]
      by_cases e2 : p = b
      · subst e2
        rw [if_pos rfl, if_pos (lt_of_get hx), List.getElem?_map, Pl.page_get ((al.at g p).2 h)]
        rfl
      · rw [if_neg e2]
        exact hget b (fun h => e2 h.2))
    have := countP_set (q := id) (x := hasB (Q.fr g p)) hx
    rw [he]
    unfold hasB at this ⊢
    simp only [id, decide_eq_true_eq, true_and] at this ⊢
    exact this
  · have he : (Q.pages a).map hasB = (P.pages a).map hasB := List.ext_getElem? (fun b => hget b (fun h => e h.1))
    rw [he, if_neg (fun h => e h.1), if_neg (fun h => e h.1)]
/-- What lies in the swap for a page. -/
def Ho.sw (H : Ho) (a b : Nat) : ByteArray := match H.G[a]? with
  | none => ⟨#[]⟩
  | some g => (g.s[b]?).getD ⟨#[]⟩
theorem Ho.sw_eq {H : Ho} {a b : Nat} {g : Gm} {t : ByteArray} (hg : H.G[a]? = some g) (ht : g.s[b]? = some t) : H.sw a b = t := by
  unfold Ho.sw
  rw [hg]
  dsimp only
  rw [ht]
  rfl
theorem Ho.text_sw (H : Ho) (a b : Nat) : H.text a b = if (H.sw a b).size = 0 then H.P.text a b else H.sw a b := by
  unfold Ho.text Ho.sw
  cases H.G[a]? with
  | none => exact (if_pos rfl).symm
  | some g =>
    dsimp only
    have e : ∀ (o : Option ByteArray) (X : ByteArray), (match o with | none => X | some t => if t.size = 0 then X else t) = if (o.getD ⟨#[]⟩).size = 0 then X else o.getD ⟨#[]⟩ := fun o X => by
      cases o with
      | none => exact (if_pos rfl).symm
      | some t => rfl
    exact e _ _
/-- A page of a valid host lies in the swap or not: then its content is good and it has no frame. -/
theorem Ho.Ok.swp {H : Ho} (h : H.Ok) {a b : Nat} (hat : H.P.at a b) : (H.sw a b).size = 0 ∨ (H.P.fr a b < 0 ∧ (H.sw a b).size = 128 ∧ zeroB (H.sw a b) = false) := by
  obtain ⟨g, hg⟩ := get_lt (h.at_lt hat)
  have hgp := h.gmP hg
  have hb := (Pl.at_lt.1 hat).2
  obtain ⟨t, ht⟩ := get_lt (xs := g.s) (k := b) (by rw [hgp.ls]; exact hb)
  rw [Ho.sw_eq hg ht]
  exact hgp.sw b t hb ht
theorem Ho.Ok.textz {H : Ho} (h : H.Ok) {a b : Nat} (hat : H.P.at a b) : (H.text a b).size = 128 := by
  rw [Ho.text_sw]
  rcases h.swp hat with h1 | ⟨_, h2, _⟩
  · rw [if_pos h1]
    by_cases h0 : H.P.fr a b < 0
    · unfold Pl.text
      rw [if_pos h0]
      exact zeros128_size
    · exact (Pl.text_good h.p hat (by omega)).1
  · rw [if_neg (by omega)]
    exact h2
/-- What an eviction does to frames and swap. -/
theorem evict_sw {H H' : Ho} {i : Nat} {x : Int} (hok : H.Ok) (h : H.evict i x = some H') : ∃ v : Nat, H.P.at i v ∧ 0 ≤ H.P.fr i v ∧ (v : Int) ≠ x ∧ (∀ a b, H'.P.fr a b = if i = a ∧ v = b then -1 else H.P.fr a b) ∧ (∀ a b, ¬ (i = a ∧ v = b) → H'.sw a b = H.sw a b) := by
  unfold Ho.evict at h
  cases hg : H.G[i]? with
  | none => rw [hg] at h; simp at h
  | some g =>
    rw [hg] at h
    dsimp only at h
    have hgp := hok.gmP hg
    obtain ⟨l, hl, hgo⟩ := hok.page hg
    have hpl := Pl.pages_eq hl
    have hll := hok.p.l l (mem_at hl)
    cases ho : chO g.u ((H.P.pages i).map hasB) g.h.toNat x with
    | none => rw [ho] at h; simp at h
    | some a =>
      obtain ⟨v, u, q⟩ := a
      rw [ho] at h
      injection h with h
      have hhd := hgp.hd
      rw [hpl] at hhd ho
      unfold chO at ho
      obtain ⟨p1, p2, p3, _⟩ := chF_spec (by rw [List.length_map]; omega) _ _ _ _ _ _ (by rw [List.length_map]; omega) ho
      rw [List.length_map] at p1
      obtain ⟨f, hf⟩ := get_lt p1
      rw [List.getElem?_map, hf] at p2
      have hf0 : 0 ≤ f := by
        injection p2 with p2
        unfold hasB at p2
        exact of_decide_eq_true p2
      have hat : H.P.at i v := ⟨l, f, hl, hf⟩
      have hfr := Pl.fr_eq hl hf
      obtain ⟨we1, _⟩ := Pl.wr_eq hok.p hat zeros128_size
      have hwr : H.P.wr i v zeros128 = H.P.giveUp i v := by
        rw [we1]
        unfold Pl.wr'
        rw [if_pos zeros128_zero]
      rw [hwr] at h
      have G := hok.p.gave hat
      subst h
      refine ⟨v, hat, by rw [hfr]; exact hf0, p3, G.fr, fun a b hab => ?_⟩
      unfold Ho.sw
      dsimp only
      rw [List.getElem?_set]
      by_cases e : i = a
      · subst e
        rw [if_pos rfl, if_pos (lt_of_get hg), hg]
        dsimp only
        rw [List.getElem?_set, if_neg (fun h => hab ⟨rfl, h⟩)]
      · rw [if_neg e]
/-- A page's frame and swap that evictions have left alone. -/
structure Spared (H K : Ho) (i p : Nat) : Prop where
  sw : K.sw i p = H.sw i p
  fr : K.P.fr i p = H.P.fr i p
theorem Spared.refl (H : Ho) (i p : Nat) : Spared H H i p := ⟨rfl, rfl⟩
theorem Spared.trans {H K L : Ho} {i p : Nat} (h : Spared H K i p) (h' : Spared K L i p) : Spared H L i p := ⟨h'.sw.trans h.sw, h'.fr.trans h.fr⟩
theorem Spared.ev {K L : Ho} {i p j : Nat} {x : Int} (hok : K.Ok) (h : K.evict j x = some L) (hx : j = i → x = p) : Spared K L i p := by
  obtain ⟨v, _, _, hv, h1, h2⟩ := evict_sw hok h
  have hne : ¬ (j = i ∧ v = p) := fun ⟨e1, e2⟩ => hv (by rw [hx e1, e2])
  exact ⟨h2 i p hne, by rw [h1, if_neg hne]⟩
theorem first_sp {H : Ho} (hok : H.Ok) (i p : Nat) : Spared H (H.first i p) i p := by
  unfold Ho.first
  split
  · exact Spared.refl H i p
  · split
    · cases he : H.evict i p with
      | none => exact Spared.refl H i p
      | some L => exact Spared.ev hok he (fun _ => rfl)
    · exact Spared.refl H i p
theorem evictC_sp {K L : Ho} {i p : Nat} (hok : K.Ok) (hi : i < K.G.length) (h : K.evictC i p = some L) : Spared K L i p := by
  unfold Ho.evictC at h
  have hcb := chosen_bd hok hi
  refine Spared.ev hok h (fun e => ?_)
  rw [if_pos (by omega)]
theorem Steps.sp {H1 K : Ho} {i p : Nat} (h : Steps i p H1 K) (hok : H1.Ok) (hi : i < H1.G.length) : Spared H1 K i p ∧ Kept H1 K i p := by
  induction h with
  | refl => exact ⟨Spared.refl _ i p, Kept.refl hok i p⟩
  | step _ _ he ih => exact ⟨ih.1.trans (evictC_sp ih.2.ok (by rw [ih.2.gl]; exact hi) he), ih.2.ev (evict_law ih.2.ok he)⟩
theorem Roomed.sp {H K : Ho} {i p : Nat} (h : Roomed i p H K) (hok : H.Ok) (hat : H.P.at i p) : Spared H K i p := by
  have hf := Kept.first hok i p
  exact (first_sp hok i p).trans (h.1.sp hf.ok (by rw [hf.gl]; exact hok.at_lt hat)).1
/-- Behind the first eviction the guest stands below its limit. -/
theorem first_lim {H : Ho} (hok : H.Ok) {i p : Nat} (hat : H.P.at i p) (h0 : H.P.fr i p < 0) {g : Gm} (hg : H.G[i]? = some g) : ((H.first i p).P.chargeN i : Int) < g.c.l := by
  have hgp := hok.gmP hg
  have hlim := hgp.lim
  have hv := (validB_iff g.c).1 hgp.cv
  unfold Ho.first
  rw [hg]
  dsimp only
  by_cases hc : g.c.l ≤ (H.P.chargeN i : Int)
  · rw [if_pos ⟨h0, hc⟩]
    obtain ⟨l, hl, hgo⟩ := hok.page hg
    have hpl := Pl.pages_eq hl
    have hpos : 0 < (H.P.pages i).countP hasB := by
      have : (0 : Int) < (H.P.chargeN i : Int) := by omega
      unfold Pl.chargeN at this
      omega
    obtain ⟨f, hf, hb⟩ := List.countP_pos_iff.1 hpos
    obtain ⟨j, hj⟩ := List.getElem?_of_mem hf
    rw [hpl] at hj
    have hf0 : 0 ≤ f := of_decide_eq_true hb
    have hfr := Pl.fr_eq hl hj
    have hne := evict_some hok (i := i) (j := j) (x := (p : Int)) ⟨l, f, hl, hj⟩ (by rw [hfr]; exact hf0) (fun e => by
      have : j = p := by omega
      subst this
      omega)
    cases he : H.evict i p with
    | none => exact absurd he hne
    | some L =>
      obtain ⟨v, _, _, _, _, hch⟩ := (evict_law hok he).pg
      have := hch i
      rw [if_pos rfl] at this
      show (L.P.chargeN i : Int) < g.c.l
      omega
  · rw [if_neg (fun h => hc h.2)]
    omega
theorem Roomed.lim {H K : Ho} {i p : Nat} (h : Roomed i p H K) (hok : H.Ok) (hat : H.P.at i p) (h0 : K.P.fr i p < 0) {g : Gm} (hg : K.G[i]? = some g) : (K.P.chargeN i : Int) < g.c.l := by
  have hf := Kept.first hok i p
  have hst := h.1.sp hf.ok (by rw [hf.gl]; exact hok.at_lt hat)
  have hsp := h.sp hok hat
  have hk := (h.kept hok hat).1
  obtain ⟨g0, hg0⟩ := get_lt (hok.at_lt hat)
  obtain ⟨g', hg', hc, _⟩ := hk.cl i g0 hg0
  rw [hg] at hg'
  injection hg' with hg'
  subst hg'
  rw [hc]
  have h1 := first_lim hok hat (by rw [← hsp.fr]; exact h0) hg0
  have h2 := hst.2.le i
  omega
/-- A content put into a page that is not swapped, and the page marked: the host stays valid. -/
theorem put_law {K : Ho} (hok : K.Ok) {i p : Nat} {d : ByteArray} (hat : K.P.at i p) (hd : d.size = 128) (hk : K.P.wok' i p d = true) (hsw : (K.sw i p).size = 0) (hlim : zeroB d = false → K.P.fr i p < 0 → ∀ g, K.G[i]? = some g → (K.P.chargeN i : Int) < g.c.l) :
    ((K.setP (K.P.wr i p d)).mark i p).Ok ∧ K.P.Alike (K.P.wr i p d) ∧ (∀ a b, K.P.at a b → ((K.setP (K.P.wr i p d)).mark i p).text a b = if i = a ∧ p = b then d else K.text a b) ∧ (K.P.wr i p d).text i p = d ∧ (∀ a b, ¬ (i = a ∧ p = b) → (K.P.wr i p d).fr a b = K.P.fr a b) ∧ (0 ≤ (K.P.wr i p d).fr i p ↔ zeroB d = false) := by
  have W := (Pl.wr_law hok.p hat hd).1 hk
  obtain ⟨F1, F2⟩ := Pl.wr_fr hok.p hat hk
  rw [← (Pl.wr_eq hok.p hat hd).1] at W F1 F2
  have hch := Pl.charge_fr W.al hat (fun a b hab => by rw [F1 a b hab])
  have htx : (K.P.wr i p d).text i p = d := by rw [W.text i p hat, if_pos ⟨rfl, rfl⟩]
  obtain ⟨e1, e2, e3, e4, e5, e6⟩ := mark_rest (K.setP (K.P.wr i p d)) i p
  refine ⟨hok.of (by rw [e1]; exact W.ok) (by rw [e1]; exact W.al) e5 e2 (by rw [e3]; exact hok.d) (by rw [e4]; exact hok.n) e6 (fun a g1 h1 => ?_), W.al, fun a b hab => ?_, htx, F1, F2⟩
  · rw [e1]
    show GmP (K.P.wr i p d) a g1
    obtain ⟨g, hg, hne, heq⟩ := mark_get h1
    change K.G[a]? = some g at hg
    have hgp := hok.gmP hg
    have hlm : ((K.P.wr i p d).chargeN a : Int) ≤ g.c.l := by
      have h1 := hch a
      have h2 := hgp.lim
      by_cases e : i = a
      · subst e
        by_cases h3 : 0 ≤ K.P.fr i p
        · rw [if_pos ⟨rfl, h3⟩] at h1
          split at h1 <;> omega
        · rw [if_neg (fun h => h3 h.2)] at h1
          by_cases h4 : zeroB d = false
          · have := hlim h4 (by omega) g hg
            split at h1 <;> omega
          · rw [if_neg (fun h => h4 (F2.1 h.2))] at h1
            omega
      · rw [if_neg (fun h => e h.1), if_neg (fun h => e h.1)] at h1
        omega
    have hsp : ∀ (k : Nat) (t : ByteArray), k < ((K.P.wr i p d).pages a).length → g.s[k]? = some t → t.size = 0 ∨ ((K.P.wr i p d).fr a k < 0 ∧ t.size = 128 ∧ zeroB t = false) := fun k t hk ht => by
      rw [W.al.pg] at hk
      by_cases e : i = a ∧ p = k
      · obtain ⟨rfl, rfl⟩ := e
        rw [Ho.sw_eq hg ht] at hsw
        exact .inl hsw
      · rw [F1 a k e]
        exact hgp.sw k t hk ht
    by_cases e : a = i
    · subst e
      rw [heq rfl]
      refine ⟨hgp.cv, hgp.p0, hlm, by rw [W.al.pg]; exact hgp.ls, ?_, ?_, by rw [W.al.pg]; exact hgp.hd, fun k b hk hb h0 => ?_, hsp⟩
      · rw [W.al.pg, ← hgp.lu]
        exact List.length_set ..
      · rw [W.al.pg, ← hgp.le]
        exact List.length_set ..
      · have hb2 : (g.u.set p (decide (0 ≤ (K.P.wr a p d).fr a p)))[k]? = some b := hb
        rw [W.al.pg] at hk
        rw [List.getElem?_set] at hb2
        by_cases e2 : p = k
        · subst e2
          rw [if_pos rfl, if_pos (by rw [hgp.lu]; exact hk)] at hb2
          cases hb2
          exact decide_eq_false (by omega)
        · rw [if_neg e2] at hb2
          rw [F1 a k (fun h => e2 h.2)] at h0
          exact hgp.us k b hk hb2 h0
    · rw [hne e]
      refine ⟨hgp.cv, hgp.p0, hlm, by rw [W.al.pg]; exact hgp.ls, by rw [W.al.pg]; exact hgp.lu, by rw [W.al.pg]; exact hgp.le, by rw [W.al.pg]; exact hgp.hd, fun k b hk hb h0 => ?_, hsp⟩
      rw [W.al.pg] at hk
      rw [F1 a k (fun h => e h.1.symm)] at h0
      exact hgp.us k b hk hb h0
  · rw [mark_text, Ho.text_sw, Ho.text_sw]
    have e1 : (K.setP (K.P.wr i p d)).sw a b = K.sw a b := rfl
    have e2 : (K.setP (K.P.wr i p d)).P = K.P.wr i p d := rfl
    rw [e1, e2, W.text a b hab]
    by_cases e : i = a ∧ p = b
    · obtain ⟨rfl, rfl⟩ := e
      rw [if_pos hsw, if_pos ⟨rfl, rfl⟩, if_pos ⟨rfl, rfl⟩]
    · rw [if_neg e, if_neg e]
end Go.Proofs.Ytbnngjhnkegliaa
namespace Go.Proofs.Ytbnngjhnkegliaa
open Go.RowKit

set_option maxHeartbeats 2000000 in
theorem hres_ok (v : Value) (H : Ho) (i : Nat) (w : World) (ha : HoAt w v H) (hok : H.Ok) (hi : i < H.G.length) : Calls Try.prog 18 #[v, .int .i64 i] w (Ret w (.int .i64 ((H.P.chargeN i : Nat) : Int))) := by
  have V := fun v w h => hhasG_ok v H i w h hok hi
  have HV := Lib.hid V; clear V
  obtain ⟨g, hg⟩ := get_lt hi
  obtain ⟨l, hl, hgo⟩ := hok.page hg
  have hll := hok.p.l l (mem_at hl)
  have hch : H.P.chargeN i = l.countP hasB := by unfold Pl.chargeN; rw [Pl.pages_eq hl]
  rw [hch]
  clear hch hgo
  obtain ⟨of, or', om, og, kf, kr, km, kg, rfl, kf1, kf2, kr1, kr2, km1, km2, kg1, kg2, h⟩ := ha
  obtain ⟨n, hn⟩ : ∃ n, H.P.F.length = n := ⟨_, rfl⟩
  obtain ⟨r, hr⟩ : ∃ n, H.P.R.length = n := ⟨_, rfl⟩
  obtain ⟨m, hm⟩ : ∃ n, H.P.M.length = n := ⟨_, rfl⟩
  obtain ⟨q, hq⟩ : ∃ n, H.G.length = n := ⟨_, rfl⟩
  obtain ⟨tx, htx⟩ : ∃ n, H.t = n := ⟨_, rfl⟩
  obtain ⟨dx, hdx⟩ : ∃ n, H.d = n := ⟨_, rfl⟩
  obtain ⟨sx, hsx⟩ : ∃ n, H.n = n := ⟨_, rfl⟩
  rw [hn] at h kf1 ⊢
  rw [hr] at h kr1 ⊢
  rw [hm] at h km1 ⊢
  rw [hq] at h kg1 ⊢
  rw [htx, hdx, hsx]
  have HN := Lib.hid hn; clear hn
  have HR := Lib.hid hr; clear hr
  have HM := Lib.hid hm; clear hm
  have HQ := Lib.hid hq; clear hq
  have HT := Lib.hid htx; clear htx
  have HD := Lib.hid hdx; clear hdx
  have HS := Lib.hid hsx; clear hsx
  have him : i < m := by rw [← HM.out]; exact lt_of_get hl
  have h0 := h
  have HA : Hid (∀ w' : World, Below w.heap.size w w' → HoAt w' (.agg #[.slice of n kf, .slice or' r kr, .slice om m km, .slice og q kg, .int .i64 tx, .int .u64 dx, .int .i64 sx]) H) := Lib.hid (fun w' hb => by
    have := (h0.below hb).at_
    rwa [HT.out, HD.out, HS.out] at this)
  have D1 := HasBlock.made w #[.slice of n kf, .slice or' r kr, .slice om m km, .slice og q kg, .int .i64 tx, .int .u64 dx, .int .i64 sx] 31
  have hbw : Below w.heap.size w (w.alloc (.cells #[.slice of n kf, .slice or' r kr, .slice om m km, .slice og q kg, .int .i64 tx, .int .u64 dx, .int .i64 sx] 31)) := (Below.refl _ _).alloc (Nat.le_refl _) _
  replace h := h.below hbw
  obtain ⟨mb, moff, lo, lc, rfl, hmb, cm0, lc1, lc2, hL⟩ := h0.p.guest hl
  have CHc := fun w h => hcharge_any lo lc l w h (by omega)
  obtain ⟨ql, hql⟩ : ∃ x, l.length = x := ⟨_, rfl⟩
  rw [hql] at cm0 lc1 hL CHc
  have HCH := Lib.hid CHc; clear CHc
  have HL := Lib.hid hL; clear hL
  clear hl hg h0 hql h hi
  go_enter Try.func18, Try.ntmps18
  obtain ⟨D1_c, D1_f, D1_z⟩ := D1.all
  go_wp2_with fail
  clear D1_c D1_f D1_z
  with_reducible refine (HV.out _ _ (HA.out _ hbw)).mono ?_
  rintro e w1 ⟨rfl, hbk⟩
  replace D1 := D1.below hbk
  replace hbw := hbw.trans (hbk.mono hbw.size)
  clear hbk
  have i0 : (0 : Int) ≤ (i : Int) := by omega
  have im : (i : Int) < (m : Int) := by omega
  have cm := (hbw.cell (p := ⟨mb, moff + i, none⟩) hmb).trans cm0
  obtain ⟨D1_c, D1_f, D1_z⟩ := D1.all
  go_wp2_with fail
  clear D1_c D1_f D1_z
  with_reducible refine (HCH.out _ (HL.out.below hbw)).mono ?_
  rintro e w2 ⟨rfl, hbk⟩
  clear cm
  replace D1 := D1.below hbk
  replace hbw := hbw.trans (hbk.mono hbw.size)
  clear hbk
  go_wp2_with fail
  go_ret
  exact Ret.mk hbw
def fullB (s : ByteArray) : Bool := !emptyB s
/-- The swapped pages of a guest. -/
def Gm.swapped (g : Gm) : Nat := g.s.countP fullB
set_option maxHeartbeats 4000000 in
theorem hswap_ok (v : Value) (H : Ho) (i : Nat) (g : Gm) (w : World) (ha : HoAt w v H) (hok : H.Ok) (hg : H.G[i]? = some g) : Calls Try.prog 17 #[v, .int .i64 i] w (Ret w (.int .i64 ((g.swapped : Nat) : Int))) := by
  have V := fun v w h => hhasG_ok v H i w h hok (lt_of_get hg)
  have HV := Lib.hid V; clear V
  obtain ⟨l, hl, hgo⟩ := hok.page hg
  have hll := hok.p.l l (mem_at hl)
  have hsl := hgo.ls
  obtain ⟨of, or', om, og, kf, kr, km, kg, rfl, kf1, kf2, kr1, kr2, km1, km2, kg1, kg2, h⟩ := ha
  obtain ⟨n, hn⟩ : ∃ n, H.P.F.length = n := ⟨_, rfl⟩
  obtain ⟨r, hr⟩ : ∃ n, H.P.R.length = n := ⟨_, rfl⟩
  obtain ⟨m, hm⟩ : ∃ n, H.P.M.length = n := ⟨_, rfl⟩
  obtain ⟨q, hq⟩ : ∃ n, H.G.length = n := ⟨_, rfl⟩
  obtain ⟨tx, htx⟩ : ∃ n, H.t = n := ⟨_, rfl⟩
  obtain ⟨dx, hdx⟩ : ∃ n, H.d = n := ⟨_, rfl⟩
  obtain ⟨sx, hsx⟩ : ∃ n, H.n = n := ⟨_, rfl⟩
  rw [hn] at h kf1 ⊢
  rw [hr] at h kr1 ⊢
  rw [hm] at h km1 ⊢
  rw [hq] at h kg1 ⊢
  rw [htx, hdx, hsx]
  have HN := Lib.hid hn; clear hn
  have HR := Lib.hid hr; clear hr
  have HM := Lib.hid hm; clear hm
  have HQ := Lib.hid hq; clear hq
  have HT := Lib.hid htx; clear htx
  have HD := Lib.hid hdx; clear hdx
  have HS := Lib.hid hsx; clear hsx
  have hiq : i < q := by rw [← HQ.out]; exact lt_of_get hg
  have h0 := h
  have HA : Hid (∀ w' : World, Below w.heap.size w w' → HoAt w' (.agg #[.slice of n kf, .slice or' r kr, .slice om m km, .slice og q kg, .int .i64 tx, .int .u64 dx, .int .i64 sx]) H) := Lib.hid (fun w' hb => by
    have := (h0.below hb).at_
    rwa [HT.out, HD.out, HS.out] at this)
  have D1 := HasBlock.made w #[.slice of n kf, .slice or' r kr, .slice om m km, .slice og q kg, .int .i64 tx, .int .u64 dx, .int .i64 sx] 31
  have hbw : Below w.heap.size w (w.alloc (.cells #[.slice of n kf, .slice or' r kr, .slice om m km, .slice og q kg, .int .i64 tx, .int .u64 dx, .int .i64 sx] 31)) := (Below.refl _ _).alloc (Nat.le_refl _) _
  replace h := h.below hbw
  obtain ⟨gb, goff, so, sc, uo, uc, eo, ec, rfl, hgb, s1, s2, u1, u2, e3, e4, cs, hS, hU, hE⟩ := h0.guest hg
  have c50 : w.cell? ⟨gb, goff + i * 9 + 5, none⟩ = _ := cs 5 _ rfl
  dsimp only at c50
  unfold Gm.swapped
  obtain ⟨S, hS0⟩ : ∃ S, g.s = S := ⟨_, rfl⟩
  rw [hS0] at c50 hS s1 hsl ⊢
  obtain ⟨ql, hql⟩ : ∃ x, S.length = x := ⟨_, rfl⟩
  rw [hql] at c50 hS s1 hsl
  have HQL := Lib.hid hql; clear hql
  have HSS := Lib.hid hS; clear hS
  have hq32 : ql ≤ 32 := by omega
  clear hU hE cs hl hgo hg h0 h hsl hll hS0 u1 e3
  go_enter Try.func17, Try.ntmps17
  obtain ⟨D1_c, D1_f, D1_z⟩ := D1.all
  go_wp2_with fail
  clear D1_c D1_f D1_z
  with_reducible refine (HV.out _ _ (HA.out _ hbw)).mono ?_
  rintro e w1 ⟨rfl, hbk⟩
  replace D1 := D1.below hbk
  replace hbw := hbw.trans (hbk.mono hbw.size)
  clear hbk
  have i0 : (0 : Int) ≤ (i : Int) := by omega
  have iq : (i : Int) < (q : Int) := by omega
  have c5 := (hbw.cell (p := ⟨gb, goff + i * 9 + 5, none⟩) hgb).trans c50
  have HROW := Lib.hid (HSS.out.below hbw)
  obtain ⟨D1_c, D1_f, D1_z⟩ := D1.all
  go_wp2_with fail
  clear D1_c D1_f D1_z
  clear c5
  go_loop [5, 19] (fun c i => ∃ k : Nat, k ≤ ql ∧ i = .int .i64 k ∧ c = .int .i64 ((S.take k).countP fullB : Nat)) (fun _ i => ql - (intOf i).toNat)
  case atStart => exact ⟨0, Nat.zero_le _, rfl, rfl⟩
  case round =>
    obtain ⟨k, hk, rfl, rfl⟩ := hrel
    have hcl := countP_le fullB S k
    by_cases hlt : k < ql
    · obtain ⟨s, hs⟩ := get_lt (xs := S) (k := k) (by rw [HQL.out]; exact hlt)
      obtain ⟨fb, foff, rfl, hfb, cf⟩ := HROW.out.elem hs
      have hsu := countP_succ (q := fullB) hs
      obtain ⟨c, hc⟩ : ∃ c, (S.take k).countP fullB = c := ⟨_, rfl⟩
      rw [hc] at hsu hcl ⊢
      have hii := isEmpty_iff s
      unfold fullB emptyB at hsu
      by_cases h0 : s.size = 0
      · rw [decide_eq_true h0] at hsu hii
        have HS := Lib.hid hsu; clear hsu hs hc h0
        go_wp2_with fail
        go_round
        case rel => exact ⟨k + 1, by omega, by go_num, by rw [show (S.take (k + 1)).countP fullB = c from HS.out]⟩
        case measure => simp [intOf]; omega
      · rw [decide_eq_false h0] at hsu hii
        have HS := Lib.hid hsu; clear hsu hs hc h0
        go_wp2_with fail
        go_round
        case rel => exact ⟨k + 1, by omega, by go_num, by rw [show (S.take (k + 1)).countP fullB = c + 1 from HS.out]; go_num⟩
        case measure => simp [intOf]; omega
    · obtain rfl : k = ql := by omega
      have hall : S.take k = S := by rw [← HQL.out]; exact List.take_length
      rw [hall]
      clear hall
      go_wp2_with fail
      go_ret
      exact Ret.mk hbw
theorem HasBlock.fill7 {w : World} {b : Nat} {T : TypeId} {x0 x1 x2 x3 x4 x5 x6 : Value} (h : HasBlock w b #[x0, x1, x2, x3, x4, x5, x6] T) (y0 y1 y2 y3 y4 y5 y6 : Value) : HasBlock (((((((w.setCell ⟨b, 0, none⟩ y0).setCell ⟨b, 1, none⟩ y1).setCell ⟨b, 2, none⟩ y2).setCell ⟨b, 3, none⟩ y3).setCell ⟨b, 4, none⟩ y4).setCell ⟨b, 5, none⟩ y5).setCell ⟨b, 6, none⟩ y6) b #[y0, y1, y2, y3, y4, y5, y6] T := by
  have := ((((((h.set_at 0 y0).set_at 1 y1).set_at 2 y2).set_at 3 y3).set_at 4 y4).set_at 5 y5).set_at 6 y6
  simpa using this
/-- A host without guests. -/
def newHo (n : Nat) (t d : Int) : Ho := ⟨newPl n, [], t, d, 0⟩
set_option maxRecDepth 100000 in
set_option maxHeartbeats 4000000 in
theorem hnew_ok (n : Nat) (t d : Int) (w : World) (h1 : 1 ≤ n) (h2 : n ≤ 96) (ht : 0 ≤ t ∧ t ≤ 99) : Calls Try.prog 22 #[.int .i64 n, .int .i64 t, .int .u64 d] w (RetHoB (fun v => .tuple #[v, .bool true]) (newHo n t d) w) := by
  have C1 := fun w => pnew_any_own n w
  rw [show newOk n = true from decide_eq_true ⟨by omega, by omega⟩] at C1
  obtain ⟨P, hP⟩ : ∃ P, newPl (n : Int) = P := ⟨_, rfl⟩
  have hN : newHo n t d = ⟨P, [], t, d, 0⟩ := by unfold newHo; rw [hP]
  rw [hN]
  rw [hP] at C1
  have HC := Lib.hid C1; clear C1 hP hN
  obtain ⟨ht0, ht9⟩ := ht
  have D2 := HasBlock.made w #[.slice none 0 0, .slice none 0 0, .slice none 0 0, .slice none 0 0, .int .i64 0, .int .u64 0, .int .i64 0] 31
  have hbw : Below w.heap.size w (w.alloc (.cells #[.slice none 0 0, .slice none 0 0, .slice none 0 0, .slice none 0 0, .int .i64 0, .int .u64 0, .int .i64 0] 31)) := (Below.refl _ _).alloc (Nat.le_refl _) _
  go_enter Try.func22, Try.ntmps22
  go_wp2_with fail
  with_reducible refine (HC.out _).mono ?_
  rintro e w1 ⟨of0, or0, om0, kf0, kr0, km0, us0, rfl, O0, hbk⟩
  have hz1 := hbk.size
  simp only [sizes] at O0 hz1
  replace D2 := D2.below hbk
  replace hbw := hbw.trans (hbk.mono hbw.size)
  clear hbk
  obtain ⟨n0, hgn⟩ : ∃ n, (Pl.F P).length = n := ⟨_, rfl⟩
  obtain ⟨r0, hgr⟩ : ∃ n, (Pl.R P).length = n := ⟨_, rfl⟩
  obtain ⟨m0, hgm⟩ : ∃ n, (Pl.M P).length = n := ⟨_, rfl⟩
  rw [hgn, hgr, hgm] at O0 ⊢
  have HG0 := Lib.hid (And.intro hgn (And.intro hgr hgm))
  clear hgn hgr hgm
  obtain ⟨D2_c, D2_f, D2_z⟩ := D2.all
  go_wp2_with fail
  have OS : OwnH (w.heap.size + 1) w1 (.slice of0 n0 kf0) (.slice or0 r0 kr0) (.slice om0 m0 km0) us0 (.slice none 0 0) [] ⟨P, [], t, d, 0⟩ := OwnH.start O0
  have OF := (OS.fill7 (Nat.lt_succ_self _) (.slice of0 n0 kf0) (.slice or0 r0 kr0) (.slice om0 m0 km0) (.slice none 0 0) (.int .i64 t) (.int .u64 d) (.int .i64 0)).alloc (.cells #[.slice of0 n0 kf0, .slice or0 r0 kr0, .slice om0 m0 km0] 27)
  have DF := (D2.fill7 (.slice of0 n0 kf0) (.slice or0 r0 kr0) (.slice om0 m0 km0) (.slice none 0 0) (.int .i64 t) (.int .u64 d) (.int .i64 0)).alloc (.cells #[.slice of0 n0 kf0, .slice or0 r0 kr0, .slice om0 m0 km0] 27)
  have BF := (Below.fill7 hbw (Nat.le_refl _) (.slice of0 n0 kf0) (.slice or0 r0 kr0) (.slice om0 m0 km0) (.slice none 0 0) (.int .i64 t) (.int .u64 d) (.int .i64 0)).alloc (by simp only [sizes]; omega) (.cells #[.slice of0 n0 kf0, .slice or0 r0 kr0, .slice om0 m0 km0] 27)
  generalize hW : (((((((World.setCell w1 ⟨w.heap.size, 0, none⟩ (.slice of0 n0 kf0)).setCell ⟨w.heap.size, 1, none⟩ (.slice or0 r0 kr0)).setCell ⟨w.heap.size, 2, none⟩ (.slice om0 m0 km0)).setCell ⟨w.heap.size, 3, none⟩ (.slice none 0 0)).setCell ⟨w.heap.size, 4, none⟩ (.int .i64 t)).setCell ⟨w.heap.size, 5, none⟩ (.int .u64 d)).setCell ⟨w.heap.size, 6, none⟩ (.int .i64 0)).alloc (.cells #[.slice of0 n0 kf0, .slice or0 r0 kr0, .slice om0 m0 km0] 27) = wf at OF DF BF ⊢
  clear D2_c D2_f D2_z hW
  obtain ⟨DF_c, DF_f, DF_z⟩ := DF.all
  refine bodyPost_ret (v := .tuple #[.agg #[.slice of0 n0 kf0, .slice or0 r0 kr0, .slice om0 m0 km0, .slice none 0 0, .int .i64 t, .int .u64 d, .int .i64 0], .bool true]) (by simp [results, Try.results22, go_sem, DF_c]) rfl ?_
  exact hoRet' (k := fun v => .tuple #[v, .bool true]) (H := ⟨P, [], t, d, 0⟩) HG0.out.1 HG0.out.2.1 HG0.out.2.2 rfl rfl rfl rfl OF BF
end Go.Proofs.Ytbnngjhnkegliaa
namespace Go.Proofs.Ytbnngjhnkegliaa
open Go.RowKit

/-- How many of the drawn pages are recent. -/
def recentN (E : List Bool) (L : List Int) : Nat := L.countP (fun x => (E[x.toNat]?).getD false)
def Ho.sample (H : Ho) (i n : Nat) : Ho := match H.G[i]? with
  | none => H
  | some g => ⟨H.P, H.G.set i { g with c := { g.c with a := estimateI g.c.a (recentN g.e (sampleL H.d g.e.length n)) (sampleL H.d g.e.length n).length }, e := List.replicate g.e.length false }, H.t, sampleS H.d g.e.length n, H.n⟩
theorem sampleL_range {d : Int} {n k : Nat} (hd : U64 d) : ∀ x ∈ sampleL d n k, 0 ≤ x ∧ x < n := by
  intro x hx
  unfold sampleL at hx
  split at hx
  · simp at hx
  · have hs := samOk n d hd (min (k : Int) n).toNat (by omega)
    rw [Int.toNat_natCast] at hx
    exact hs.range x hx
theorem sampleL_len {d : Int} {n k : Nat} (hd : U64 d) : (sampleL d n k).length ≤ 32 := by
  unfold sampleL
  split
  · simp
  · rename_i hb
    have hb2 : ¬ ((n : Int) < 1 ∨ 32 < (n : Int) ∨ (k : Int) < 1) := fun h => hb (decide_eq_true h)
    rw [Int.toNat_natCast, (samOk n d hd (min (k : Int) n).toNat (by omega)).olen]
    omega
theorem fill7_alloc (X : World) (o : Obj) (b : Nat) (h : b < X.heap.size) (y0 y1 y2 y3 y4 y5 y6 : Value) : ((((((((X.alloc o).setCell ⟨b, 0, none⟩ y0).setCell ⟨b, 1, none⟩ y1).setCell ⟨b, 2, none⟩ y2).setCell ⟨b, 3, none⟩ y3).setCell ⟨b, 4, none⟩ y4).setCell ⟨b, 5, none⟩ y5).setCell ⟨b, 6, none⟩ y6) = ((((((((X.setCell ⟨b, 0, none⟩ y0).setCell ⟨b, 1, none⟩ y1).setCell ⟨b, 2, none⟩ y2).setCell ⟨b, 3, none⟩ y3).setCell ⟨b, 4, none⟩ y4).setCell ⟨b, 5, none⟩ y5).setCell ⟨b, 6, none⟩ y6).alloc o) := by
  rw [World.setCell_alloc_past, World.setCell_alloc_past, World.setCell_alloc_past, World.setCell_alloc_past, World.setCell_alloc_past, World.setCell_alloc_past, World.setCell_alloc_past]
  all_goals (first | with_reducible exact h | (simp only [World.size_setCell]; with_reducible exact h))
set_option maxRecDepth 100000 in
set_option maxHeartbeats 8000000 in
theorem hsample_ok (v : Value) (H : Ho) (i k : Nat) (w : World) (ha : HoAt w v H) (hok : H.Ok) (hi : i < H.G.length) (hk : 1 ≤ k) (hk2 : k ≤ 1000) : Calls Try.prog 36 #[v, .int .i64 i, .int .i64 k] w (RetHoB (fun v => .tuple #[v, .bool true]) (H.sample i k) w) := by
  have CL := fun v w h => hclone_ok v H w h hok
  have HG0 := fun v w h => hhasG_ok v H i w h hok hi
  have HCL := Lib.hid CL; clear CL
  have HHS := Lib.hid HG0; clear HG0
  obtain ⟨g, hg⟩ := get_lt hi
  obtain ⟨l, hl, hgo⟩ := hok.page hg
  have hll := hok.p.l l (mem_at hl)
  have hds := hok.d
  have hsam : H.sample i k = ⟨H.P, H.G.set i { g with c := { g.c with a := estimateI g.c.a (recentN g.e (sampleL H.d g.e.length k)) (sampleL H.d g.e.length k).length }, e := List.replicate g.e.length false }, H.t, sampleS H.d g.e.length k, H.n⟩ := by unfold Ho.sample; rw [hg]
  rw [hsam]
  clear hsam
  have hel := hgo.le
  have hSL : ∀ x ∈ sampleL H.d g.e.length k, 0 ≤ x ∧ x < g.e.length := fun x hx => sampleL_range hds x hx
  have hSN : (sampleL H.d g.e.length k).length ≤ 32 := sampleL_len hds
  have SC := fun w => idletax_Sample_any H.d g.e.length k w hds
  have ES := fun w => idletax_Estimate_any g.c.a (recentN g.e (sampleL H.d g.e.length k)) (sampleL H.d g.e.length k).length w
  obtain ⟨SL, hSLe⟩ : ∃ x, sampleL H.d g.e.length k = x := ⟨_, rfl⟩
  obtain ⟨SS, hSSe⟩ : ∃ x, sampleS H.d g.e.length k = x := ⟨_, rfl⟩
  rw [hSLe, hSSe] at SC
  rw [hSLe] at ES hSL hSN
  rw [hSLe, hSSe]
  clear hSLe hSSe
  obtain ⟨N, hN⟩ : ∃ x, SL.length = x := ⟨_, rfl⟩
  rw [hN] at ES hSN ⊢
  obtain ⟨A, hAe⟩ : ∃ x, estimateI g.c.a (recentN g.e SL) N = x := ⟨_, rfl⟩
  rw [hAe] at ES ⊢
  clear hAe
  have HNN := Lib.hid hN; clear hN
  have HSL := Lib.hid hSL; clear hSL
  have HSC := Lib.hid SC; clear SC
  have HES := Lib.hid ES; clear ES
  obtain ⟨of, or', om, og, kf, kr, km, kg, rfl, kf1, kf2, kr1, kr2, km1, km2, kg1, kg2, h⟩ := ha
  obtain ⟨n, hn⟩ : ∃ n, H.P.F.length = n := ⟨_, rfl⟩
  obtain ⟨r, hr⟩ : ∃ n, H.P.R.length = n := ⟨_, rfl⟩
  obtain ⟨m, hm⟩ : ∃ n, H.P.M.length = n := ⟨_, rfl⟩
  obtain ⟨q, hq⟩ : ∃ n, H.G.length = n := ⟨_, rfl⟩
  obtain ⟨tx, htx⟩ : ∃ n, H.t = n := ⟨_, rfl⟩
  obtain ⟨dx, hdx⟩ : ∃ n, H.d = n := ⟨_, rfl⟩
  obtain ⟨sx, hsx⟩ : ∃ n, H.n = n := ⟨_, rfl⟩
  rw [hn] at h kf1 ⊢
  rw [hr] at h kr1 ⊢
  rw [hm] at h km1 ⊢
  rw [hq] at h kg1 ⊢
  rw [htx, hdx, hsx]
  have HN := Lib.hid hn; clear hn
  have HR := Lib.hid hr; clear hr
  have HM := Lib.hid hm; clear hm
  have HQ := Lib.hid hq; clear hq
  have HT := Lib.hid htx; clear htx
  have HD := Lib.hid hdx; clear hdx
  have HS := Lib.hid hsx; clear hsx
  have h0 := h
  have HVA : Hid (∀ w' : World, Below w.heap.size w w' → HoAt w' (.agg #[.slice of n kf, .slice or' r kr, .slice om m km, .slice og q kg, .int .i64 tx, .int .u64 dx, .int .i64 sx]) H) := Lib.hid (fun w' hb => by
    have := (h0.below hb).at_
    rwa [HT.out, HD.out, HS.out] at this)
  clear h h0
  have D1 := (HasBlock.made w #[.slice of n kf, .slice or' r kr, .slice om m km, .slice og q kg, .int .i64 tx, .int .u64 dx, .int .i64 sx] 31).alloc (.cells #[.slice none 0 0, .slice none 0 0, .slice none 0 0, .slice none 0 0, .int .i64 0, .int .u64 0, .int .i64 0] 31)
  have D2 := HasBlock.made (w.alloc (.cells #[.slice of n kf, .slice or' r kr, .slice om m km, .slice og q kg, .int .i64 tx, .int .u64 dx, .int .i64 sx] 31)) #[.slice none 0 0, .slice none 0 0, .slice none 0 0, .slice none 0 0, .int .i64 0, .int .u64 0, .int .i64 0] 31
  rw [World.size_alloc] at D2
  have hbw : Below w.heap.size w ((w.alloc (.cells #[.slice of n kf, .slice or' r kr, .slice om m km, .slice og q kg, .int .i64 tx, .int .u64 dx, .int .i64 sx] 31)).alloc (.cells #[.slice none 0 0, .slice none 0 0, .slice none 0 0, .slice none 0 0, .int .i64 0, .int .u64 0, .int .i64 0] 31)) := (by repeat (first | with_reducible exact Below.refl _ _ | with_reducible refine Below.drew ?_ | (with_reducible refine Below.alloc ?_ (by first | exact Nat.le_refl _ | omega | (dsimp only; omega) | (simp only [sizes]; omega)) _) | (with_reducible refine Below.setCell ?_ (by first | exact Nat.le_refl _ | omega | (dsimp only; omega) | (simp only [sizes]; omega)) _) | (refine Below.trans ?_ (Below.mono (by with_reducible assumption) (by first | exact Nat.le_refl _ | omega | (dsimp only; omega) | (simp only [sizes]; omega))))))
  have HOK := Lib.hid hok; clear hok hds
  have HG := Lib.hid hg; clear hg
  have HL := Lib.hid hl; clear hl
  have HGO := Lib.hid hgo; clear hgo
  have hz0 : w.heap.size + 1 + 1 = ((w.alloc (.cells #[.slice of n kf, .slice or' r kr, .slice om m km, .slice og q kg, .int .i64 tx, .int .u64 dx, .int .i64 sx] 31)).alloc (.cells #[.slice none 0 0, .slice none 0 0, .slice none 0 0, .slice none 0 0, .int .i64 0, .int .u64 0, .int .i64 0] 31)).heap.size := by simp only [sizes]
  go_enter Try.func36, Try.ntmps36
  obtain ⟨D1_c, D1_f, D1_z⟩ := D1.all
  go_wp2_with fail
  clear D1_c D1_f D1_z
  with_reducible refine (HCL.out _ _ (HVA.out _ hbw)).mono ?_
  rintro e w1 ⟨of1, or1, om1, og1, kf1', kr1', km1', kg1', us1, gs1, rfl, O1, hb1⟩
  rw [HN.out, HR.out, HM.out, HQ.out] at O1 ⊢
  rw [HT.out, HD.out, HS.out]
  replace O1 := O1.lower (base' := w.heap.size + 1 + 1) (Nat.le_of_eq hz0)
  have hz1 := hb1.size
  rw [← hz0] at hz1
  replace D1 := D1.below hb1
  replace D2 := D2.below hb1
  replace hbw := hbw.trans (hb1.mono hbw.size)
  clear hb1 hz0
  obtain ⟨D1_c, D1_f, D1_z⟩ := D1.all
  go_wp2_with fail
  clear D1_c D1_f D1_z
  have hbx : Below w1.heap.size w1 (w1.alloc (.cells #[.slice of1 n kf1', .slice or1 r kr1', .slice om1 m km1', .slice og1 q kg1', .int .i64 tx, .int .u64 dx, .int .i64 sx] 31)) := (Below.refl _ _).alloc (Nat.le_refl _) _
  have DR := HasBlock.made w1 #[.slice of1 n kf1', .slice or1 r kr1', .slice om1 m km1', .slice og1 q kg1', .int .i64 tx, .int .u64 dx, .int .i64 sx] 31
  replace D1 := D1.below hbx
  replace D2 := D2.below hbx
  replace O1 := O1.below hbx
  replace hbw := hbw.trans (hbx.mono hbw.size)
  have hz2 := hbx.size
  clear hbx
  generalize hW : w1.alloc (.cells #[.slice of1 n kf1', .slice or1 r kr1', .slice om1 m km1', .slice og1 q kg1', .int .i64 tx, .int .u64 dx, .int .i64 sx] 31) = w2 at D1 D2 DR O1 hbw hz2 ⊢
  obtain ⟨B, hB⟩ : ∃ B, w1.heap.size = B := ⟨_, rfl⟩
  rw [hB] at DR hz1 hz2 ⊢
  clear hW hB
  have hBA : w.heap.size + 1 + 1 ≤ B := hz1
  with_reducible refine (HHS.out _ _ (HVA.out _ hbw)).mono ?_
  rintro e w3 ⟨rfl, hb3⟩
  replace D1 := D1.below hb3
  replace D2 := D2.below hb3
  replace DR := DR.below hb3
  replace O1 := O1.below hb3
  replace hbw := hbw.trans (hb3.mono hbw.size)
  replace hz2 := Nat.le_trans hz2 hb3.size
  clear hb3
  have hzz : w.heap.size + 1 + 1 ≤ w3.heap.size := Nat.le_trans hBA hz2
  obtain ⟨bG, cG, y, so, sc, uo, uc, eo, ec, e0, b1, b2, hy, ys, yu, ye, _, cg2, _, sc2, _, uc2, _, ec2, cs, cfz⟩ := O1.guest HG.out
  injection e0 with e0 e9 e10
  subst e0 e10
  clear e9
  obtain ⟨ys1, yu1, ye1⟩ := y
  dsimp only at ys yu ye
  subst ys yu ye
  obtain ⟨_, _, rs3⟩ := O1.r i _ g hy HG.out
  dsimp only at rs3
  have c4 : w3.cell? ⟨bG, i * 9 + 4, none⟩ = _ := cs 4 _ rfl
  have c8 : w3.cell? ⟨bG, i * 9 + 8, none⟩ = _ := cs 8 _ rfl
  dsimp only at c4 c8
  obtain ⟨ql, hql⟩ : ∃ x, g.e.length = x := ⟨_, rfl⟩
  rw [hql] at hel HSC HSL c8 rs3 hy
  have HQL := Lib.hid hql; clear hql
  have hq1 : 1 ≤ ql ∧ ql ≤ 32 := by omega
  clear hel
  have hiq : i < q := by rw [← HQ.out]; exact lt_of_get HG.out
  have i0 : (0 : Int) ≤ (i : Int) := by omega
  have iq : (i : Int) < (q : Int) := by omega
  have kk1 : decide ((k : Int) < 1) = false := decide_eq_false (by omega)
  have HYY := Lib.hid hy; clear hy
  rw [HD.out] at HSC
  obtain ⟨D1_c, D1_f, D1_z⟩ := D1.all
  obtain ⟨DR_c, DR_f, DR_z⟩ := DR.all
  go_wp2_with fail
  have b2b := b2
  have hrule : ∀ w' : World, Below w3.heap.size w3 w' → ∀ b o, b < w3.heap.size → w'.cell? ⟨b, o, none⟩ = w3.cell? ⟨b, o, none⟩ := fun w' h b o hlt => h.cell (p := ⟨b, o, none⟩) hlt
  go_region_held3 (fun w' => Below w3.heap.size w3 w') (repeat (first | with_reducible assumption | with_reducible exact Below.refl _ _ | (with_reducible refine Below.drew ?_) | (with_reducible refine Below.alloc' ?_ (Nat.le_refl _) _) | (with_reducible refine Below.setCell ?_ (by first | exact rfl | exact Nat.le_refl _ | omega | (dsimp only; omega) | (simp only [sizes]; done) | (simp only [sizes]; omega)) _) | (refine Below.trans ?_ (Below.mono (by with_reducible assumption) (by first | exact rfl | exact Nat.le_refl _ | omega | (dsimp only; omega) | (simp only [sizes]; done) | (simp only [sizes]; omega)))))) ((first
    |
     (go_at_call 55
      with_reducible refine (HSC.out _).mono ?_
      rintro e w5 ⟨vS, rfl, hrS, hb5⟩
      obtain ⟨so5, sc5, rfl, hs51, hs52, _⟩ := hrS.out
      rw [HNN.out] at hrS hs51 ⊢
      obtain ⟨hc5, hf5⟩ := bcell hb5
      have hzz5 := bsize hb5
      (try simp only [sizes1] at hzz5)
      (try simp only [sizes] at hc5 hf5))))
  have hb35 : Below w3.heap.size w3 w5 := by (repeat (first | with_reducible assumption | with_reducible exact Below.refl _ _ | (with_reducible refine Below.drew ?_) | (with_reducible refine Below.alloc' ?_ (Nat.le_refl _) _) | (with_reducible refine Below.setCell ?_ (by first | exact rfl | exact Nat.le_refl _ | omega | (dsimp only; omega) | (simp only [sizes]; done) | (simp only [sizes]; omega)) _) | (refine Below.trans ?_ (Below.mono (by with_reducible assumption) (by first | exact rfl | exact Nat.le_refl _ | omega | (dsimp only; omega) | (simp only [sizes]; done) | (simp only [sizes]; omega))))))
  have HRS := Lib.hid hrS
  clear hrS hc5 hf5 hzz5 hb5 hrule D1_c D1_f D1_z DR_c DR_f DR_z c4 c8
  have D15 := D1.below hb35
  have D25 := D2.below hb35
  have DR5 := DR.below hb35
  have O5 := O1.below hb35
  have rs5 := Lib.hid (rs3.below hb35)
  have c45 := (hb35.cell (p := ⟨bG, i * 9 + 4, none⟩) b2).trans (cs 4 _ rfl)
  have c85 := (hb35.cell (p := ⟨bG, i * 9 + 8, none⟩) b2).trans (cs 8 _ rfl)
  dsimp only at c45 c85
  rw [HQL.out] at c85
  clear cs
  replace hbw := hbw.trans (hb35.mono hbw.size)
  have hz5 := Nat.le_trans hzz hb35.size
  have b25 : bG < w5.heap.size := Nat.lt_of_lt_of_le b2 hb35.size
  have fG5 : ∀ o, w5.frozen? ⟨bG, o, none⟩ = false := fun o => (hb35.frozen (p := ⟨bG, o, none⟩) b2).trans (cfz o)
  clear O1 D1 D2 DR rs3 cfz
  go_wp2_with fail
  go_loop [12, 44] (fun c i2 => ∃ j : Nat, j ≤ N ∧ i2 = .int .i64 j ∧ c = .int .i64 ((recentN g.e (SL.take j) : Nat) : Int)) (fun _ i2 => N - (intOf i2).toNat)
  case atStart => exact ⟨0, Nat.zero_le _, rfl, rfl⟩
  case round =>
    obtain ⟨j, hj, rfl, rfl⟩ := hrel
    have hcl : recentN g.e (SL.take j) ≤ j := countP_le _ SL j
    by_cases hlt : j < N
    · obtain ⟨x, hx⟩ := get_lt (xs := SL) (k := j) (by rw [HNN.out]; exact hlt)
      obtain ⟨hx0, hx1⟩ := HSL.out x (mem_at hx)
      obtain ⟨sb, soff, rfl, hsb, cx⟩ := EncRow.elem (enc := Value.int .i64) HRS.out hx
      obtain ⟨xn, rfl⟩ : ∃ xn : Nat, x = xn := ⟨x.toNat, by omega⟩
      obtain ⟨bb, hbb⟩ := get_lt (xs := g.e) (k := xn) (by rw [HQL.out]; omega)
      obtain ⟨eb, eoff, rfl, heb, ce⟩ := EncRow.elem rs5.out.row hbb
      have hsu := countP_succ (q := fun x : Int => (g.e[x.toNat]?).getD false) hx
      rw [Int.toNat_natCast, hbb] at hsu
      dsimp only [Option.getD] at hsu
      obtain ⟨c, hc⟩ : ∃ c, recentN g.e (SL.take j) = c := ⟨_, rfl⟩
      rw [hc] at hcl ⊢
      have hsu' : recentN g.e (SL.take (j + 1)) = c + if bb = true then 1 else 0 := by
        rw [← hc]
        exact hsu
      clear hsu hc hx hbb
      have HSU := Lib.hid hsu'; clear hsu'
      have j0 : (0 : Int) ≤ (j : Int) := by omega
      have jn : (j : Int) < (N : Int) := by omega
      have x0 : (0 : Int) ≤ (xn : Int) := by omega
      have xq : (xn : Int) < (ql : Int) := by omega
      cases bb
      · go_wp2_with fail
        go_round
        case rel => exact ⟨j + 1, by omega, by go_num, by rw [HSU.out]; rfl⟩
        case measure => simp [intOf]; omega
      · go_wp2_with fail
        go_round
        case rel => exact ⟨j + 1, by omega, by go_num, by rw [HSU.out, if_pos rfl]; go_num⟩
        case measure => simp [intOf]; omega
    · obtain rfl : j = N := by omega
      have hall : SL.take j = SL := by rw [← HNN.out]; exact List.take_length
      rw [hall]
      clear hall hcl
      have hnGB : bG ≠ B := fun e => own_off O5.g DR5 (by decide) (by rw [e]; rfl)
      have hnBG : B ≠ bG := fun e => hnGB e.symm
      have nB : w.heap.size + 1 ≠ B := by omega
      have nG : w.heap.size + 1 ≠ bG := by omega
      have hqm := make_bools ql (by omega)
      have DR5k := DR5
      have c46 : (World.setCell w5 ⟨B, 5, none⟩ (.int .u64 SS)).cell? ⟨bG, i * 9 + 4, none⟩ = some (.int .i64 g.c.a) := by simp [go_sem, c45]
      have c86 : (World.setCell w5 ⟨B, 5, none⟩ (.int .u64 SS)).cell? ⟨bG, i * 9 + 8, none⟩ = some (.slice eo ql ec) := by simp [go_sem, c85]
      have f86 : ∀ o, (World.setCell w5 ⟨B, 5, none⟩ (.int .u64 SS)).frozen? ⟨bG, o, none⟩ = false := fun o => by simp [go_sem, fG5]
      obtain ⟨DR5_c, DR5_f, DR5_z⟩ := DR5.all
      go_wp2_with fail
      clear DR5_c DR5_f DR5_z
      have O5b := O5.setbox (j := 5) DR5k hostT (.int .u64 SS)
      have DR6 := DR5k.put7_5 (.int .u64 SS)
      have D26 := D25.set_ne nB (j := 5) (.int .u64 SS)
      have hbw6 := hbw.setCell (p := ⟨B, 5, none⟩) (by dsimp only; omega) (.int .u64 SS)
      have b26 : bG < (World.setCell w5 ⟨B, 5, none⟩ (.int .u64 SS)).heap.size := by rw [World.size_setCell]; exact b25
      generalize hW : World.setCell w5 ⟨B, 5, none⟩ (.int .u64 SS) = w6 at c46 c86 f86 O5b DR6 D26 hbw6 b26 ⊢
      clear hW c45 c85 fG5 O5 DR5 DR5k D15 D25
      with_reducible refine (HES.out _).mono ?_
      rintro e w7 ⟨rfl, hb7⟩
      have O7 := O5b.below hb7
      have DR7 := DR6.below hb7
      have D27 := D26.below hb7
      have c47 := (hb7.cell (p := ⟨bG, i * 9 + 4, none⟩) b26).trans c46
      have c87 := (hb7.cell (p := ⟨bG, i * 9 + 8, none⟩) b26).trans c86
      have fG7 : ∀ o, w7.frozen? ⟨bG, o, none⟩ = false := fun o => (hb7.frozen (p := ⟨bG, o, none⟩) b26).trans (f86 o)
      have hbw7 := hbw6.trans (hb7.mono hbw6.size)
      have b27 : bG < w7.heap.size := Nat.lt_of_lt_of_le b26 hb7.size
      clear c46 c86 f86 O5b DR6 D26 hbw6 hb7
      obtain ⟨DR7_c, DR7_f, DR7_z⟩ := DR7.all
      obtain ⟨D27_c, D27_f, D27_z⟩ := D27.all
      go_wp2_with fail
      have OA := (O7.alloc (.cells (boolArr (List.replicate ql false)) 4)).setActive HG.out HYY.out A
      rw [World.setCell_alloc_past _ _ _ _ b27] at OA
      have hg2 : (H.setG i { g with c := { g.c with a := A } }).G[i]? = some { g with c := { g.c with a := A } } := by
        show (H.G.set i _)[i]? = _
        rw [List.getElem?_set, if_pos rfl, if_pos (lt_of_get HG.out)]
      have hblk : HasBlock ((World.setCell w7 ⟨bG, i * 9 + 4, none⟩ (.int .i64 A)).alloc (.cells (boolArr (List.replicate ql false)) 4)) w7.heap.size (boolArr (List.replicate ql false)) 4 := HasBlock.made' (by rw [World.size_setCell])
      have hown : OwnBool (w.heap.size + 1 + 1) ((World.setCell w7 ⟨bG, i * 9 + 4, none⟩ (.int .i64 A)).alloc (.cells (boolArr (List.replicate ql false)) 4)) (.slice (some ⟨w7.heap.size, 0, none⟩) ql ql) (List.replicate ql false) := own_enc hblk (List.length_replicate ..) (by omega) (by omega)
      have OB := OA.setRecent (i := i) (vu := .slice (some ⟨w7.heap.size, 0, none⟩) ql ql) (u := List.replicate ql false) hg2 HYY.out O7.ltG hown (fun k hk => Nat.le_of_eq (Option.some.inj (show some w7.heap.size = some k from hk)))
      rw [World.setCell_alloc_past _ _ _ _ (by rw [World.size_setCell]; exact b27)] at OB
      have hHe : (H.setG i { g with c := { g.c with a := A } }).setG i { g with c := { g.c with a := A }, e := List.replicate ql false } = ⟨H.P, H.G.set i { g with c := { g.c with a := A }, e := List.replicate ql false }, H.t, H.d, H.n⟩ := by
        unfold Ho.setG
        dsimp only
        rw [List.set_set]
      dsimp only at OB
      rw [hHe] at OB
      have hrs : w.heap.size + 1 < ((World.setCell w7 ⟨bG, i * 9 + 4, none⟩ (.int .i64 A)).setCell ⟨bG, i * 9 + 8, none⟩ (.slice (some ⟨w7.heap.size, 0, none⟩) ql ql)).heap.size := by simp only [sizes]; omega
      have OC := OB.fill7 (B := w.heap.size + 1) (by omega) (.slice of1 n kf1') (.slice or1 r kr1') (.slice om1 m km1') (.slice (some ⟨bG, 0, none⟩) q kg1') (.int .i64 tx) (.int .u64 SS) (.int .i64 sx)
      rw [fill7_alloc _ _ _ hrs] at OC
      have DC := (((D27.set_ne nG (j := i * 9 + 4) (.int .i64 A)).set_ne nG (j := i * 9 + 8) (.slice (some ⟨w7.heap.size, 0, none⟩) ql ql)).fill7 (.slice of1 n kf1') (.slice or1 r kr1') (.slice om1 m km1') (.slice (some ⟨bG, 0, none⟩) q kg1') (.int .i64 tx) (.int .u64 SS) (.int .i64 sx)).alloc (.cells (boolArr (List.replicate ql false)) 4)
      have BC := (Below.fill7 ((hbw7.setCell (p := ⟨bG, i * 9 + 4, none⟩) (by dsimp only; omega) (.int .i64 A)).setCell (p := ⟨bG, i * 9 + 8, none⟩) (by dsimp only; omega) (.slice (some ⟨w7.heap.size, 0, none⟩) ql ql)) (b := w.heap.size + 1) (by omega) (.slice of1 n kf1') (.slice or1 r kr1') (.slice om1 m km1') (.slice (some ⟨bG, 0, none⟩) q kg1') (.int .i64 tx) (.int .u64 SS) (.int .i64 sx)).alloc (by simp only [sizes]; omega) (.cells (boolArr (List.replicate ql false)) 4)
      generalize hW : ((((((((((World.setCell w7 ⟨bG, i * 9 + 4, none⟩ (.int .i64 A)).setCell ⟨bG, i * 9 + 8, none⟩ (.slice (some ⟨w7.heap.size, 0, none⟩) ql ql)).setCell ⟨w.heap.size + 1, 0, none⟩ (.slice of1 n kf1')).setCell ⟨w.heap.size + 1, 1, none⟩ (.slice or1 r kr1')).setCell ⟨w.heap.size + 1, 2, none⟩ (.slice om1 m km1')).setCell ⟨w.heap.size + 1, 3, none⟩ (.slice (some ⟨bG, 0, none⟩) q kg1')).setCell ⟨w.heap.size + 1, 4, none⟩ (.int .i64 tx)).setCell ⟨w.heap.size + 1, 5, none⟩ (.int .u64 SS)).setCell ⟨w.heap.size + 1, 6, none⟩ (.int .i64 sx)).alloc (.cells (boolArr (List.replicate ql false)) 4)) = wf at OC DC BC ⊢
      clear hW DR7_c DR7_f DR7_z D27_c D27_f D27_z
      obtain ⟨DC_c, DC_f, DC_z⟩ := DC.all
      refine bodyPost_ret (v := .tuple #[.agg #[.slice of1 n kf1', .slice or1 r kr1', .slice om1 m km1', .slice (some ⟨bG, 0, none⟩) q kg1', .int .i64 tx, .int .u64 SS, .int .i64 sx], .bool true]) (by simp [results, Try.results36, go_sem, DC_c]) rfl ?_
      rw [HQL.out]
      have OE := OC.head (H' := ⟨H.P, H.G.set i { g with c := { g.c with a := A }, e := List.replicate ql false }, tx, SS, sx⟩) rfl rfl
      exact hoRet' (k := fun v => .tuple #[v, .bool true]) (H := ⟨H.P, H.G.set i { g with c := { g.c with a := A }, e := List.replicate ql false }, tx, SS, sx⟩) HN.out HR.out HM.out ((List.length_set ..).trans HQ.out) rfl rfl rfl OE BC
end Go.Proofs.Ytbnngjhnkegliaa
namespace Go.Proofs.Ytbnngjhnkegliaa
open Go.RowKit

theorem estimateI_bd {o u n : Int} (h : 0 ≤ o ∧ o ≤ 1000) : 0 ≤ estimateI o u n ∧ estimateI o u n ≤ 1000 := by
  unfold estimateI
  split
  · exact h
  · have hn : 1 ≤ n ∧ 0 ≤ u ∧ u ≤ n := by omega
    have h1 : 0 ≤ u * 1000 / n := Int.ediv_nonneg (by omega) (by omega)
    have h2 : u * 1000 / n ≤ 1000 := Int.ediv_le_of_le_mul (by omega) (by omega)
    generalize u * 1000 / n = q at h1 h2 ⊢
    split <;> omega
theorem sampleS_u64 {d n k : Int} (hd : U64 d) : U64 (sampleS d n k) := by
  unfold sampleS
  split
  · exact hd
  · exact (samOk n.toNat d hd (min k n).toNat (by omega)).seed
/-- An estimate keeps a host valid, and touches its seed and one guest's activity and marks alone. -/
theorem sample_keeps {H : Ho} (hok : H.Ok) (i k : Nat) : (H.sample i k).Ok ∧ (H.sample i k).P = H.P ∧ (H.sample i k).G.length = H.G.length ∧ (H.sample i k).t = H.t ∧ (H.sample i k).n = H.n ∧ (∀ a b, (H.sample i k).text a b = H.text a b) ∧ ∀ (a : Nat) (g : Gm), H.G[a]? = some g → ∃ g', (H.sample i k).G[a]? = some g' ∧ g'.c.r = g.c.r ∧ g'.c.l = g.c.l ∧ g'.s = g.s ∧ g'.u = g.u := by
  unfold Ho.sample
  cases hg : H.G[i]? with
  | none => exact ⟨hok, rfl, rfl, rfl, rfl, fun _ _ => rfl, fun a g h => ⟨g, h, rfl, rfl, rfl, rfl⟩⟩
  | some g =>
    dsimp only
    have hlt := lt_of_get hg
    have hgp := hok.gmP hg
    obtain ⟨A, hA⟩ : ∃ x, estimateI g.c.a (recentN g.e (sampleL H.d g.e.length k)) (sampleL H.d g.e.length k).length = x := ⟨_, rfl⟩
    have hv := (validB_iff g.c).1 hgp.cv
    have hAb := estimateI_bd (o := g.c.a) (u := recentN g.e (sampleL H.d g.e.length k)) (n := (sampleL H.d g.e.length k).length) ⟨hv.2.2.2.2.2.2.2.1, hv.2.2.2.2.2.2.2.2⟩
    rw [hA] at hAb ⊢
    have key : ∀ (a : Nat) (g1 : Gm), (H.G.set i { g with c := { g.c with a := A }, e := List.replicate g.e.length false })[a]? = some g1 → ∃ g0, H.G[a]? = some g0 ∧ g0.s = g1.s ∧ (a ≠ i → g1 = g0) ∧ (a = i → g1 = { g with c := { g.c with a := A }, e := List.replicate g.e.length false }) := fun a g1 h1 => by
      rw [List.getElem?_set] at h1
      by_cases e : i = a
      · subst e
        rw [if_pos rfl, if_pos hlt] at h1
        cases h1
        exact ⟨g, hg, rfl, fun h => absurd rfl h, fun _ => rfl⟩
      · rw [if_neg e] at h1
        exact ⟨g1, h1, rfl, fun _ => rfl, fun h => absurd h.symm e⟩
    refine ⟨?_, rfl, List.length_set .., rfl, rfl, fun a b => ?_, fun a g1 h1 => ?_⟩
    · refine Ho.Ok.of hok hok.p (Pl.Alike.refl _) (List.length_set ..) rfl (sampleS_u64 hok.d) hok.n (sumR_set hg rfl) (fun a g1 h1 => ?_)
      obtain ⟨g0, h0, _, hne, heq⟩ := key a g1 h1
      by_cases e : a = i
      · subst e
        rw [heq rfl]
        exact ⟨(validB_iff _).2 ⟨hv.1, hv.2.1, hv.2.2.1, hv.2.2.2.1, hv.2.2.2.2.1, hv.2.2.2.2.2.1, hv.2.2.2.2.2.2.1, hAb.1, hAb.2⟩, hgp.p0, hgp.lim, hgp.ls, hgp.lu, by rw [List.length_replicate]; exact hgp.le, hgp.hd, hgp.us, hgp.sw⟩
      · rw [hne e]
        exact hok.gmP h0
    · unfold Ho.text
      dsimp only
      rw [List.getElem?_set]
      by_cases e : i = a
      · subst e
        rw [if_pos rfl, if_pos hlt, hg]
      · rw [if_neg e]
    · rw [List.getElem?_set]
      by_cases e : i = a
      · subst e
        rw [if_pos rfl, if_pos hlt]
        rw [hg] at h1
        cases h1
        exact ⟨_, rfl, rfl, rfl, rfl, rfl⟩
      · rw [if_neg e]
        exact ⟨g1, h1, rfl, rfl, rfl, rfl⟩
end Go.Proofs.Ytbnngjhnkegliaa
namespace Go.Proofs.Ytbnngjhnkegliaa
open Go.RowKit

theorem clear_rest (H : Ho) (i p : Nat) : (H.clear i p).P = H.P ∧ (H.clear i p).t = H.t ∧ (H.clear i p).d = H.d ∧ (H.clear i p).n = H.n ∧ (H.clear i p).G.length = H.G.length := by
  unfold Ho.clear
  cases hg : H.G[i]? with
  | none => exact ⟨rfl, rfl, rfl, rfl, rfl⟩
  | some g => exact ⟨rfl, rfl, rfl, rfl, List.length_set ..⟩
theorem clear_sw (H : Ho) (i p a b : Nat) : (H.clear i p).sw a b = if i = a ∧ p = b then ⟨#[]⟩ else H.sw a b := by
  unfold Ho.clear
  cases hg : H.G[i]? with
  | none =>
    dsimp only
    split
    · rename_i e
      obtain ⟨rfl, rfl⟩ := e
      unfold Ho.sw
      rw [hg]
    · rfl
  | some g =>
    unfold Ho.sw
    dsimp only [Ho.setG]
    rw [List.getElem?_set]
    by_cases e : i = a
    · subst e
      rw [if_pos rfl, if_pos (lt_of_get hg), hg]
      dsimp only
      rw [List.getElem?_set]
      by_cases e2 : p = b
      · subst e2
        rw [if_pos rfl, if_pos (show i = i ∧ p = p from ⟨rfl, rfl⟩)]
        split <;> rfl
      · rw [if_neg e2, if_neg (fun h => e2 h.2)]
    · rw [if_neg e, if_neg (fun h => e h.1)]
theorem clear_cl {H : Ho} (i p : Nat) {a : Nat} {g : Gm} (h : H.G[a]? = some g) : ∃ g', (H.clear i p).G[a]? = some g' ∧ g'.c = g.c ∧ g'.e = g.e ∧ g'.u = g.u ∧ g'.h = g.h := by
  unfold Ho.clear
  cases hg : H.G[i]? with
  | none => exact ⟨g, h, rfl, rfl, rfl, rfl⟩
  | some g0 =>
    dsimp only [Ho.setG]
    rw [List.getElem?_set]
    by_cases e : i = a
    · subst e
      rw [if_pos rfl, if_pos (lt_of_get h)]
      rw [hg] at h
      cases h
      exact ⟨_, rfl, rfl, rfl, rfl, rfl⟩
    · rw [if_neg e]
      exact ⟨g, h, rfl, rfl, rfl, rfl⟩
/-- What every operation keeps of a host. -/
structure HoKept (H H' : Ho) : Prop where
  ok : H'.Ok
  al : H.P.Alike H'.P
  gl : H'.G.length = H.G.length
  t : H'.t = H.t
  cl : ∀ (a : Nat) (g : Gm), H.G[a]? = some g → ∃ g', H'.G[a]? = some g' ∧ g'.c.r = g.c.r ∧ g'.c.l = g.c.l
theorem HoKept.trans {H K L : Ho} (h : HoKept H K) (h' : HoKept K L) : HoKept H L :=
  ⟨h'.ok, h.al.trans h'.al, h'.gl.trans h.gl, h'.t.trans h.t, fun a g hg => by
    obtain ⟨g1, h1, e1, e2⟩ := h.cl a g hg
    obtain ⟨g2, h2, e3, e4⟩ := h'.cl a g1 h1
    exact ⟨g2, h2, e3.trans e1, e4.trans e2⟩⟩
theorem HoKept.refl {H : Ho} (h : H.Ok) : HoKept H H := ⟨h, Pl.Alike.refl _, rfl, rfl, fun _ g hg => ⟨g, hg, rfl, rfl⟩⟩
theorem sample_kept {H : Ho} (hok : H.Ok) (i k : Nat) : HoKept H (H.sample i k) := by
  obtain ⟨h1, h2, h3, h4, h5, h6, h7⟩ := sample_keeps hok i k
  exact ⟨h1, by rw [h2]; exact Pl.Alike.refl _, h3, h4, fun a g hg => by
    obtain ⟨g', e1, e2, e3, _⟩ := h7 a g hg
    exact ⟨g', e1, e2, e3⟩⟩
theorem mark_kept {H : Ho} (hok : H.Ok) (i k : Nat) : HoKept H (H.mark i k) := by
  obtain ⟨e1, e2, e3, e4, e5, e6⟩ := mark_rest H i k
  exact ⟨mark_ok hok i k, by rw [e1]; exact Pl.Alike.refl _, e5, e2, fun a g hg => by
    obtain ⟨g1, h1, h2, _⟩ := get_mark (i := i) (k := k) hg
    exact ⟨g1, h1, by rw [h2], by rw [h2]⟩⟩
/-- The host that a content is put into. -/
structure Ready (H K : Ho) (i p : Nat) (d : ByteArray) : Prop where
  ok : K.Ok
  al : H.P.Alike K.P
  gl : K.G.length = H.G.length
  t : K.t = H.t
  text : ∀ a b, H.P.at a b → ¬ (i = a ∧ p = b) → K.text a b = H.text a b
  cl : ∀ (a : Nat) (g : Gm), H.G[a]? = some g → ∃ g', K.G[a]? = some g' ∧ g'.c = g.c
  sw : (K.sw i p).size = 0
  wok : K.P.wok' i p d = true
  lim : zeroB d = false → K.P.fr i p < 0 → ∀ g, K.G[i]? = some g → (K.P.chargeN i : Int) < g.c.l
/-- What a content put into a page leaves. -/
structure HoPut (H H' : Ho) (i p : Nat) (d : ByteArray) : Prop where
  k : HoKept H H'
  text : ∀ a b, H.P.at a b → H'.text a b = if i = a ∧ p = b then d else H.text a b
  pt : H'.P.text i p = d
  fr : 0 ≤ H'.P.fr i p ↔ zeroB d = false
theorem Ready.put {H K : Ho} {i p : Nat} {d : ByteArray} (h : Ready H K i p d) (hat : H.P.at i p) (hd : d.size = 128) : HoPut H ((K.setP (K.P.wr i p d)).mark i p) i p d := by
  obtain ⟨p1, p2, p3, p4, p5, p6⟩ := put_law h.ok ((h.al.at i p).2 hat) hd h.wok h.sw h.lim
  obtain ⟨e1, e2, e3, e4, e5, e6⟩ := mark_rest (K.setP (K.P.wr i p d)) i p
  refine ⟨⟨p1, by rw [e1]; exact h.al.trans p2, e5.trans h.gl, e2.trans h.t, fun a g hg => ?_⟩, fun a b hab => ?_, by rw [e1]; exact p4, by rw [e1]; exact p6⟩
  · obtain ⟨g1, h1, c1⟩ := h.cl a g hg
    obtain ⟨g2, h2, c2, _⟩ := get_mark (H := K.setP (K.P.wr i p d)) (i := i) (k := p) h1
    exact ⟨g2, h2, by rw [c2, c1], by rw [c2, c1]⟩
  · rw [p3 a b ((h.al.at a b).2 hab)]
    by_cases e : i = a ∧ p = b
    · rw [if_pos e, if_pos e]
    · rw [if_neg e, if_neg e]
      exact h.text a b hab e
theorem write_ready {H K : Ho} {i p : Nat} {d : ByteArray} (hok : H.Ok) (hat : H.P.at i p) (hd : d.size = 128) (hK : (zeroB d = false ∧ H.P.need i p = true ∧ Roomed i p (H.clear i p) K) ∨ ((zeroB d = true ∨ H.P.need i p = false) ∧ K = H.clear i p)) : Ready H K i p d := by
  obtain ⟨hc1, hc2⟩ := clear_ok (i := i) (p := p) hok
  obtain ⟨r1, r2, r3, r4, r5⟩ := clear_rest H i p
  have hat0 : (H.clear i p).P.at i p := by rw [hc2]; exact hat
  have htx : ∀ a b, ¬ (i = a ∧ p = b) → (H.clear i p).text a b = H.text a b := fun a b e => by rw [clear_text (hok.at_lt hat), if_neg e]
  have hsw : (H.clear i p).sw i p = ⟨#[]⟩ := by rw [clear_sw, if_pos ⟨rfl, rfl⟩]
  rcases hK with ⟨hz, hn, hr⟩ | ⟨hn, rfl⟩
  · obtain ⟨hk, hf⟩ := hr.kept hc1 hat0
    have hatK := (hk.al.at i p).2 hat0
    have hw := wok_of_full hk.ok.p hatK hf hd
    rw [(Pl.wr_eq hk.ok.p hatK hd).2] at hw
    refine ⟨hk.ok, by rw [← hc2]; exact hk.al, hk.gl.trans r5, hk.t.trans r2, fun a b hab e => ?_, fun a g hg => ?_, ?_, hw, fun _ h0 g hg => hr.lim hc1 hat0 h0 hg⟩
    · rw [hk.text a b (by rw [hc2]; exact hab), htx a b e]
    · obtain ⟨g1, h1, c1, _⟩ := clear_cl i p hg
      obtain ⟨g2, h2, c2, _⟩ := hk.cl a g1 h1
      exact ⟨g2, h2, c2.trans c1⟩
    · rw [(hr.sp hc1 hat0).sw, hsw]
      rfl
  · refine ⟨hc1, by rw [hc2]; exact Pl.Alike.refl _, r5, r2, fun a b _ e => htx a b e, fun a g hg => ?_, by rw [hsw]; rfl, ?_, fun hz h0 g hg => ?_⟩
    · obtain ⟨g1, h1, c1, _⟩ := clear_cl i p hg
      exact ⟨g1, h1, c1⟩
    · rw [hc2]
      rcases hn with hn | hn
      · unfold Pl.wok'
        rw [hn]
        rfl
      · have := wok_of_need hok.p hat hn hd
        rwa [(Pl.wr_eq hok.p hat hd).2] at this
    · rcases hn with hn | hn
      · rw [hn] at hz
        cases hz
      · unfold Pl.need at hn
        rw [Bool.or_eq_false_iff, decide_eq_false_iff_not] at hn
        rw [hc2] at h0
        exact absurd h0 hn.1
theorem write_keeps {H H' : Ho} {i p : Nat} {d : ByteArray} (hok : H.Ok) (hat : H.P.at i p) (hd : d.size = 128) (h : WriteTo H i p d H') : HoPut H H' i p d := by
  obtain ⟨K, hK, rfl⟩ := h
  exact (write_ready hok hat hd hK).put hat hd
theorem back_eq {K : Ho} {i p : Nat} {t : ByteArray} (hi : i < K.G.length) : K.back i p t = (K.clear i p).setP ((K.clear i p).P.wr i p t) := by
  obtain ⟨g, hg⟩ := get_lt hi
  unfold Ho.back Ho.clear
  rw [hg]
  rfl
theorem read_ready {H K : Ho} {i p : Nat} {t : ByteArray} (hok : H.Ok) (hat : H.P.at i p) (hs : H.sw i p = t) (ht : t.size ≠ 0) (hr : Roomed i p H K) : Ready H (K.clear i p) i p t := by
  obtain ⟨hk, hf⟩ := hr.kept hok hat
  have hatK := (hk.al.at i p).2 hat
  have hd : t.size = 128 := by
    rcases hok.swp hat with h1 | ⟨_, h2, _⟩
    · rw [hs] at h1
      exact absurd h1 ht
    · rw [← hs]
      exact h2
  obtain ⟨hc1, hc2⟩ := clear_ok (i := i) (p := p) hk.ok
  obtain ⟨r1, r2, r3, r4, r5⟩ := clear_rest K i p
  have hw := wok_of_full hk.ok.p hatK hf hd
  rw [(Pl.wr_eq hk.ok.p hatK hd).2] at hw
  refine ⟨hc1, by rw [hc2]; exact hk.al, r5.trans hk.gl, r2.trans hk.t, fun a b hab e => ?_, fun a g hg => ?_, ?_, by rw [hc2]; exact hw, fun _ h0 g hg => ?_⟩
  · rw [clear_text (hk.ok.at_lt hatK), if_neg e]
    exact hk.text a b hab
  · obtain ⟨g1, h1, c1, _⟩ := hk.cl a g hg
    obtain ⟨g2, h2, c2, _⟩ := clear_cl i p h1
    exact ⟨g2, h2, c2.trans c1⟩
  · rw [clear_sw, if_pos ⟨rfl, rfl⟩]
    rfl
  · rw [hc2] at h0 ⊢
    obtain ⟨g0, hg0⟩ := get_lt (hk.ok.at_lt hatK)
    obtain ⟨g1, h1, c1, _⟩ := clear_cl i p hg0
    rw [hg] at h1
    injection h1 with h1
    subst h1
    rw [c1]
    exact hr.lim hok hat h0 hg0
/-- A read keeps what it reads. -/
theorem read_keeps {H H' : Ho} {i p : Nat} (hok : H.Ok) (hat : H.P.at i p) (h : ReadTo H i p H') : HoKept H H' ∧ (∀ a b, H.P.at a b → H'.text a b = H.text a b) ∧ H'.P.text i p = H.text i p := by
  obtain ⟨g, t, hg, ht, h⟩ := h
  have hs := Ho.sw_eq hg ht
  rcases h with ⟨h0, rfl⟩ | ⟨h0, K, hr, rfl⟩
  · refine ⟨mark_kept hok i p, fun a b _ => mark_text i p a b, ?_⟩
    rw [(mark_rest H i p).1, Ho.text_sw, hs, if_pos h0]
  · have hR := read_ready hok hat hs h0 hr
    have hd : t.size = 128 := by
      rcases hok.swp hat with h1 | ⟨_, h2, _⟩
      · rw [hs] at h1
        exact absurd h1 h0
      · rw [← hs]
        exact h2
    have hk := (hr.kept hok hat).1
    have hP := hR.put hat hd
    rw [← back_eq (hk.ok.at_lt ((hk.al.at i p).2 hat))] at hP
    have ht : H.text i p = t := by rw [Ho.text_sw, hs, if_neg h0]
    refine ⟨hP.k, fun a b hab => ?_, by rw [hP.pt, ht]⟩
    rw [hP.text a b hab]
    split
    · rename_i e
      rw [← e.1, ← e.2, ht]
    · rfl
end Go.Proofs.Ytbnngjhnkegliaa
