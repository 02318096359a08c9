/-
  Texts joined for the hand-in, in build order: HoEvict TaxRows TaxVictim HoChosen HoMark HoKeep HoPMark HoRoom HoStuck. No law is proved here.
-/
import Derived.Test.YtbnngjhnkegliaaB5
import Derived.Test.YtbnngjhnkegliaaB2
import Derived.Test.YtbnngjhnkegliaaB3
import Derived.Test.YtbnngjhnkegliaaB1
import Derived.Deep.LoopGhost
namespace Go.Proofs.Ytbnngjhnkegliaa
open Go.RowKit

/-- What is known of the page that the second chance finds. -/
theorem chF_spec {r : List Bool} {x : Int} (hr : 0 < r.length) : ∀ (k a : Nat) (u : List Bool) (v : Nat) (u' : List Bool) (q : Nat), a < r.length → chF r x k a u = some (v, u', q) → v < r.length ∧ r[v]? = some true ∧ (v : Int) ≠ x ∧ u'.length = u.length ∧ (u'[v]?).getD false = false ∧ q < r.length ∧ ∀ j : Nat, u'[j]? = u[j]? ∨ u'[j]? = some false
  | 0, a, u, v, u', q, _, h => by simp [chF] at h
  | k + 1, a, u, v, u', q, ha, h => by
    have hm : (a + 1) % r.length < r.length := Nat.mod_lt _ hr
    rw [chF] at h
    split at h
    · exact chF_spec hr k _ _ _ _ _ hm h
    · rename_i h1
      split at h
      · obtain ⟨a1, a2, a3, a4, a5, a6, a7⟩ := chF_spec hr k _ _ _ _ _ hm h
        refine ⟨a1, a2, a3, by rw [a4, List.length_set], a5, a6, fun j => ?_⟩
        rcases a7 j with h2 | h2
        · rw [List.getElem?_set] at h2
          by_cases e : a = j
          · subst e
            rw [if_pos rfl] at h2
            split at h2
            · exact .inr h2
            · left
              rename_i hge
              rw [h2, List.getElem?_eq_none (by omega)]
          · rw [if_neg e] at h2
            exact .inl h2
        · exact .inr h2
      · rename_i h2
        injection h with h
        injection h with e1 h
        injection h with e2 e3
        subst e1 e2 e3
        have hra : r[a]? = some r[a] := List.getElem?_eq_getElem ha
        rw [hra] at h1
        simp only [Option.getD, not_or, Bool.not_eq_false] at h1
        refine ⟨ha, by rw [hra, h1.1], h1.2, rfl, by simpa using h2, hm, fun j => .inl rfl⟩
def Ho.evict (H : Ho) (i : Nat) (x : Int) : Option Ho :=
  match H.G[i]? with
  | none => none
  | some g => match chO g.u ((H.P.pages i).map hasB) g.h.toNat x with
    | none => none
    | some (v, u, q) => some ⟨H.P.wr i v zeros128, H.G.set i { g with u := u, h := q, s := g.s.set v (H.P.text i v) }, H.t, H.d, H.n⟩
/-- A host in a box, its rows in memory from 'base' on. -/
def HostAt (base B : Nat) (w : World) (H : Ho) : Prop := ∃ (of or' om og : Option Addr) (kf kr km kg : Nat) (us : List Value) (gs : List Gv), HasBlock w B #[.slice of H.P.F.length kf, .slice or' H.P.R.length kr, .slice om H.P.M.length km, .slice og H.G.length kg, .int .i64 H.t, .int .u64 H.d, .int .i64 H.n] 31 ∧
  OwnH base w (.slice of H.P.F.length kf) (.slice or' H.P.R.length kr) (.slice om H.P.M.length km) us (.slice og H.G.length kg) gs H
theorem HostAt.mk {base B n r m q : Nat} {w : World} {H : Ho} {of or' om og : Option Addr} {kf kr km kg : Nat} {us : List Value} {gs : List Gv} {t d s : Int} (h1 : H.P.F.length = n) (h2 : H.P.R.length = r) (h3 : H.P.M.length = m) (h4 : H.G.length = q) (ht : H.t = t) (hd : H.d = d) (hs : H.n = s) (D : HasBlock w B #[.slice of n kf, .slice or' r kr, .slice om m km, .slice og q kg, .int .i64 t, .int .u64 d, .int .i64 s] 31) (O : OwnH base w (.slice of n kf) (.slice or' r kr) (.slice om m km) us (.slice og q kg) gs H) : HostAt base B w H := by
  subst h1 h2 h3 h4 ht hd hs
  exact ⟨_, _, _, _, _, _, _, _, _, _, D, O⟩
theorem HostAt.below {base B : Nat} {w w' : World} {H : Ho} (h : HostAt base B w H) (hb : Below w.heap.size w w') : HostAt base B w' H := by
  obtain ⟨of, or', om, og, kf, kr, km, kg, us, gs, D, O⟩ := h
  exact ⟨of, or', om, og, kf, kr, km, kg, us, gs, D.below hb, O.below hb⟩
def RetEv (base B : Nat) (o : Option Ho) (H : Ho) (w : World) (e : Ending) (w' : World) : Prop := (match o with
  | none => e = .returned (.bool false) ∧ HostAt base B w' H
  | some H' => e = .returned (.bool true) ∧ HostAt base B w' H') ∧ Below base w w'
theorem boolRow_made {w : World} {b n : Nat} {R : List Bool} (h : HasBlock w b (boolArr R) 4) (hn : R.length = n) (h9 : n ≤ 1000) : BoolRow w (.slice (some ⟨b, 0, none⟩) n n) R := by
  subst hn
  refine ⟨_, _, rfl, Nat.le_refl _, by unfold maxLen; omega, .inr ⟨b, 0, rfl, h.lt, fun i u hu => ?_⟩⟩
  rw [Nat.zero_add, h.cell]
  unfold boolArr
  simpa using hu
/-- A box that has just been made for a pool, its rows new since w0. -/
def NewAt3 (w0 : World) (P : Pl) (v v2 : Value) (wx : World) : Prop := ∃ (B : Nat) (of or' om : Option Addr) (n r m kf kr km : Nat) (us : List Value), v = .pointer (some ⟨B, 0, none⟩) ∧ v2 = .bool true ∧ P.F.length = n ∧ P.R.length = r ∧ P.M.length = m ∧ HasBlock wx B #[.slice of n kf, .slice or' r kr, .slice om m km] 27 ∧ OwnP w0.heap.size wx (.slice of n kf) (.slice or' r kr) (.slice om m km) us P ∧ Below w0.heap.size w0 wx
theorem hostT : 31 ≠ 9 ∧ 31 ≠ 3 ∧ 31 ≠ 22 ∧ 31 ≠ 4 ∧ 31 ≠ 57 := ⟨by decide, by decide, by decide, by decide, by decide⟩
theorem HasBlock.ne_type {w : World} {b b' : Nat} {cs cs' : Array Value} {T T' : TypeId} (h : HasBlock w b cs T) (h' : HasBlock w b' cs' T') (hne : T ≠ T') : b ≠ b' := by
  rintro rfl
  unfold HasBlock at h h'
  rw [h] at h'
  injection h' with h'
  injection h' with _ h'
  exact hne h'
set_option maxRecDepth 100000 in
set_option maxHeartbeats 8000000 in
theorem hevict_ok (base B : Nat) (H : Ho) (i : Nat) (x : Int) (w : World) (hA : HostAt base B w H) (hB : base ≤ B) (hok : H.Ok) (hi : i < H.G.length) (hz : base ≤ w.heap.size) : Calls Try.prog 47 #[.pointer (some ⟨B, 0, none⟩), .int .i64 i, .int .i64 x] w (RetEv base B (H.evict i x) H w) := by
  obtain ⟨g, hg⟩ := get_lt hi
  obtain ⟨l, hl, hgo⟩ := hok.page hg
  have hll := hok.p.l l (mem_at hl)
  have hev : H.evict i x = match chO g.u (l.map hasB) g.h.toNat x with
    | none => none
    | some (v, u, q) => some ⟨H.P.wr i v zeros128, H.G.set i { g with u := u, h := q, s := g.s.set v (H.P.text i v) }, H.t, H.d, H.n⟩ := by
    unfold Ho.evict
    rw [hg, Pl.pages_eq hl]
  rw [hev]
  clear hev
  obtain ⟨o, ho⟩ : ∃ o, chO g.u (l.map hasB) g.h.toNat x = o := ⟨_, rfl⟩
  rw [ho]
  obtain ⟨of, or', om, og, kf, kr, km, kg, us, gs, D, O⟩ := hA
  obtain ⟨n, hn⟩ : ∃ n, H.P.F.length = n := ⟨_, rfl⟩
  obtain ⟨r, hr⟩ : ∃ n, H.P.R.length = n := ⟨_, rfl⟩
  obtain ⟨m, hm⟩ : ∃ n, H.P.M.length = n := ⟨_, rfl⟩
  obtain ⟨q, hq⟩ : ∃ n, H.G.length = n := ⟨_, rfl⟩
  obtain ⟨tx, htx⟩ : ∃ n, H.t = n := ⟨_, rfl⟩
  obtain ⟨dx, hdx⟩ : ∃ n, H.d = n := ⟨_, rfl⟩
  obtain ⟨sx, hsx⟩ : ∃ n, H.n = n := ⟨_, rfl⟩
  rw [hn, hr, hm, hq, htx, hdx, hsx] at D
  rw [hn, hr, hm, hq] at O
  have HN := Lib.hid hn; clear hn
  have HR := Lib.hid hr; clear hr
  have HM := Lib.hid hm; clear hm
  have HQ := Lib.hid hq; clear hq
  have HT := Lib.hid htx; clear htx
  have HD := Lib.hid hdx; clear hdx
  have HS := Lib.hid hsx; clear hsx
  have hAB := D.lt
  obtain ⟨bG, cG, y, so, sc, uo, uc, eo, ec, e0, b1, b2, hy, ys, yu, ye, _, cg2, _, sc2, _, uc2, _, ec2, cs, cfz⟩ := O.guest hg
  injection e0 with e0 e9 e10
  subst e0 e10
  clear e9
  obtain ⟨mb, moff, lo, lc, rfl, hmb, cm0, lc1, lc2, hL⟩ := O.row.p.guest hl
  have hnGB : bG ≠ B := fun e => by
    have := own_off O.g D (by decide)
    exact this (by rw [e]; rfl)
  obtain ⟨ys1, yu1, ye1⟩ := y
  dsimp only at ys yu ye
  subst ys yu ye
  have hrs := O.r i _ g hy hg
  obtain ⟨rs1, rs2, rs3⟩ := hrs
  dsimp only at rs1 rs2 rs3
  have hsl := hgo.ls
  have hul := hgo.lu
  have hel := hgo.le
  obtain ⟨hd0, hd1⟩ := hgo.hd
  obtain ⟨hh, hhn⟩ : ∃ k : Nat, g.h = k := ⟨g.h.toNat, by omega⟩
  rw [hhn, Int.toNat_natCast] at ho
  rw [hhn] at hd0 hd1
  have c5 : w.cell? ⟨bG, i * 9 + 5, none⟩ = _ := cs 5 _ rfl
  have c6 : w.cell? ⟨bG, i * 9 + 6, none⟩ = _ := cs 6 _ rfl
  have c7 : w.cell? ⟨bG, i * 9 + 7, none⟩ = _ := cs 7 _ rfl
  clear cs
  dsimp only at c5 c6 c7
  rw [hhn] at c7
  obtain ⟨ql, hql⟩ : ∃ k, l.length = k := ⟨_, rfl⟩
  rw [hql] at hll cm0 hL hsl hul hel hd1
  rw [hsl] at c5 rs1 hy
  rw [hul] at c6 rs2 hy
  rw [hel] at rs3 hy
  have hiq : i < q := by rw [← HQ.out]; exact hi
  have him : i < m := by rw [← HM.out]; exact lt_of_get hl
  have hfb : ∀ f ∈ l, -1 ≤ f ∧ f ≤ 96 := fun f hf => by
    have := hok.p.pg l (mem_at hl) f hf
    have := hok.p.n2
    omega
  obtain ⟨gS, rfl, gs1, gs2⟩ := rs1.addr hsl (by omega)
  have HOK := Lib.hid hok; clear hok
  have HG := Lib.hid hg; clear hg
  have HL := Lib.hid hl; clear hl
  have HGO := Lib.hid hgo; clear hgo hhn
  have HV0 := Lib.hid ho; clear ho
  have HYY := Lib.hid hy; clear hy
  have HQL := Lib.hid hql; clear hql
  have HSL := Lib.hid hsl; clear hsl
  have HUL := Lib.hid hul; clear hul
  have HEL := Lib.hid hel; clear hel hi
  have HLL := Lib.hid hL; clear hL
  have HFB := Lib.hid hfb; clear hfb
  have i0 : (0 : Int) ≤ (i : Int) := by omega
  have iq : (i : Int) < (q : Int) := by omega
  have im : (i : Int) < (m : Int) := by omega
  have hmk := make_bools ql (by omega)
  have HLT := Lib.hid O.ltG
  obtain ⟨D_c, D_f, D_z⟩ := D.all
  go_enter Try.func47, Try.ntmps47
  go_wp2_with fail
  clear D_c D_f D_z
  go_loopw [43] (fun iv wr => ∃ (j : Nat) (R : List Bool), j ≤ ql ∧ iv = .int .i64 j ∧ Hid (R.length = ql ∧ ∀ k : Nat, k < j → R[k]? = (l[k]?).map hasB) ∧ HasBlock wr w.heap.size (boolArr R) 4 ∧ Below w.heap.size w wr) (fun iv _ => ql - (intOf iv).toNat)
  case atStart => exact ⟨0, List.replicate ql false, by omega, rfl, ⟨List.length_replicate .., fun k hk => by omega⟩, HasBlock.made _ _ _, (Below.refl _ _).alloc (Nat.le_refl _) _⟩
  case round =>
    obtain ⟨j, R, hj, rfl, HRR, DR, hbr⟩ := hrel
    by_cases hjq : j < ql
    · obtain ⟨f, hf⟩ := get_lt (xs := l) (k := j) (by rw [HQL.out]; exact hjq)
      obtain ⟨fb, foff, rfl, hfb, cf0⟩ := HLL.out.elem hf
      have cf := (hbr.cell (p := ⟨fb, foff + j, none⟩) hfb).trans cf0
      have HF := Lib.hid hf; clear hf
      have j0 : (0 : Int) ≤ (j : Int) := by omega
      have jq : (j : Int) < (ql : Int) := by omega
      obtain ⟨rb, hrb⟩ := get_lt (xs := R) (k := j) (by rw [HRR.out.1]; exact hjq)
      have hra : (boolArr R)[j]? = some (.bool rb) := by
        unfold boolArr
        rw [List.getElem?_toArray, List.getElem?_map, hrb]
        rfl
      clear hrb
      obtain ⟨DR_c, DR_f, DR_z⟩ := DR.all
      go_wp2_with fail
      go_roundw
      case rel =>
        refine ⟨j + 1, R.set j (hasB f), by omega, by go_num, ⟨by rw [List.length_set]; exact HRR.out.1, fun k hk => ?_⟩, ?_, hbr.setCell (by dsimp only; omega) _⟩
        · rw [List.getElem?_set, HRR.out.1]
          by_cases e : j = k
          · subst e
            rw [if_pos rfl, if_pos hjq, HF.out]
            rfl
          · rw [if_neg e]
            exact HRR.out.2 k (by omega)
        · rw [← boolArr_set]
          exact DR.set_at j _
      case measure => simp [intOf]; omega
    · obtain rfl : j = ql := by omega
      have hRl : R = l.map hasB := by
        apply List.ext_getElem?
        intro k
        rw [List.getElem?_map]
        by_cases hk : k < j
        · exact HRR.out.2 k hk
        · rw [List.getElem?_eq_none (by rw [HRR.out.1]; omega), List.getElem?_eq_none (by rw [HQL.out]; omega)]
          rfl
      have hRow := boolRow_made DR HRR.out.1 (by omega)
      rw [hRl] at hRow
      clear HRR hRl DR
      have rs2r := rs2.row.below hbr
      have hVC := fun w' h1 h2 => chance_any uo (some ⟨w.heap.size, 0, none⟩) uc j j g.u (l.map hasB) hh x w' h1 h2 HUL.out (by rw [List.length_map, HQL.out]) (by omega) (by omega) (by omega)
      rw [HV0.out] at hVC
      have HVC := Lib.hid hVC; clear hVC
      have HRW := Lib.hid hRow; clear hRow
      have HUW := Lib.hid rs2r; clear rs2r
      have c5r := (hbr.cell (p := ⟨bG, i * 9 + 5, none⟩) b2).trans c5
      have c6r := (hbr.cell (p := ⟨bG, i * 9 + 6, none⟩) b2).trans c6
      have c7r := (hbr.cell (p := ⟨bG, i * 9 + 7, none⟩) b2).trans c7
      have hbz := hbr.size
      have b2r : bG < wr.heap.size := by omega
      go_wp2_with fail
      have hrule : ∀ w' : World, Below wr.heap.size wr w' → ∀ b o, b < wr.heap.size → w'.cell? ⟨b, o, none⟩ = wr.cell? ⟨b, o, none⟩ := fun w' h b o hlt => h.cell (p := ⟨b, o, none⟩) hlt
      go_region_held3 (fun w' => Below wr.heap.size wr w') (repeat (first | with_reducible assumption | with_reducible exact Below.refl _ _ | (with_reducible refine Below.drew ?_) | (with_reducible refine Below.alloc' ?_ (Nat.le_refl _) _) | (with_reducible refine Below.setCell ?_ (by first | exact rfl | exact Nat.le_refl _ | omega | (dsimp only; omega) | (simp only [sizes]; done) | (simp only [sizes]; omega)) _) | (refine Below.trans ?_ (Below.mono (by with_reducible assumption) (by first | exact rfl | exact Nat.le_refl _ | omega | (dsimp only; omega) | (simp only [sizes]; done) | (simp only [sizes]; omega)))))) ((first
        |
         (go_at_call 62
          with_reducible refine (HVC.out _ (HUW.out.below (by (repeat (first | with_reducible assumption | with_reducible exact Below.refl _ _ | (with_reducible refine Below.drew ?_) | (with_reducible refine Below.alloc' ?_ (Nat.le_refl _) _) | (with_reducible refine Below.setCell ?_ (by first | exact rfl | exact Nat.le_refl _ | omega | (dsimp only; omega) | (simp only [sizes]; done) | (simp only [sizes]; omega)) _) | (refine Below.trans ?_ (Below.mono (by with_reducible assumption) (by first | exact rfl | exact Nat.le_refl _ | omega | (dsimp only; omega) | (simp only [sizes]; done) | (simp only [sizes]; omega)))))))) (HRW.out.below (by (repeat (first | with_reducible assumption | with_reducible exact Below.refl _ _ | (with_reducible refine Below.drew ?_) | (with_reducible refine Below.alloc' ?_ (Nat.le_refl _) _) | (with_reducible refine Below.setCell ?_ (by first | exact rfl | exact Nat.le_refl _ | omega | (dsimp only; omega) | (simp only [sizes]; done) | (simp only [sizes]; omega)) _) | (refine Below.trans ?_ (Below.mono (by with_reducible assumption) (by first | exact rfl | exact Nat.le_refl _ | omega | (dsimp only; omega) | (simp only [sizes]; done) | (simp only [sizes]; omega))))))))).mono ?_
          rintro e w5 ⟨ao5, cp5, u5, v5, h5, rfl, o5, hb5, hm5⟩
          obtain ⟨hc5, hf5⟩ := bcell hb5
          have hzz5 := bsize hb5
          (try simp only [sizes1] at hzz5)
          (try simp only [sizes] at hc5 hf5))))
      have hb5' : Below wr.heap.size wr w5 := by (repeat (first | with_reducible assumption | with_reducible exact Below.refl _ _ | (with_reducible refine Below.drew ?_) | (with_reducible refine Below.alloc' ?_ (Nat.le_refl _) _) | (with_reducible refine Below.setCell ?_ (by first | exact rfl | exact Nat.le_refl _ | omega | (dsimp only; omega) | (simp only [sizes]; done) | (simp only [sizes]; omega)) _) | (refine Below.trans ?_ (Below.mono (by with_reducible assumption) (by first | exact rfl | exact Nat.le_refl _ | omega | (dsimp only; omega) | (simp only [sizes]; done) | (simp only [sizes]; omega))))))
      have HB5 : Below w.heap.size w w5 := hbr.trans (hb5'.mono hbr.size)
      have o5' := o5.lower (base' := wr.heap.size) (by simp only [sizes]; omega)
      clear hc5 hf5 hzz5 hb5 hb5' hrule o5 c5r c6r c7r b2r HVC HRW HUW
      have D5 := D.below HB5
      have O5 := O.below HB5
      cases o with
      | none =>
        obtain rfl := hm5
        go_wp2_with fail
        go_ret
        exact ⟨⟨rfl, HostAt.mk HN.out HR.out HM.out HQ.out HT.out HD.out HS.out D5 O5⟩, HB5.mono hz⟩
      | some a =>
        obtain ⟨v, u, qn⟩ := a
        obtain ⟨rfl, e5u, rfl⟩ := hm5
        replace e5u := e5u.symm
        subst e5u
        have hsp := HV0.out
        unfold chO at hsp
        obtain ⟨p1, p2, p3, p4, p5, p6, p7⟩ := chF_spec (by rw [List.length_map, HQL.out]; omega) _ _ _ _ _ _ (by rw [List.length_map, HQL.out]; omega) hsp
        rw [List.length_map, HQL.out] at p1 p6
        rw [HUL.out] at p4
        obtain ⟨f, hf⟩ := get_lt (xs := l) (k := v) (by rw [HQL.out]; exact p1)
        have hat : H.P.at i v := ⟨l, f, HL.out, hf⟩
        have hok := HOK.out
        have RDc := fun v' w h => pread_any v' H.P i v w h hok.p.fit
        rw [Pl.read_eq hok.p hat, Pl.at_has hok.p hat] at RDc
        have WRc := fun v' w h => pwrite_own v' H.P i v zeros128 w h hok.p.fit hok.p.small
        obtain ⟨we1, we2⟩ := Pl.wr_eq hok.p hat zeros128_size
        have hwok : H.P.wok i v zeros128 = true := by rw [we2]; unfold Pl.wok'; rw [zeros128_zero]; rfl
        rw [hwok] at WRc
        have RPc := fun w => rep_any w
        clear hsp p2 p5 p7 hf hat hok we1 we2 hwok
        obtain ⟨t, ht⟩ : ∃ t, H.P.text i v = t := ⟨_, rfl⟩
        obtain ⟨P2, hP2⟩ : ∃ P, H.P.wr i v zeros128 = P := ⟨_, rfl⟩
        obtain ⟨zz, hzz⟩ : ∃ z, zeros128 = z := ⟨_, rfl⟩
        rw [ht] at RDc
        rw [hP2, hzz] at WRc
        rw [hzz] at RPc
        have HRD := Lib.hid RDc; clear RDc
        have HWR := Lib.hid WRc; clear WRc
        have HRP := Lib.hid RPc; clear RPc
        have HTT := Lib.hid (And.intro ht (And.intro hP2 hzz)); clear ht hP2 hzz
        have vq : (v : Int) < (j : Int) := by omega
        have v0 : (0 : Int) ≤ (v : Int) := by omega
        have hneg : decide ((v : Int) < 0) = false := decide_eq_false (by omega)
        obtain ⟨D5_c, D5_f, D5_z⟩ := D5.all
        go_wp2_with fail
        clear D5_c D5_f D5_z
        with_reducible refine (HRD.out _ _ O5.row.p).mono ?_
        rintro e w6 ⟨rfl, hb6⟩
        replace HB5 := HB5.trans (hb6.mono HB5.size)
        replace D5 := D5.below hb6
        replace O5 := O5.below hb6
        replace o5' := o5'.below hb6
        clear hb6
        obtain ⟨D5_c, D5_f, D5_z⟩ := D5.all
        go_wp2_with fail
        go_cut [16, 17] from 81 to 91 (fun v v2 wx => NewAt3 w6 P2 v v2 wx)
        case first =>
          have hrule : ∀ w' : World, Below w6.heap.size w6 w' → ∀ b o, b < w6.heap.size → w'.cell? ⟨b, o, none⟩ = w6.cell? ⟨b, o, none⟩ := fun w' h b o hlt => h.cell (p := ⟨b, o, none⟩) hlt
          go_region_held3 (fun w' => Below w6.heap.size w6 w') (repeat (first | with_reducible assumption | with_reducible exact Below.refl _ _ | (with_reducible refine Below.drew ?_) | (with_reducible refine Below.alloc' ?_ (Nat.le_refl _) _) | (with_reducible refine Below.setCell ?_ (by first | exact rfl | exact Nat.le_refl _ | omega | (dsimp only; omega) | (simp only [sizes]; done) | (simp only [sizes]; omega)) _) | (refine Below.trans ?_ (Below.mono (by with_reducible assumption) (by first | exact rfl | exact Nat.le_refl _ | omega | (dsimp only; omega) | (simp only [sizes]; done) | (simp only [sizes]; omega)))))) ((first
            |
             (go_at_call 57
              with_reducible refine (HRP.out _).mono ?_
              rintro e w7 ⟨rfl, hb7⟩
              obtain ⟨hc7, hf7⟩ := bcell hb7
              have hzz7 := bsize hb7
              (try simp only [sizes1] at hzz7)
              (try simp only [sizes] at hc7 hf7))
            |
             (go_at_call 29
              with_reducible refine (HWR.out _ _ (O5.row.p.below (by (repeat (first | with_reducible assumption | with_reducible exact Below.refl _ _ | (with_reducible refine Below.drew ?_) | (with_reducible refine Below.alloc' ?_ (Nat.le_refl _) _) | (with_reducible refine Below.setCell ?_ (by first | exact rfl | exact Nat.le_refl _ | omega | (dsimp only; omega) | (simp only [sizes]; done) | (simp only [sizes]; omega)) _) | (refine Below.trans ?_ (Below.mono (by with_reducible assumption) (by first | exact rfl | exact Nat.le_refl _ | omega | (dsimp only; omega) | (simp only [sizes]; done) | (simp only [sizes]; omega))))))))).mono ?_
              rintro e w8 ⟨of6, or6, om6, kf6, kr6, km6, us6, rfl, O6, hb8⟩
              obtain ⟨n6, hgn⟩ : ∃ n, (Pl.F P2).length = n := ⟨_, rfl⟩
              obtain ⟨r6, hgr⟩ : ∃ n, (Pl.R P2).length = n := ⟨_, rfl⟩
              obtain ⟨m6, hgm⟩ : ∃ n, (Pl.M P2).length = n := ⟨_, rfl⟩
              rw [hgn, hgr, hgm] at O6 ⊢
              have HG6 := Lib.hid (And.intro hgn (And.intro hgr hgm))
              clear hgn hgr hgm
              obtain ⟨hc8, hf8⟩ := bcell hb8
              have hzz8 := bsize hb8
              (try simp only [sizes1] at hzz8)
              (try simp only [sizes] at hc8 hf8))))
          all_goals
            have hb8' : Below w6.heap.size w6 w8 := by (repeat (first | with_reducible assumption | with_reducible exact Below.refl _ _ | (with_reducible refine Below.drew ?_) | (with_reducible refine Below.alloc' ?_ (Nat.le_refl _) _) | (with_reducible refine Below.setCell ?_ (by first | exact rfl | exact Nat.le_refl _ | omega | (dsimp only; omega) | (simp only [sizes]; done) | (simp only [sizes]; omega)) _) | (refine Below.trans ?_ (Below.mono (by with_reducible assumption) (by first | exact rfl | exact Nat.le_refl _ | omega | (dsimp only; omega) | (simp only [sizes]; done) | (simp only [sizes]; omega))))))
            have O6' := O6.lower (base' := w6.heap.size) (by first | exact Nat.le_refl _ | omega | (simp only [sizes]; omega))
            go_wp2_with fail
            go_meet
            refine ⟨_, of6, or6, om6, n6, r6, m6, kf6, kr6, km6, us6, rfl, rfl, HG6.out.1, HG6.out.2.1, HG6.out.2.2, ?h1, ?h2, ?h3⟩
            case h1 => (repeat' (first | with_reducible assumption | (with_reducible refine HasBlock.drew ?_) | (with_reducible refine HasBlock.made' (by first | exact rfl | exact Nat.le_refl _ | omega | (dsimp only; omega) | (simp only [sizes]; done) | (simp only [sizes]; omega))) | (with_reducible refine HasBlock.alloc ?_ _) | (with_reducible refine HasBlock.fill3 ?_) | (with_reducible refine HasBlock.fill_ne ?_ (by first | exact rfl | exact Nat.le_refl _ | omega | (dsimp only; omega) | (simp only [sizes]; done) | (simp only [sizes]; omega)) _ _ _) | (with_reducible refine HasBlock.below ?_ hb8) | (with_reducible refine HasBlock.below ?_ hb7)))
            case h2 => (repeat' (first | with_reducible assumption | (with_reducible refine OwnP.drew ?_) | (with_reducible refine OwnP.alloc ?_ _) | (with_reducible refine OwnP.fill (x0 := .slice none 0 0) (x1 := .slice none 0 0) (x2 := .slice none 0 0) (T := 27) ?_ ?_ (by decide) (by decide) (by decide) _ _ _) | (with_reducible refine OwnP.below ?_ hb8) | (with_reducible refine OwnP.below ?_ hb7) | (with_reducible refine HasBlock.drew ?_) | (with_reducible refine HasBlock.made' (by first | exact rfl | exact Nat.le_refl _ | omega | (dsimp only; omega) | (simp only [sizes]; done) | (simp only [sizes]; omega))) | (with_reducible refine HasBlock.alloc ?_ _) | (with_reducible refine HasBlock.below ?_ hb8) | (with_reducible refine HasBlock.below ?_ hb7)))
            case h3 => (repeat (first | with_reducible assumption | with_reducible exact Below.refl _ _ | (with_reducible refine Below.drew ?_) | (with_reducible refine Below.alloc' ?_ (Nat.le_refl _) _) | (with_reducible refine Below.setCell ?_ (by first | exact rfl | exact Nat.le_refl _ | omega | (dsimp only; omega) | (simp only [sizes]; done) | (simp only [sizes]; omega)) _) | (refine Below.trans ?_ (Below.mono (by with_reducible assumption) (by first | exact rfl | exact Nat.le_refl _ | omega | (dsimp only; omega) | (simp only [sizes]; done) | (simp only [sizes]; omega))))))
        case rest =>
          clear D5_c D5_f D5_z
          obtain ⟨B2, of2, or2, om2, n2, r2, m2, kf2, kr2, km2, us2, rfl, rfl, hn2, hr2, hm2, D2, O2, hb9⟩ := hcut
          have HBc : Below w.heap.size w wc := HB5.trans (hb9.mono HB5.size)
          have Dc := D5.below hb9
          have Oc := O5.below hb9
          have o5c := o5'.below hb9
          have hbS : base ≤ w6.heap.size := Nat.le_trans hz HB5.size
          have hyp : w.heap.size ≤ wr.heap.size := hbz
          have Oa := Oc.newPool (O2.lower hbS) O5.ltG O2.ge
          have Ob := Oa.setUsed (i := i) HG.out HYY.out HLT.out (o5c.lower (Nat.le_trans hz hyp)) (fun k hk => Nat.le_trans hyp (o5c.ge k hk))
          have hg2 : ((H.setP P2).setG i { g with u := u }).G[i]? = some { g with u := u } := by
            show (H.G.set i _)[i]? = _
            rw [List.getElem?_set, if_pos rfl, if_pos (lt_of_get HG.out)]
          have hx2 : (gs.set i { s := Value.slice (some ⟨gS, 0, none⟩) j sc, u := Value.slice ao5 j cp5, e := Value.slice eo j ec })[i]? = some { s := Value.slice (some ⟨gS, 0, none⟩) j sc, u := Value.slice ao5 j cp5, e := Value.slice eo j ec } := by
            rw [List.getElem?_set, if_pos rfl, if_pos (lt_of_get HYY.out)]
          have Oe := Ob.setHand hg2 hx2 (qn : Int)
          have hg3 : (((H.setP P2).setG i { g with u := u }).setG i { g with u := u, h := (qn : Int) }).G[i]? = some { g with u := u, h := (qn : Int) } := by
            show ((H.G.set i _).set i _)[i]? = _
            rw [List.getElem?_set, if_pos rfl, if_pos (by rw [List.length_set]; exact lt_of_get HG.out)]
          have Of := Oe.putS hg3 hx2 rfl v t
          have hHe : (((H.setP P2).setG i { g with u := u }).setG i { g with u := u, h := (qn : Int) }).setG i { g with u := u, h := (qn : Int), s := g.s.set v t } = ⟨P2, H.G.set i { g with u := u, h := (qn : Int), s := g.s.set v t }, H.t, H.d, H.n⟩ := by
            unfold Ho.setG Ho.setP
            dsimp only
            rw [List.set_set, List.set_set]
          dsimp only at Of
          rw [hHe] at Of
          have HOf := Lib.hid Of; clear Oa Ob Oe Of hg2 hx2 hg3 hHe
          obtain ⟨s0, hs0⟩ := get_lt (xs := g.s) (k := v) (by rw [HSL.out]; exact p1)
          obtain ⟨cS0, fS0⟩ := rs1.at hs0
          clear hs0
          have cS := (HBc.cell (p := ⟨gS, v, none⟩) gs2).trans cS0
          have fS := (HBc.frozen (p := ⟨gS, v, none⟩) gs2).trans fS0
          have c5c := (HBc.cell (p := ⟨bG, i * 9 + 5, none⟩) b2).trans c5
          have c6c := (HBc.cell (p := ⟨bG, i * 9 + 6, none⟩) b2).trans c6
          have c7c := (HBc.cell (p := ⟨bG, i * 9 + 7, none⟩) b2).trans c7
          have fGc : ∀ o, wc.frozen? ⟨bG, o, none⟩ = false := fun o => (HBc.frozen (p := ⟨bG, o, none⟩) b2).trans (cfz o)
          have n1 : bG ≠ B2 := fun e => own_off Oc.g D2 (by decide) (by rw [e]; rfl)
          have n2' : gS ≠ B2 := fun e => own_off (rs1.below HBc) D2 (by decide) (by rw [e]; rfl)
          have n3 : gS ≠ B := fun e => own_off rs1 D (by decide) (by rw [e]; rfl)
          have n4 : gS ≠ bG := fun e => own_ne_type rs1 O.g (by decide) rfl (by rw [e]; rfl)
          have n5 : B2 ≠ B := D2.ne_type Dc (by decide)
          have n6 : B ≠ bG := fun e => hnGB e.symm
          have DE := Dc
          clear O5 o5c Oc rs1 rs2 rs3 O D c5 c6 c7 cS0 fS0
          obtain ⟨Dc_c, Dc_f, Dc_z⟩ := Dc.all
          obtain ⟨D2_c, D2_f, D2_z⟩ := D2.all
          go_wp2_with fail
          go_ret
          rw [HTT.out.2.1, HTT.out.1]
          have D3 := ((DE.set_ne n6 (j := i * 9 + 6) (.slice ao5 j cp5)).set_ne n6 (j := i * 9 + 7) (.int .i64 (qn : Int))).set_ne (b' := gS) (fun e => n3 e.symm) (j := v) (.string t)
          have OF := ((HOf.out.setbox (j := 0) D3 hostT (.slice of2 n2 kf2)).setbox (j := 1) (D3.put7_0 (.slice of2 n2 kf2)) hostT (.slice or2 r2 kr2)).setbox (j := 2) ((D3.put7_0 (.slice of2 n2 kf2)).put7_1 (.slice or2 r2 kr2)) hostT (.slice om2 m2 km2)
          have DF := D3.poolIn (.slice of2 n2 kf2) (.slice or2 r2 kr2) (.slice om2 m2 km2)
          have BF := ((((((HBc.mono hz).setCell (p := ⟨bG, i * 9 + 6, none⟩) b1 (.slice ao5 j cp5)).setCell (p := ⟨bG, i * 9 + 7, none⟩) b1 (.int .i64 (qn : Int))).setCell (p := ⟨gS, v, none⟩) gs1 (.string t)).setCell (p := ⟨B, 0, none⟩) hB (.slice of2 n2 kf2)).setCell (p := ⟨B, 1, none⟩) hB (.slice or2 r2 kr2)).setCell (p := ⟨B, 2, none⟩) hB (.slice om2 m2 km2)
          have HA' := HostAt.mk (H := ⟨P2, H.G.set i { g with u := u, h := (qn : Int), s := g.s.set v t }, H.t, H.d, H.n⟩) hn2 hr2 hm2 ((List.length_set ..).trans HQ.out) HT.out HD.out HS.out DF OF
          exact ⟨⟨rfl, HA'⟩, BF⟩
end Go.Proofs.Ytbnngjhnkegliaa
namespace Go.Proofs.Ytbnngjhnkegliaa
open Go.RowKit

def clmCells (c : Clm) : List Value := [.int .i64 c.r, .int .i64 c.l, .int .i64 c.s, .int .i64 c.p, .int .i64 c.a]
def ClmRow (w : World) (v : Value) (cs : List Clm) : Prop := RowAt w v cs.length (cs.flatMap clmCells)
theorem flat_at {α : Type} (f : α → List Value) (n : Nat) (hf : ∀ x, (f x).length = n) : ∀ (xs : List α) (k : Nat) (x : α), xs[k]? = some x → ∀ j, j < n → (xs.flatMap f)[k * n + j]? = (f x)[j]?
  | [], k, x, h, _, _ => by simp at h
  | y :: xs, 0, x, h, j, hj => by
    simp at h
    subst h
    rw [List.flatMap_cons, Nat.zero_mul, Nat.zero_add, List.getElem?_append_left (by rw [hf]; exact hj)]
  | y :: xs, k + 1, x, h, j, hj => by
    simp at h
    rw [List.flatMap_cons, List.getElem?_append_right (by rw [hf, Nat.add_mul]; omega), hf, show (k + 1) * n + j - n = k * n + j from by rw [Nat.add_mul]; omega]
    exact flat_at f n hf xs k x h j hj
theorem ClmRow.below {w w' : World} {v : Value} {cs : List Clm} (h : ClmRow w v cs) (hb : Below w.heap.size w w') : ClmRow w' v cs := RowAt.below h hb
theorem ClmRow.below' {w w' : World} {v : Value} {cs : List Clm} (h : ClmRow w v cs) (hb : Below w.heap.size w w') : ClmRow w' v cs := RowAt.below h hb
def ClmAt (w : World) (b o : Nat) (c : Clm) : Prop :=
  w.cell? ⟨b, o, none⟩ = some (.int .i64 c.r) ∧ w.cell? ⟨b, o + 1, none⟩ = some (.int .i64 c.l) ∧ w.cell? ⟨b, o + 2, none⟩ = some (.int .i64 c.s) ∧ w.cell? ⟨b, o + 3, none⟩ = some (.int .i64 c.p) ∧ w.cell? ⟨b, o + 4, none⟩ = some (.int .i64 c.a)
theorem ClmRow.out {w : World} {v : Value} {cs : List Clm} (h : ClmRow w v cs) : ∃ (ao : Option Addr) (cap : Nat), v = .slice ao cs.length cap ∧ cs.length ≤ cap ∧ cap ≤ maxLen ∧
    (cs.length = 0 ∨ ∃ b off, ao = some ⟨b, off, none⟩ ∧ b < w.heap.size ∧ ∀ (i : Nat) (c : Clm), cs[i]? = some c → ClmAt w b (off + i * 5) c) := by
  obtain ⟨ao, cap, hv, h1, h2, h3⟩ := h
  refine ⟨ao, cap, hv, h1, h2, ?_⟩
  rcases h3 with h3 | ⟨b, off, ha, hlt, hc⟩
  · left
    cases cs with
    | nil => rfl
    | cons c cs => simp [clmCells] at h3
  · refine .inr ⟨b, off, ha, hlt, fun i c hx => ?_⟩
    have hh := flat_at clmCells 5 (fun _ => rfl) cs i c hx
    refine ⟨?_, ?_, ?_, ?_, ?_⟩
    · exact hc _ _ ((hh 0 (by omega)).trans rfl)
    · exact hc _ _ ((hh 1 (by omega)).trans rfl)
    · exact hc _ _ ((hh 2 (by omega)).trans rfl)
    · exact hc _ _ ((hh 3 (by omega)).trans rfl)
    · exact hc _ _ ((hh 4 (by omega)).trans rfl)

def SameI (xs ys : List Int) (k : Nat) : Prop := ∀ i, i < k → xs[i]? = ys[i]?
theorem SameI.eq {xs ys : List Int} (h : SameI xs ys xs.length) (hl : xs.length = ys.length) : xs = ys := by
  apply List.ext_getElem?
  intro i
  by_cases hi : i < xs.length
  · exact h i hi
  · rw [List.getElem?_eq_none (by omega), List.getElem?_eq_none (by omega)]
theorem SameI.step {xs ys : List Int} {k : Nat} {x : Int} (h : SameI xs ys k) (hx : xs[k]? = some x) (hy : ys[k]? = some x) : SameI xs ys (k + 1) := by
  intro i hi
  by_cases e : i = k
  · rw [e, hx, hy]
  · exact h i (by omega)

end Go.Proofs.Ytbnngjhnkegliaa
namespace Go.Proofs.Ytbnngjhnkegliaa
open Go.RowKit

def vicOk (l : List Clm) (t best : Int) (c : Clm) : Bool := validB c && decide (c.r < c.p) && (decide (best < 0) || (match l[best.toNat]? with | some d => poorB c d t | none => false))
def vicF (l : List Clm) (t : Int) : Nat → Int
  | 0 => -1
  | k + 1 => match l[k]? with
    | some c => if vicOk l t (vicF l t k) c then k else vicF l t k
    | none => vicF l t k
theorem vicF_bd (l : List Clm) (t : Int) : ∀ k : Nat, -1 ≤ vicF l t k ∧ vicF l t k < k
  | 0 => by simp [vicF]
  | k + 1 => by
    have := vicF_bd l t k
    unfold vicF
    split
    · split <;> omega
    · omega
theorem vicF_hit {l : List Clm} {t best : Int} {k : Nat} {c : Clm} (h : best = vicF l t k) (hc : l[k]? = some c) (ho : vicOk l t best c = true) : (k : Int) = vicF l t (k + 1) := by
  rw [vicF, hc]; dsimp only; rw [← h, ho, if_pos rfl]
theorem vicF_miss {l : List Clm} {t best : Int} {k : Nat} {c : Clm} (h : best = vicF l t k) (hc : l[k]? = some c) (ho : vicOk l t best c = false) : best = vicF l t (k + 1) := by
  rw [vicF, hc]; dsimp only; rw [← h, ho, if_neg (by simp)]
theorem vicOk_inv {l : List Clm} {t best : Int} {c : Clm} (h : validB c = false) : vicOk l t best c = false := by unfold vicOk; rw [h, Bool.false_and, Bool.false_and]
theorem vicOk_few {l : List Clm} {t best : Int} {c : Clm} (h : ¬ c.r < c.p) : vicOk l t best c = false := by unfold vicOk; rw [decide_eq_false h, Bool.and_false, Bool.false_and]
theorem vicOk_first {l : List Clm} {t best : Int} {c : Clm} (h1 : validB c = true) (h2 : c.r < c.p) (h3 : best < 0) : vicOk l t best c = true := by unfold vicOk; rw [h1, decide_eq_true h2, decide_eq_true h3]; rfl
theorem vicOk_next {l : List Clm} {t : Int} {j : Nat} {c d : Clm} (h1 : validB c = true) (h2 : c.r < c.p) (h3 : l[j]? = some d) : vicOk l t (j : Int) c = poorB c d t := by
  unfold vicOk; rw [h1, decide_eq_true h2, decide_eq_false (by omega), Int.toNat_natCast, h3]; rfl
def victimR (l : List Clm) (t : Int) : Int × Bool := if taxB t = true ∧ 0 ≤ vicF l t l.length then (vicF l t l.length, true) else (0, false)

theorem poor_is {r l s p a r' l' s' p' a' t : Int} {x : Bool} (h : poorB ⟨r, l, s, p, a⟩ ⟨r', l', s', p', a'⟩ t = x) (w : World) :
    Calls Try.prog 74 #[.agg #[.int .i64 r, .int .i64 l, .int .i64 s, .int .i64 p, .int .i64 a], .agg #[.int .i64 r', .int .i64 l', .int .i64 s', .int .i64 p', .int .i64 a'], .int .i64 t] w (Ret w (.bool x)) := by subst h; exact idletax_Poorer_any _ _ _ _ _ _ _ _ _ _ _ w
theorem victim_notax (va : Value) (_cs : List Clm) (t : Int) (w : World) (h : taxB t = false) : Calls Try.prog 64 #[va, .int .i64 t] w (Ret w (.tuple #[.int .i64 0, .bool false])) := by
  have H := Lib.hid h; clear h
  go_enter Try.func64, Try.ntmps64
  go_wp2_with fail
  refine (idletax_validTax_is H.out _).mono ?_
  rintro e w1 ⟨rfl, hb1⟩
  obtain ⟨hc1, hf1⟩ := bcell hb1
  have hz1 := bsize hb1
  try simp only [sizes1] at hz1
  try simp only [sizes] at hc1 hf1
  go_wp2_with fail
  go_ret2
  exact Ret.mk (by repeat (first | with_reducible exact Below.refl _ _ | with_reducible refine Below.drew ?_ | (with_reducible refine Below.alloc ?_ (by first | exact Nat.le_refl _ | omega | (simp only [sizes]; omega)) _) | (with_reducible refine Below.setCell ?_ (by first | exact Nat.le_refl _ | omega | (simp only [sizes]; omega)) _) | (refine Below.trans ?_ (Below.mono (by with_reducible assumption) (by first | exact Nat.le_refl _ | omega | (simp only [sizes]; omega))))))

set_option maxHeartbeats 2000000 in
theorem victim_tax (va : Value) (cs : List Clm) (t : Int) (w : World) (ha : ClmRow w va cs) (h : taxB t = true) : Calls Try.prog 64 #[va, .int .i64 t] w (Ret w (.tuple #[.int .i64 (victimR cs t).1, .bool (victimR cs t).2])) := by
  obtain ⟨ao, ca, rfl, a1, a2, a3⟩ := ha.out
  unfold maxLen at a2
  clear ha
  obtain ⟨n, hn⟩ : ∃ n, cs.length = n := ⟨_, rfl⟩
  rw [hn] at a1 a3 ⊢
  have hres : victimR cs t = if 0 ≤ vicF cs t n then (vicF cs t n, true) else (0, false) := by unfold victimR; rw [hn]; simp only [h, true_and]
  have HR := Lib.hid hres; clear hres
  have HN := Lib.hid hn; clear hn
  have H := Lib.hid h; clear h
  go_enter Try.func64, Try.ntmps64
  go_wp2_with fail
  refine (idletax_validTax_is H.out _).mono ?_
  rintro e w1 ⟨rfl, hb1⟩
  obtain ⟨hc1, hf1⟩ := bcell hb1
  have hz1 := bsize hb1
  try simp only [sizes1] at hz1
  try simp only [sizes] at hc1 hf1
  go_wp2_with fail
  go_loopw [6, 14] (fun b i wr => ∃ (k : Nat) (best : Int), k ≤ n ∧ i = .int .i64 k ∧ b = .int .i64 best ∧ Hid (best = vicF cs t k) ∧ -1 ≤ best ∧ best < k ∧ Below w.heap.size w wr) (fun _ i _ => n - (intOf i).toNat)
  case atStart => exact ⟨0, -1, Nat.zero_le _, rfl, rfl, rfl, by omega, by omega, (by repeat (first | with_reducible exact Below.refl _ _ | with_reducible refine Below.drew ?_ | (with_reducible refine Below.alloc ?_ (by first | exact Nat.le_refl _ | omega | (simp only [sizes]; omega)) _) | (with_reducible refine Below.setCell ?_ (by first | exact Nat.le_refl _ | omega | (simp only [sizes]; omega)) _) | (refine Below.trans ?_ (Below.mono (by with_reducible assumption) (by first | exact Nat.le_refl _ | omega | (simp only [sizes]; omega))))))⟩
  case round =>
    obtain ⟨k, best, hk, rfl, rfl, HB, hb0, hbk, hbw⟩ := hrel
    clear hc1 hf1 hb1 hz1
    have hbs0 := hbw.size
    by_cases hlt : k < n
    · obtain ⟨⟨r, l, s, p, a⟩, hx⟩ := get_lt (xs := cs) (k := k) (by rw [HN.out]; exact hlt)
      obtain ⟨b, off, rfl, hbs, hbc⟩ := a3.resolve_left (by omega)
      obtain ⟨d0', d1', d2', d3', d4'⟩ := hbc k _ hx
      dsimp only at d0' d1' d2' d3' d4'
      have d0 := (hbw.cell (p := ⟨b, off + k * 5, none⟩) hbs).trans d0'
      have d1 := (hbw.cell (p := ⟨b, off + k * 5 + 1, none⟩) hbs).trans d1'
      have d2 := (hbw.cell (p := ⟨b, off + k * 5 + 2, none⟩) hbs).trans d2'
      have d3 := (hbw.cell (p := ⟨b, off + k * 5 + 3, none⟩) hbs).trans d3'
      have d4 := (hbw.cell (p := ⟨b, off + k * 5 + 4, none⟩) hbs).trans d4'
      clear d0' d1' d2' d3' d4'
      have HX := Lib.hid hx; clear hx
      have hbs1 : b < wr.heap.size := by omega
      cases hv : validB ⟨r, l, s, p, a⟩
      · have HV := Lib.hid hv; clear hv
        go_wp2_with fail
        refine (idletax_Valid_is HV.out _).mono ?_
        rintro e w2 ⟨rfl, hb2⟩
        obtain ⟨hc2, hf2⟩ := bcell hb2
        have hz2 := bsize hb2
        try simp only [sizes1] at hz2
        try simp only [sizes] at hc2 hf2
        go_wp2_with fail
        go_roundw
        case rel => exact ⟨k + 1, _, by omega, by go_num, rfl, vicF_miss HB.out HX.out (vicOk_inv HV.out), by omega, by omega, (by repeat (first | with_reducible exact Below.refl _ _ | with_reducible refine Below.drew ?_ | (with_reducible refine Below.alloc ?_ (by first | exact Nat.le_refl _ | omega | (simp only [sizes]; omega)) _) | (with_reducible refine Below.setCell ?_ (by first | exact Nat.le_refl _ | omega | (simp only [sizes]; omega)) _) | (refine Below.trans ?_ (Below.mono (by with_reducible assumption) (by first | exact Nat.le_refl _ | omega | (simp only [sizes]; omega))))))⟩
        case measure => simp [intOf]; omega
      · have HV := Lib.hid hv; clear hv
        by_cases hp : r < p
        · by_cases hneg : best < 0
          · go_wp2_with fail
            refine (idletax_Valid_is HV.out _).mono ?_
            rintro e w2 ⟨rfl, hb2⟩
            obtain ⟨hc2, hf2⟩ := bcell hb2
            have hz2 := bsize hb2
            try simp only [sizes1] at hz2
            try simp only [sizes] at hc2 hf2
            go_wp2_with fail
            refine wp_region_quiet_below (by kernel_rfl) (by kernel_rfl) ?_
            repeat (go_big_quiet_step (first | fail | fail))
            refine wpQuiet_nil ?_
            intro w3 hw3
            have hb3 := below_of_regrown hw3
            clear hw3
            obtain ⟨hc3, hf3⟩ := bcell hb3
            have hz3 := bsize hb3
            try simp only [sizes1] at hz3
            try simp only [sizes] at hc3 hf3
            go_wp2_with fail
            go_roundw
            case rel => exact ⟨k + 1, _, by omega, by go_num, rfl, vicF_hit HB.out HX.out (vicOk_first HV.out hp hneg), by omega, by omega, (by repeat (first | with_reducible exact Below.refl _ _ | with_reducible refine Below.drew ?_ | (with_reducible refine Below.alloc ?_ (by first | exact Nat.le_refl _ | omega | (simp only [sizes]; omega)) _) | (with_reducible refine Below.setCell ?_ (by first | exact Nat.le_refl _ | omega | (simp only [sizes]; omega)) _) | (refine Below.trans ?_ (Below.mono (by with_reducible assumption) (by first | exact Nat.le_refl _ | omega | (simp only [sizes]; omega))))))⟩
            case measure => simp [intOf]; omega
          · obtain ⟨j, rfl⟩ : ∃ j : Nat, best = j := ⟨best.toNat, by omega⟩
            have hjk : j < k := by omega
            have hdn : decide ((j : Int) < 0) = false := decide_eq_false (by omega)
            obtain ⟨⟨r', l', s', p', a'⟩, hy⟩ := get_lt (xs := cs) (k := j) (by rw [HN.out]; omega)
            obtain ⟨e0', e1', e2', e3', e4'⟩ := hbc j _ hy
            dsimp only at e0' e1' e2' e3' e4'
            have e0 := (hbw.cell (p := ⟨b, off + j * 5, none⟩) hbs).trans e0'
            have e1 := (hbw.cell (p := ⟨b, off + j * 5 + 1, none⟩) hbs).trans e1'
            have e2 := (hbw.cell (p := ⟨b, off + j * 5 + 2, none⟩) hbs).trans e2'
            have e3 := (hbw.cell (p := ⟨b, off + j * 5 + 3, none⟩) hbs).trans e3'
            have e4 := (hbw.cell (p := ⟨b, off + j * 5 + 4, none⟩) hbs).trans e4'
            clear e0' e1' e2' e3' e4'
            have HY := Lib.hid hy; clear hy
            cases hpo : poorB ⟨r, l, s, p, a⟩ ⟨r', l', s', p', a'⟩ t
            · have HP := Lib.hid hpo; clear hpo
              go_wp2_with fail
              refine (idletax_Valid_is HV.out _).mono ?_
              rintro e w2 ⟨rfl, hb2⟩
              obtain ⟨hc2, hf2⟩ := bcell hb2
              have hz2 := bsize hb2
              try simp only [sizes1] at hz2
              try simp only [sizes] at hc2 hf2
              have hb2b : b < w2.heap.size := by omega
              go_wp2_with fail
              refine wp_region_quiet_below (by kernel_rfl) (by kernel_rfl) ?_
              repeat (go_big_quiet_step (first | fail | (go_at_call 74; exact quiet_ret (poor_is HP.out _))))
              refine wpQuiet_nil ?_
              intro w3 hw3
              have hb3 := below_of_regrown hw3
              clear hw3
              obtain ⟨hc3, hf3⟩ := bcell hb3
              have hz3 := bsize hb3
              try simp only [sizes1] at hz3
              try simp only [sizes] at hc3 hf3
              go_wp2_with fail
              go_roundw
              case rel => exact ⟨k + 1, _, by omega, by go_num, rfl, vicF_miss HB.out HX.out ((vicOk_next HV.out hp HY.out).trans HP.out), by omega, by omega, (by repeat (first | with_reducible exact Below.refl _ _ | with_reducible refine Below.drew ?_ | (with_reducible refine Below.alloc ?_ (by first | exact Nat.le_refl _ | omega | (simp only [sizes]; omega)) _) | (with_reducible refine Below.setCell ?_ (by first | exact Nat.le_refl _ | omega | (simp only [sizes]; omega)) _) | (refine Below.trans ?_ (Below.mono (by with_reducible assumption) (by first | exact Nat.le_refl _ | omega | (simp only [sizes]; omega))))))⟩
              case measure => simp [intOf]; omega
            · have HP := Lib.hid hpo; clear hpo
              go_wp2_with fail
              refine (idletax_Valid_is HV.out _).mono ?_
              rintro e w2 ⟨rfl, hb2⟩
              obtain ⟨hc2, hf2⟩ := bcell hb2
              have hz2 := bsize hb2
              try simp only [sizes1] at hz2
              try simp only [sizes] at hc2 hf2
              have hb2b : b < w2.heap.size := by omega
              go_wp2_with fail
              refine wp_region_quiet_below (by kernel_rfl) (by kernel_rfl) ?_
              repeat (go_big_quiet_step (first | fail | (go_at_call 74; exact quiet_ret (poor_is HP.out _))))
              refine wpQuiet_nil ?_
              intro w3 hw3
              have hb3 := below_of_regrown hw3
              clear hw3
              obtain ⟨hc3, hf3⟩ := bcell hb3
              have hz3 := bsize hb3
              try simp only [sizes1] at hz3
              try simp only [sizes] at hc3 hf3
              go_wp2_with fail
              go_roundw
              case rel => exact ⟨k + 1, _, by omega, by go_num, rfl, vicF_hit HB.out HX.out ((vicOk_next HV.out hp HY.out).trans HP.out), by omega, by omega, (by repeat (first | with_reducible exact Below.refl _ _ | with_reducible refine Below.drew ?_ | (with_reducible refine Below.alloc ?_ (by first | exact Nat.le_refl _ | omega | (simp only [sizes]; omega)) _) | (with_reducible refine Below.setCell ?_ (by first | exact Nat.le_refl _ | omega | (simp only [sizes]; omega)) _) | (refine Below.trans ?_ (Below.mono (by with_reducible assumption) (by first | exact Nat.le_refl _ | omega | (simp only [sizes]; omega))))))⟩
              case measure => simp [intOf]; omega
        · go_wp2_with fail
          refine (idletax_Valid_is HV.out _).mono ?_
          rintro e w2 ⟨rfl, hb2⟩
          obtain ⟨hc2, hf2⟩ := bcell hb2
          have hz2 := bsize hb2
          try simp only [sizes1] at hz2
          try simp only [sizes] at hc2 hf2
          go_wp2_with fail
          go_roundw
          case rel => exact ⟨k + 1, _, by omega, by go_num, rfl, vicF_miss HB.out HX.out (vicOk_few (show ¬ r < p from by omega)), by omega, by omega, (by repeat (first | with_reducible exact Below.refl _ _ | with_reducible refine Below.drew ?_ | (with_reducible refine Below.alloc ?_ (by first | exact Nat.le_refl _ | omega | (simp only [sizes]; omega)) _) | (with_reducible refine Below.setCell ?_ (by first | exact Nat.le_refl _ | omega | (simp only [sizes]; omega)) _) | (refine Below.trans ?_ (Below.mono (by with_reducible assumption) (by first | exact Nat.le_refl _ | omega | (simp only [sizes]; omega))))))⟩
          case measure => simp [intOf]; omega
    · obtain rfl : k = n := by omega
      by_cases hneg : best < 0
      · go_wp2_with fail
        go_ret2
        exact Ret.mk' (by rw [HR.out, ← HB.out, if_neg (by omega)]; rfl) (by repeat (first | with_reducible exact Below.refl _ _ | with_reducible refine Below.drew ?_ | (with_reducible refine Below.alloc ?_ (by first | exact Nat.le_refl _ | omega | (simp only [sizes]; omega)) _) | (with_reducible refine Below.setCell ?_ (by first | exact Nat.le_refl _ | omega | (simp only [sizes]; omega)) _) | (refine Below.trans ?_ (Below.mono (by with_reducible assumption) (by first | exact Nat.le_refl _ | omega | (simp only [sizes]; omega))))))
      · go_wp2_with fail
        go_ret2
        exact Ret.mk' (by rw [HR.out, ← HB.out, if_pos (by omega)]; rfl) (by repeat (first | with_reducible exact Below.refl _ _ | with_reducible refine Below.drew ?_ | (with_reducible refine Below.alloc ?_ (by first | exact Nat.le_refl _ | omega | (simp only [sizes]; omega)) _) | (with_reducible refine Below.setCell ?_ (by first | exact Nat.le_refl _ | omega | (simp only [sizes]; omega)) _) | (refine Below.trans ?_ (Below.mono (by with_reducible assumption) (by first | exact Nat.le_refl _ | omega | (simp only [sizes]; omega))))))
theorem idletax_Victim_any (va : Value) (cs : List Clm) (t : Int) (w : World) (ha : ClmRow w va cs) : Calls Try.prog 64 #[va, .int .i64 t] w (Ret w (.tuple #[.int .i64 (victimR cs t).1, .bool (victimR cs t).2])) := by
  cases h : taxB t
  · have e : victimR cs t = (0, false) := by unfold victimR; rw [if_neg (by simp [h])]
    rw [e]
    exact victim_notax va cs t w h
  · exact victim_tax va cs t w ha h

end Go.Proofs.Ytbnngjhnkegliaa
namespace Go.Proofs.Ytbnngjhnkegliaa
open Go.RowKit

/-- The claims, with the pages that have frames. -/
def Ho.claims (H : Ho) : List Clm := List.zipWith (fun g l => { g.c with p := ((l.countP hasB : Nat) : Int) }) H.G H.P.M
def Ho.chosen (H : Ho) (i : Nat) : Int := if (victimR H.claims H.t).2 then (victimR H.claims H.t).1 else i
theorem info_clm : (Try.prog.info? 35).map (fun i => (i.zero, i.size, i.bytes)) = some (some (.agg #[.int .i64 0, .int .i64 0, .int .i64 0, .int .i64 0, .int .i64 0]), 5, 40) := by kernel_rfl
theorem one_clm (r l s p a : Int) : ∀ u ∈ [Value.int .i64 r, .int .i64 l, .int .i64 s, .int .i64 p, .int .i64 a], u.oneCell' = true := by
  intro u hu
  simp at hu
  rcases hu with rfl | rfl | rfl | rfl | rfl <;> rfl
set_option maxRecDepth 100000 in
set_option maxHeartbeats 8000000 in
theorem hchosen_ok (v : Value) (H : Ho) (gi : Nat) (w : World) (ha : HoAt w v H) (hok : H.Ok) : Calls Try.prog 49 #[v, .int .i64 gi] w (Ret w (.int .i64 (H.chosen gi))) := by
  have hcl : H.claims.length = H.G.length := by unfold Ho.claims; rw [List.length_zipWith, hok.m, Nat.min_self]
  have hce : ∀ (i : Nat) (g : Gm) (l : List Int), H.G[i]? = some g → H.P.M[i]? = some l → H.claims[i]? = some { g.c with p := ((l.countP hasB : Nat) : Int) } := fun i g l hg hl => by
    unfold Ho.claims
    rw [List.getElem?_zipWith, hg, hl]
  unfold Ho.chosen
  obtain ⟨cs, hcs⟩ : ∃ cs, H.claims = cs := ⟨_, rfl⟩
  rw [hcs] at hcl hce ⊢
  have hbd := hok.bounds
  obtain ⟨of, or', om, og, kf, kr, km, kg, rfl, kf1, kf2, kr1, kr2, km1, km2, kg1, kg2, h⟩ := ha
  obtain ⟨n, hn⟩ : ∃ n, H.P.F.length = n := ⟨_, rfl⟩
  obtain ⟨r, hr⟩ : ∃ n, H.P.R.length = n := ⟨_, rfl⟩
  obtain ⟨m, hm⟩ : ∃ n, H.P.M.length = n := ⟨_, rfl⟩
  obtain ⟨q, hq⟩ : ∃ n, H.G.length = n := ⟨_, rfl⟩
  obtain ⟨tx, htx⟩ : ∃ n, H.t = n := ⟨_, rfl⟩
  obtain ⟨dx, hdx⟩ : ∃ n, H.d = n := ⟨_, rfl⟩
  obtain ⟨sx, hsx⟩ : ∃ n, H.n = n := ⟨_, rfl⟩
  rw [hn] at h kf1 ⊢
  rw [hr] at h kr1 ⊢
  rw [hm] at h km1 ⊢
  rw [hq] at h kg1 ⊢
  rw [htx, hdx, hsx]
  have HN := Lib.hid hn; clear hn
  have HR := Lib.hid hr; clear hr
  have HM := Lib.hid hm; clear hm
  have HQ := Lib.hid hq; clear hq
  have HT := Lib.hid htx; clear htx
  have HD := Lib.hid hdx; clear hdx
  have HS := Lib.hid hsx; clear hsx
  have hmq : m = q := by rw [← HM.out, ← HQ.out, hok.m]
  have HMQ := Lib.hid hmq; clear hmq
  rw [HN.out, HM.out, HQ.out] at hbd
  rw [HQ.out] at hcl
  have VC := fun va w (h : ClmRow w va cs) => idletax_Victim_any va cs tx w h
  obtain ⟨v1, hv1⟩ : ∃ x, (victimR cs tx).1 = x := ⟨_, rfl⟩
  obtain ⟨v2, hv2⟩ : ∃ x, (victimR cs tx).2 = x := ⟨_, rfl⟩
  rw [hv1, hv2] at VC ⊢
  have HVC := Lib.hid VC; clear VC hv1 hv2 hcs
  have HCL := Lib.hid hcl; clear hcl
  have HCE := Lib.hid hce; clear hce
  have HOK := Lib.hid hok; clear hok
  have H0 := Lib.hid h
  obtain ⟨i0, hi0, iz0, iz1, iz2⟩ := info_parts info_clm
  have D1 := HasBlock.made w #[.slice of n kf, .slice or' r kr, .slice om m km, .slice og q kg, .int .i64 tx, .int .u64 dx, .int .i64 sx] 31
  have hbw : Below w.heap.size w (w.alloc (.cells #[.slice of n kf, .slice or' r kr, .slice om m km, .slice og q kg, .int .i64 tx, .int .u64 dx, .int .i64 sx] 31)) := (Below.refl _ _).alloc (Nat.le_refl _) _
  replace h := h.below hbw
  clear h
  have hz : w.heap.size + 1 ≤ (w.alloc (.cells #[.slice of n kf, .slice or' r kr, .slice om m km, .slice og q kg, .int .i64 tx, .int .u64 dx, .int .i64 sx] 31)).heap.size := by simp only [sizes]; omega
  cases v2
  · rw [if_neg (by decide)]
    go_enter Try.func49, Try.ntmps49
    go_wp2_with fail
    go_loopw [5, 14] (fun sv iv wr => ∃ (i : Nat) (o : Option Addr) (cp : Nat), i ≤ q ∧ sv = .slice o i cp ∧ iv = .int .i64 i ∧ i ≤ cp ∧ cp ≤ 9223372036854775807 ∧ HasBlock wr w.heap.size #[.slice of n kf, .slice or' r kr, .slice om m km, .slice og q kg, .int .i64 tx, .int .u64 dx, .int .i64 sx] 31 ∧ wr.ownsRow (w.heap.size + 1) 35 5 (.slice o i cp) i ((cs.take i).flatMap clmCells) ∧ Below w.heap.size w wr ∧ w.heap.size + 1 ≤ wr.heap.size) (fun _ iv _ => q - (intOf iv).toNat)
    case atStart => exact ⟨0, none, 0, by omega, rfl, rfl, Nat.le_refl _, by omega, D1, World.ownsRow_nil _ _ _ _, hbw, hz⟩
    case round =>
      clear D1 hbw hz
      obtain ⟨i, o, cp, hi, rfl, rfl, hc1, hc2, D1, hO, hbw, hz⟩ := hrel
      by_cases hlt : i < q
      · obtain ⟨g, hg⟩ := get_lt (xs := H.G) (k := i) (by rw [HQ.out]; exact hlt)
        obtain ⟨l, hl, hgo⟩ := HOK.out.page hg
        have hll := HOK.out.p.l l (mem_at hl)
        have hce := HCE.out i g l hg hl
        have htk : (cs.take (i + 1)).flatMap clmCells = (cs.take i).flatMap clmCells ++ clmCells { g.c with p := ((l.countP hasB : Nat) : Int) } := by
          rw [List.take_add_one, hce, List.flatMap_append]
          simp
        obtain ⟨gb, goff, so, sc, uo, uc, eo, ec, rfl, hgb, s1, s2, u1, u2, e3, e4, cs', hS, hU, hE⟩ := H0.out.guest hg
        obtain ⟨mb, moff, lo, lc, rfl, hmb, cm0, lc1, lc2, hL⟩ := H0.out.p.guest hl
        have CHc := fun w h => hcharge_any lo lc l w h (by omega)
        clear hS hU hE hce hg hl hgo s1 u1 e3
        obtain ⟨⟨rr, cl, ss, pp, aa⟩, S, U, hd, E⟩ := g
        dsimp only at htk cs'
        obtain ⟨x, hx⟩ : ∃ x, l.countP hasB = x := ⟨_, rfl⟩
        obtain ⟨ql, hql⟩ : ∃ x, l.length = x := ⟨_, rfl⟩
        rw [hx] at CHc htk
        rw [hql] at CHc cm0 lc1 hL hll
        have HTK := Lib.hid htk; clear htk hx hql
        have HCH := Lib.hid CHc; clear CHc
        have HLL := Lib.hid hL; clear hL
        have c0 : wr.cell? ⟨gb, goff + i * 9, none⟩ = _ := (hbw.cell (p := ⟨gb, goff + i * 9, none⟩) hgb).trans (cs' 0 _ rfl)
        have c1 : wr.cell? ⟨gb, goff + i * 9 + 1, none⟩ = _ := (hbw.cell (p := ⟨gb, goff + i * 9 + 1, none⟩) hgb).trans (cs' 1 _ rfl)
        have c2 : wr.cell? ⟨gb, goff + i * 9 + 2, none⟩ = _ := (hbw.cell (p := ⟨gb, goff + i * 9 + 2, none⟩) hgb).trans (cs' 2 _ rfl)
        have c3 : wr.cell? ⟨gb, goff + i * 9 + 3, none⟩ = _ := (hbw.cell (p := ⟨gb, goff + i * 9 + 3, none⟩) hgb).trans (cs' 3 _ rfl)
        have c4 : wr.cell? ⟨gb, goff + i * 9 + 4, none⟩ = _ := (hbw.cell (p := ⟨gb, goff + i * 9 + 4, none⟩) hgb).trans (cs' 4 _ rfl)
        have c5 : wr.cell? ⟨gb, goff + i * 9 + 5, none⟩ = _ := (hbw.cell (p := ⟨gb, goff + i * 9 + 5, none⟩) hgb).trans (cs' 5 _ rfl)
        have c6 : wr.cell? ⟨gb, goff + i * 9 + 6, none⟩ = _ := (hbw.cell (p := ⟨gb, goff + i * 9 + 6, none⟩) hgb).trans (cs' 6 _ rfl)
        have c7 : wr.cell? ⟨gb, goff + i * 9 + 7, none⟩ = _ := (hbw.cell (p := ⟨gb, goff + i * 9 + 7, none⟩) hgb).trans (cs' 7 _ rfl)
        have c8 : wr.cell? ⟨gb, goff + i * 9 + 8, none⟩ = _ := (hbw.cell (p := ⟨gb, goff + i * 9 + 8, none⟩) hgb).trans (cs' 8 _ rfl)
        clear cs'
        dsimp only at c0 c1 c2 c3 c4 c5 c6 c7 c8
        have HOW := Lib.hid hO; clear hO
        have i0' : (0 : Int) ≤ (i : Int) := by omega
        have im : (i : Int) < (m : Int) := by have := HMQ.out; omega
        have iq : (i : Int) < (q : Int) := by omega
        have cm := (hbw.cell (p := ⟨mb, moff + i, none⟩) hmb).trans cm0
        have hmb2 : mb < wr.heap.size := by have := hbw.size; omega
        obtain ⟨D1_c, D1_f, D1_z⟩ := D1.all
        go_wp2_with fail
        clear D1_c D1_f D1_z
        clear c0 c1 c2 c3 c4 c5 c6 c7 c8
        have DC := HasBlock.made (wr.alloc (.cells #[.int .i64 rr, .int .i64 cl, .int .i64 ss, .int .i64 pp, .int .i64 aa, .slice so S.length sc, .slice uo U.length uc, .int .i64 hd, .slice eo E.length ec] 57)) #[.int .i64 rr, .int .i64 cl, .int .i64 ss, .int .i64 pp, .int .i64 aa] 35
        rw [World.size_alloc] at DC
        have hbr : Below wr.heap.size wr ((wr.alloc (.cells #[.int .i64 rr, .int .i64 cl, .int .i64 ss, .int .i64 pp, .int .i64 aa, .slice so S.length sc, .slice uo U.length uc, .int .i64 hd, .slice eo E.length ec] 57)).alloc (.cells #[.int .i64 rr, .int .i64 cl, .int .i64 ss, .int .i64 pp, .int .i64 aa] 35)) := (by repeat (first | with_reducible exact Below.refl _ _ | with_reducible refine Below.drew ?_ | (with_reducible refine Below.alloc ?_ (by first | exact Nat.le_refl _ | omega | (dsimp only; omega) | (simp only [sizes]; omega)) _) | (with_reducible refine Below.setCell ?_ (by first | exact Nat.le_refl _ | omega | (dsimp only; omega) | (simp only [sizes]; omega)) _) | (refine Below.trans ?_ (Below.mono (by with_reducible assumption) (by first | exact Nat.le_refl _ | omega | (dsimp only; omega) | (simp only [sizes]; omega))))))
        generalize hW : (wr.alloc (.cells #[.int .i64 rr, .int .i64 cl, .int .i64 ss, .int .i64 pp, .int .i64 aa, .slice so S.length sc, .slice uo U.length uc, .int .i64 hd, .slice eo E.length ec] 57)).alloc (.cells #[.int .i64 rr, .int .i64 cl, .int .i64 ss, .int .i64 pp, .int .i64 aa] 35) = w5 at DC hbr ⊢
        clear hW
        with_reducible refine (HCH.out _ (HLL.out.below (hbw.trans (hbr.mono hbw.size)))).mono ?_
        rintro e w6 ⟨rfl, hb6⟩
        replace DC := DC.below hb6
        replace hbr := hbr.trans (hb6.mono hbr.size)
        clear hb6
        have hbr7 := hbr.setCell (p := ⟨wr.heap.size + 1, 3, none⟩) (by dsimp only; omega) (.int .i64 (x : Int))
        have HOX : Hid ((World.setCell w6 ⟨wr.heap.size + 1, 3, none⟩ (.int .i64 (x : Int))).ownsRow (w.heap.size + 1) 35 5 (.slice o i cp) i ((cs.take i).flatMap clmCells)) := Lib.hid (owns_below HOW.out hbr7)
        have hz6 : w.heap.size + 1 ≤ w6.heap.size := Nat.le_trans hz hbr.size
        obtain ⟨DC_c, DC_f, DC_z⟩ := DC.all
        go_wp2_with (at_builtin; go_must (refine wpList_append_own _ rfl (.tmp 29) (.tmp 31) 105 rfl (w.heap.size + 1) 35 i0 (.agg #[.int .i64 0, .int .i64 0, .int .i64 0, .int .i64 0, .int .i64 0]) 5 40 Try.underlying105 hi0 iz0 iz1 iz2 rfl (by decide) _ i ((cs.take i).flatMap clmCells) rfl (HOX.out.alloc _) ⟨w6.heap.size, 0, none⟩ 1 1 [.int .i64 rr, .int .i64 cl, .int .i64 ss, .int .i64 (x : Int), .int .i64 aa] rfl rfl (cells_made _ [.int .i64 rr, .int .i64 cl, .int .i64 ss, .int .i64 (x : Int), .int .i64 aa] _ _ (by first | rfl | simp only [sizes])) (one_clm _ _ _ _ _) (by unfold maxLen; omega) (by omega) (by simp only [sizes]; omega) ?_; intro v7 w7 hown7 hgrow7 _; obtain ⟨o7, c7', rfl, hc71, hc72⟩ := own_form' hown7))
        have F1 := ((D1.below hbr7).alloc (.cells #[.int .i64 rr, .int .i64 cl, .int .i64 ss, .int .i64 (x : Int), .int .i64 aa] 35)).append (HOX.out.alloc _) hgrow7 (by omega)
        have hbw7 : Below w.heap.size w w7 := below_append' (Below.alloc' (hbw.trans (hbr7.mono hbw.size)) (Nat.le_refl _) _) (HOX.out.alloc _) hgrow7 (by omega)
        have hz7 : w.heap.size + 1 ≤ w7.heap.size := by
          have := hgrow7.size
          simp only [sizes] at this
          omega
        go_roundw
        case rel => exact ⟨i + 1, o7, c7', by omega, rfl, by go_num, hc71, hc72, F1, by rw [HTK.out]; exact hown7, hbw7, hz7⟩
        case measure => simp [intOf]; omega
      · obtain rfl : i = q := by omega
        have hall : cs.take i = cs := by rw [← HCL.out]; exact List.take_length
        rw [hall] at hO
        have hrow : ClmRow wr (.slice o i cp) cs := by
          unfold ClmRow
          rw [HCL.out]
          exact RowAt.of_owns hO
        clear hall hO
        obtain ⟨D1_c, D1_f, D1_z⟩ := D1.all
        go_wp2_with fail
        with_reducible refine (HVC.out _ _ hrow).mono ?_
        rintro e w8 ⟨rfl, hb8⟩
        replace hbw := hbw.trans (hb8.mono hbw.size)
        go_wp2_with fail
        go_ret
        exact Ret.mk hbw
  · rw [if_pos rfl]
    go_enter Try.func49, Try.ntmps49
    go_wp2_with fail
    go_loopw [5, 14] (fun sv iv wr => ∃ (i : Nat) (o : Option Addr) (cp : Nat), i ≤ q ∧ sv = .slice o i cp ∧ iv = .int .i64 i ∧ i ≤ cp ∧ cp ≤ 9223372036854775807 ∧ HasBlock wr w.heap.size #[.slice of n kf, .slice or' r kr, .slice om m km, .slice og q kg, .int .i64 tx, .int .u64 dx, .int .i64 sx] 31 ∧ wr.ownsRow (w.heap.size + 1) 35 5 (.slice o i cp) i ((cs.take i).flatMap clmCells) ∧ Below w.heap.size w wr ∧ w.heap.size + 1 ≤ wr.heap.size) (fun _ iv _ => q - (intOf iv).toNat)
    case atStart => exact ⟨0, none, 0, by omega, rfl, rfl, Nat.le_refl _, by omega, D1, World.ownsRow_nil _ _ _ _, hbw, hz⟩
    case round =>
      clear D1 hbw hz
      obtain ⟨i, o, cp, hi, rfl, rfl, hc1, hc2, D1, hO, hbw, hz⟩ := hrel
      by_cases hlt : i < q
      · obtain ⟨g, hg⟩ := get_lt (xs := H.G) (k := i) (by rw [HQ.out]; exact hlt)
        obtain ⟨l, hl, hgo⟩ := HOK.out.page hg
        have hll := HOK.out.p.l l (mem_at hl)
        have hce := HCE.out i g l hg hl
        have htk : (cs.take (i + 1)).flatMap clmCells = (cs.take i).flatMap clmCells ++ clmCells { g.c with p := ((l.countP hasB : Nat) : Int) } := by
          rw [List.take_add_one, hce, List.flatMap_append]
          simp
        obtain ⟨gb, goff, so, sc, uo, uc, eo, ec, rfl, hgb, s1, s2, u1, u2, e3, e4, cs', hS, hU, hE⟩ := H0.out.guest hg
        obtain ⟨mb, moff, lo, lc, rfl, hmb, cm0, lc1, lc2, hL⟩ := H0.out.p.guest hl
        have CHc := fun w h => hcharge_any lo lc l w h (by omega)
        clear hS hU hE hce hg hl hgo s1 u1 e3
        obtain ⟨⟨rr, cl, ss, pp, aa⟩, S, U, hd, E⟩ := g
        dsimp only at htk cs'
        obtain ⟨x, hx⟩ : ∃ x, l.countP hasB = x := ⟨_, rfl⟩
        obtain ⟨ql, hql⟩ : ∃ x, l.length = x := ⟨_, rfl⟩
        rw [hx] at CHc htk
        rw [hql] at CHc cm0 lc1 hL hll
        have HTK := Lib.hid htk; clear htk hx hql
        have HCH := Lib.hid CHc; clear CHc
        have HLL := Lib.hid hL; clear hL
        have c0 : wr.cell? ⟨gb, goff + i * 9, none⟩ = _ := (hbw.cell (p := ⟨gb, goff + i * 9, none⟩) hgb).trans (cs' 0 _ rfl)
        have c1 : wr.cell? ⟨gb, goff + i * 9 + 1, none⟩ = _ := (hbw.cell (p := ⟨gb, goff + i * 9 + 1, none⟩) hgb).trans (cs' 1 _ rfl)
        have c2 : wr.cell? ⟨gb, goff + i * 9 + 2, none⟩ = _ := (hbw.cell (p := ⟨gb, goff + i * 9 + 2, none⟩) hgb).trans (cs' 2 _ rfl)
        have c3 : wr.cell? ⟨gb, goff + i * 9 + 3, none⟩ = _ := (hbw.cell (p := ⟨gb, goff + i * 9 + 3, none⟩) hgb).trans (cs' 3 _ rfl)
        have c4 : wr.cell? ⟨gb, goff + i * 9 + 4, none⟩ = _ := (hbw.cell (p := ⟨gb, goff + i * 9 + 4, none⟩) hgb).trans (cs' 4 _ rfl)
        have c5 : wr.cell? ⟨gb, goff + i * 9 + 5, none⟩ = _ := (hbw.cell (p := ⟨gb, goff + i * 9 + 5, none⟩) hgb).trans (cs' 5 _ rfl)
        have c6 : wr.cell? ⟨gb, goff + i * 9 + 6, none⟩ = _ := (hbw.cell (p := ⟨gb, goff + i * 9 + 6, none⟩) hgb).trans (cs' 6 _ rfl)
        have c7 : wr.cell? ⟨gb, goff + i * 9 + 7, none⟩ = _ := (hbw.cell (p := ⟨gb, goff + i * 9 + 7, none⟩) hgb).trans (cs' 7 _ rfl)
        have c8 : wr.cell? ⟨gb, goff + i * 9 + 8, none⟩ = _ := (hbw.cell (p := ⟨gb, goff + i * 9 + 8, none⟩) hgb).trans (cs' 8 _ rfl)
        clear cs'
        dsimp only at c0 c1 c2 c3 c4 c5 c6 c7 c8
        have HOW := Lib.hid hO; clear hO
        have i0' : (0 : Int) ≤ (i : Int) := by omega
        have im : (i : Int) < (m : Int) := by have := HMQ.out; omega
        have iq : (i : Int) < (q : Int) := by omega
        have cm := (hbw.cell (p := ⟨mb, moff + i, none⟩) hmb).trans cm0
        have hmb2 : mb < wr.heap.size := by have := hbw.size; omega
        obtain ⟨D1_c, D1_f, D1_z⟩ := D1.all
        go_wp2_with fail
        clear D1_c D1_f D1_z
        clear c0 c1 c2 c3 c4 c5 c6 c7 c8
        have DC := HasBlock.made (wr.alloc (.cells #[.int .i64 rr, .int .i64 cl, .int .i64 ss, .int .i64 pp, .int .i64 aa, .slice so S.length sc, .slice uo U.length uc, .int .i64 hd, .slice eo E.length ec] 57)) #[.int .i64 rr, .int .i64 cl, .int .i64 ss, .int .i64 pp, .int .i64 aa] 35
        rw [World.size_alloc] at DC
        have hbr : Below wr.heap.size wr ((wr.alloc (.cells #[.int .i64 rr, .int .i64 cl, .int .i64 ss, .int .i64 pp, .int .i64 aa, .slice so S.length sc, .slice uo U.length uc, .int .i64 hd, .slice eo E.length ec] 57)).alloc (.cells #[.int .i64 rr, .int .i64 cl, .int .i64 ss, .int .i64 pp, .int .i64 aa] 35)) := (by repeat (first | with_reducible exact Below.refl _ _ | with_reducible refine Below.drew ?_ | (with_reducible refine Below.alloc ?_ (by first | exact Nat.le_refl _ | omega | (dsimp only; omega) | (simp only [sizes]; omega)) _) | (with_reducible refine Below.setCell ?_ (by first | exact Nat.le_refl _ | omega | (dsimp only; omega) | (simp only [sizes]; omega)) _) | (refine Below.trans ?_ (Below.mono (by with_reducible assumption) (by first | exact Nat.le_refl _ | omega | (dsimp only; omega) | (simp only [sizes]; omega))))))
        generalize hW : (wr.alloc (.cells #[.int .i64 rr, .int .i64 cl, .int .i64 ss, .int .i64 pp, .int .i64 aa, .slice so S.length sc, .slice uo U.length uc, .int .i64 hd, .slice eo E.length ec] 57)).alloc (.cells #[.int .i64 rr, .int .i64 cl, .int .i64 ss, .int .i64 pp, .int .i64 aa] 35) = w5 at DC hbr ⊢
        clear hW
        with_reducible refine (HCH.out _ (HLL.out.below (hbw.trans (hbr.mono hbw.size)))).mono ?_
        rintro e w6 ⟨rfl, hb6⟩
        replace DC := DC.below hb6
        replace hbr := hbr.trans (hb6.mono hbr.size)
        clear hb6
        have hbr7 := hbr.setCell (p := ⟨wr.heap.size + 1, 3, none⟩) (by dsimp only; omega) (.int .i64 (x : Int))
        have HOX : Hid ((World.setCell w6 ⟨wr.heap.size + 1, 3, none⟩ (.int .i64 (x : Int))).ownsRow (w.heap.size + 1) 35 5 (.slice o i cp) i ((cs.take i).flatMap clmCells)) := Lib.hid (owns_below HOW.out hbr7)
        have hz6 : w.heap.size + 1 ≤ w6.heap.size := Nat.le_trans hz hbr.size
        obtain ⟨DC_c, DC_f, DC_z⟩ := DC.all
        go_wp2_with (at_builtin; go_must (refine wpList_append_own _ rfl (.tmp 29) (.tmp 31) 105 rfl (w.heap.size + 1) 35 i0 (.agg #[.int .i64 0, .int .i64 0, .int .i64 0, .int .i64 0, .int .i64 0]) 5 40 Try.underlying105 hi0 iz0 iz1 iz2 rfl (by decide) _ i ((cs.take i).flatMap clmCells) rfl (HOX.out.alloc _) ⟨w6.heap.size, 0, none⟩ 1 1 [.int .i64 rr, .int .i64 cl, .int .i64 ss, .int .i64 (x : Int), .int .i64 aa] rfl rfl (cells_made _ [.int .i64 rr, .int .i64 cl, .int .i64 ss, .int .i64 (x : Int), .int .i64 aa] _ _ (by first | rfl | simp only [sizes])) (one_clm _ _ _ _ _) (by unfold maxLen; omega) (by omega) (by simp only [sizes]; omega) ?_; intro v7 w7 hown7 hgrow7 _; obtain ⟨o7, c7', rfl, hc71, hc72⟩ := own_form' hown7))
        have F1 := ((D1.below hbr7).alloc (.cells #[.int .i64 rr, .int .i64 cl, .int .i64 ss, .int .i64 (x : Int), .int .i64 aa] 35)).append (HOX.out.alloc _) hgrow7 (by omega)
        have hbw7 : Below w.heap.size w w7 := below_append' (Below.alloc' (hbw.trans (hbr7.mono hbw.size)) (Nat.le_refl _) _) (HOX.out.alloc _) hgrow7 (by omega)
        have hz7 : w.heap.size + 1 ≤ w7.heap.size := by
          have := hgrow7.size
          simp only [sizes] at this
          omega
        go_roundw
        case rel => exact ⟨i + 1, o7, c7', by omega, rfl, by go_num, hc71, hc72, F1, by rw [HTK.out]; exact hown7, hbw7, hz7⟩
        case measure => simp [intOf]; omega
      · obtain rfl : i = q := by omega
        have hall : cs.take i = cs := by rw [← HCL.out]; exact List.take_length
        rw [hall] at hO
        have hrow : ClmRow wr (.slice o i cp) cs := by
          unfold ClmRow
          rw [HCL.out]
          exact RowAt.of_owns hO
        clear hall hO
        obtain ⟨D1_c, D1_f, D1_z⟩ := D1.all
        go_wp2_with fail
        with_reducible refine (HVC.out _ _ hrow).mono ?_
        rintro e w8 ⟨rfl, hb8⟩
        replace hbw := hbw.trans (hb8.mono hbw.size)
        go_wp2_with fail
        go_ret
        exact Ret.mk hbw
end Go.Proofs.Ytbnngjhnkegliaa
namespace Go.Proofs.Ytbnngjhnkegliaa
open Go.RowKit

def Gm.mark (g : Gm) (k : Nat) (b : Bool) : Gm := { g with e := g.e.set k true, u := g.u.set k b }
def Ho.mark (H : Ho) (i k : Nat) : Ho := match H.G[i]? with
  | none => H
  | some g => H.setG i (g.mark k (decide (0 ≤ H.P.fr i k)))
def RetAt (base B : Nat) (H : Ho) (w : World) (e : Ending) (w' : World) : Prop := e = .returned (.tuple #[]) ∧ HostAt base B w' H ∧ Below base w w'
set_option maxRecDepth 100000 in
set_option maxHeartbeats 8000000 in
theorem hmark_ok (base B : Nat) (H : Ho) (i k : Nat) (w : World) (hA : HostAt base B w H) (g : Gm) (l : List Int) (f : Int) (hg : H.G[i]? = some g) (hl : H.P.M[i]? = some l) (hf : l[k]? = some f) (hul : g.u.length = l.length) (hel : g.e.length = l.length) (hll : l.length ≤ 32) (hz : base ≤ w.heap.size) : Calls Try.prog 30 #[.pointer (some ⟨B, 0, none⟩), .int .i64 i, .int .i64 k] w (RetAt base B (H.mark i k) w) := by
  have hmk : H.mark i k = H.setG i (g.mark k (decide (0 ≤ f))) := by unfold Ho.mark; rw [hg, Pl.fr_eq hl hf]
  rw [hmk]
  clear hmk
  obtain ⟨of, or', om, og, kf, kr, km, kg, us, gs, D, O⟩ := hA
  obtain ⟨n, hn⟩ : ∃ n, H.P.F.length = n := ⟨_, rfl⟩
  obtain ⟨r, hr⟩ : ∃ n, H.P.R.length = n := ⟨_, rfl⟩
  obtain ⟨m, hm⟩ : ∃ n, H.P.M.length = n := ⟨_, rfl⟩
  obtain ⟨q, hq⟩ : ∃ n, H.G.length = n := ⟨_, rfl⟩
  obtain ⟨tx, htx⟩ : ∃ n, H.t = n := ⟨_, rfl⟩
  obtain ⟨dx, hdx⟩ : ∃ n, H.d = n := ⟨_, rfl⟩
  obtain ⟨sx, hsx⟩ : ∃ n, H.n = n := ⟨_, rfl⟩
  rw [hn, hr, hm, hq, htx, hdx, hsx] at D
  rw [hn, hr, hm, hq] at O
  have HN := Lib.hid hn; clear hn
  have HR := Lib.hid hr; clear hr
  have HM := Lib.hid hm; clear hm
  have HQ := Lib.hid hq; clear hq
  have HT := Lib.hid htx; clear htx
  have HD := Lib.hid hdx; clear hdx
  have HS := Lib.hid hsx; clear hsx
  have hAB := D.lt
  obtain ⟨bG, cG, y, so, sc, uo, uc, eo, ec, e0, b1, b2, hy, ys, yu, ye, _, cg2, _, sc2, _, uc2, _, ec2, cs, cfz⟩ := O.guest hg
  injection e0 with e0 e9 e10
  subst e0 e10
  clear e9
  obtain ⟨mb, km', fb, lc, e0, hus, cm0, cf0, _, _, hmb, _, hfb, _⟩ := O.p.page hl hf
  injection e0 with e0 e9 e10
  subst e0 e10
  clear e9
  obtain ⟨ys1, yu1, ye1⟩ := y
  dsimp only at ys yu ye
  subst ys yu ye
  obtain ⟨rs1, rs2, rs3⟩ := O.r i _ g hy hg
  dsimp only at rs1 rs2 rs3
  have c6 : w.cell? ⟨bG, i * 9 + 6, none⟩ = _ := cs 6 _ rfl
  have c8 : w.cell? ⟨bG, i * 9 + 8, none⟩ = _ := cs 8 _ rfl
  clear cs
  dsimp only at c6 c8
  have hk := lt_of_get hf
  have hiq : i < q := by rw [← HQ.out]; exact lt_of_get hg
  have him : i < m := by rw [← HM.out]; exact lt_of_get hl
  obtain ⟨ql, hql⟩ : ∃ k, l.length = k := ⟨_, rfl⟩
  rw [hql] at hll cm0 hul hel hk hus
  rw [hul] at c6 rs2 hy
  rw [hel] at c8 rs3 hy
  obtain ⟨gU, rfl, gu1, gu2⟩ := rs2.addr hul (by omega)
  obtain ⟨gE, rfl, ge1, ge2⟩ := rs3.addr hel (by omega)
  obtain ⟨u0, hu0⟩ := get_lt (xs := g.u) (k := k) (by omega)
  obtain ⟨x0, hx0⟩ := get_lt (xs := g.e) (k := k) (by omega)
  obtain ⟨cU, fU⟩ := rs2.at hu0
  obtain ⟨cE, fE⟩ := rs3.at hx0
  have n1 : gU ≠ gE := fun e => by
    obtain ⟨tag, _, t1⟩ := O.t
    obtain ⟨_, q2, q3⟩ := t1 i _ hy
    have h2 := q2 gU rfl
    have h3 := q3 gE rfl
    rw [e] at h2
    omega
  have n2 : gE ≠ bG := fun e => own_ne_type rs3 O.g (by decide) rfl (by rw [e]; rfl)
  have n3 : gE ≠ B := fun e => own_off rs3 D (by decide) (by rw [e]; rfl)
  have n4 : gU ≠ B := fun e => own_off rs2 D (by decide) (by rw [e]; rfl)
  have hpu := O.p.u.2.1 i _ l hus hl
  have n5 : gE ≠ fb := fun e => own_ne_type rs3 hpu (by decide) rfl (by rw [e]; rfl)
  have n6 : gE ≠ mb := fun e => own_ne_type rs3 O.p.m (by decide) rfl (by rw [e]; rfl)
  have O1 := O.putE hg hy rfl k true
  have hg2 : (H.setG i { g with e := g.e.set k true }).G[i]? = some { g with e := g.e.set k true } := by
    show (H.G.set i _)[i]? = _
    rw [List.getElem?_set, if_pos rfl, if_pos (lt_of_get hg)]
  have hHe : (H.setG i { g with e := g.e.set k true }).setG i { g with e := g.e.set k true, u := g.u.set k (decide (0 ≤ f)) } = H.setG i (g.mark k (decide (0 ≤ f))) := by
    unfold Ho.setG Gm.mark
    dsimp only
    rw [List.set_set]
  have D1 := D.set_ne (fun e => n3 e.symm) (j := k) (.bool true)
  have HO1 := Lib.hid O1; clear O1
  have HD1 := Lib.hid D1; clear D1
  have HG2 := Lib.hid hg2; clear hg2
  have HYY := Lib.hid hy; clear hy
  have HHE := Lib.hid hHe; clear hHe
  clear O rs1 rs2 rs3 hpu hus hg hl hf hul hel hql hu0 hx0
  have i0 : (0 : Int) ≤ (i : Int) := by omega
  have k0 : (0 : Int) ≤ (k : Int) := by omega
  have iq : (i : Int) < (q : Int) := by omega
  have im : (i : Int) < (m : Int) := by omega
  have kq : (k : Int) < (ql : Int) := by omega
  have n7 : gE ≠ gU := fun e => n1 e.symm
  have hbE : Below base w (World.setCell w ⟨gE, k, none⟩ (.bool true)) := (Below.refl base w).setCell (p := ⟨gE, k, none⟩) ge1 _
  obtain ⟨D_c, D_f, D_z⟩ := D.all
  go_enter Try.func30, Try.ntmps30
  go_wp2_with fail
  refine wp_region_tail_below 22 (by kernel_rfl) (by kernel_rfl) ?_
  simp only [List.take_succ_cons, List.take_zero, List.drop_succ_cons, List.drop_zero]
  repeat (go_big_quiet_step (first | fail | fail))
  refine wpQuiet_nil ?_
  intro w3 hw3
  have hb3 := below_of_regrown hw3
  clear hw3
  obtain ⟨hc3, hf3⟩ := bcell hb3
  have hz3 := bsize hb3
  try simp only [sizes1] at hz3
  try simp only [sizes] at hc3 hf3
  have HO3 := HO1.out.below hb3
  have HD3 := HD1.out.below hb3
  have hbw3 : Below base w w3 := hbE.trans (hb3.mono (by rw [World.size_setCell]; exact hz))
  go_wp2_with fail
  go_end0
  have O2 := HO3.putU HG2.out HYY.out rfl k (decide (0 ≤ f))
  dsimp only at O2
  rw [HHE.out] at O2
  have D4 := HD3.set_ne (fun e => n4 e.symm) (j := k) (.bool (decide (0 ≤ f)))
  have HA' := HostAt.mk (H := H.setG i (g.mark k (decide (0 ≤ f)))) HN.out HR.out HM.out ((List.length_set ..).trans HQ.out) HT.out HD.out HS.out D4 O2
  exact ⟨rfl, HA', hbw3.setCell (p := ⟨gU, k, none⟩) gu1 _⟩
end Go.Proofs.Ytbnngjhnkegliaa
namespace Go.Proofs.Ytbnngjhnkegliaa
open Go.RowKit

/-- The memory of a guest fits its pages in the pool. -/
structure GmP (P : Pl) (i : Nat) (g : Gm) : Prop where
  cv : validB g.c = true
  p0 : g.c.p = 0
  lim : (P.chargeN i : Int) ≤ g.c.l
  ls : g.s.length = (P.pages i).length
  lu : g.u.length = (P.pages i).length
  le : g.e.length = (P.pages i).length
  hd : 0 ≤ g.h ∧ g.h < (P.pages i).length
  us : ∀ (k : Nat) (b : Bool), k < (P.pages i).length → g.u[k]? = some b → P.fr i k < 0 → b = false
  sw : ∀ (k : Nat) (t : ByteArray), k < (P.pages i).length → g.s[k]? = some t → t.size = 0 ∨ (P.fr i k < 0 ∧ t.size = 128 ∧ zeroB t = false)
theorem gm_iff {P : Pl} {i : Nat} {g : Gm} {l : List Int} (hl : P.M[i]? = some l) : GmOk g l ↔ GmP P i g := by
  have hp := Pl.pages_eq hl
  have hf : ∀ k f, l[k]? = some f → P.fr i k = f := fun k f hk => Pl.fr_eq hl hk
  constructor
  · rintro ⟨a1, a2, a3, a4, a5, a6, a7, a8, a9⟩
    refine ⟨a1, a2, by unfold Pl.chargeN; rw [hp]; exact a3, by rw [hp]; exact a4, by rw [hp]; exact a5, by rw [hp]; exact a6, by rw [hp]; exact a7, fun k b hk hb h0 => ?_, fun k t hk ht => ?_⟩
    · rw [hp] at hk
      obtain ⟨f, hkf⟩ := get_lt hk
      rw [hf k f hkf] at h0
      exact a8 k f b hkf hb h0
    · rw [hp] at hk
      obtain ⟨f, hkf⟩ := get_lt hk
      rw [hf k f hkf]
      exact a9 k f t hkf ht
  · rintro ⟨a1, a2, a3, a4, a5, a6, a7, a8, a9⟩
    rw [hp] at a4 a5 a6 a7 a8 a9
    unfold Pl.chargeN at a3
    rw [hp] at a3
    refine ⟨a1, a2, a3, a4, a5, a6, a7, fun k f b hk hb h0 => ?_, fun k f t hk ht => ?_⟩
    · exact a8 k b (lt_of_get hk) hb (by rw [hf k f hk]; exact h0)
    · have := a9 k t (lt_of_get hk) ht
      rw [hf k f hk] at this
      exact this
theorem Ho.Ok.gmP {H : Ho} (h : H.Ok) {i : Nat} {g : Gm} (hg : H.G[i]? = some g) : GmP H.P i g := by
  obtain ⟨l, hl, hgo⟩ := h.page hg
  exact (gm_iff hl).1 hgo
theorem lenM_alike {P Q : Pl} (h : P.Alike Q) : lenM Q.M = lenM P.M := by
  unfold lenM
  congr 1
  apply List.ext_getElem?
  intro i
  rw [List.getElem?_map, List.getElem?_map]
  rcases Nat.lt_or_ge i P.M.length with hi | hi
  · obtain ⟨l, hl⟩ := get_lt hi
    obtain ⟨l', hl'⟩ := get_lt (xs := Q.M) (k := i) (by rw [h.m]; exact hi)
    have := h.pg i
    rw [Pl.pages_eq hl, Pl.pages_eq hl'] at this
    rw [hl, hl']
    exact congrArg some this
  · rw [List.getElem?_eq_none hi, List.getElem?_eq_none (by rw [h.m]; exact hi)]
/-- To be valid, once the pool is and the guests fit. -/
theorem Ho.Ok.of {H H' : Ho} (h : H.Ok) (hP : H'.P.Ok) (al : H.P.Alike H'.P) (hG : H'.G.length = H.G.length) (ht : H'.t = H.t) (hd : 0 ≤ H'.d ∧ H'.d < 18446744073709551616) (hn : 0 ≤ H'.n ∧ H'.n < max (lenM H.P.M : Int) 1) (hr : sumR H'.G = sumR H.G) (hg : ∀ (i : Nat) (g : Gm), H'.G[i]? = some g → GmP H'.P i g) : H'.Ok :=
  ⟨hP, by rw [hG, al.m]; exact h.m, by rw [ht]; exact h.t, hd, fun i g l hgi hl => (gm_iff hl).2 (hg i g hgi), by rw [hr, al.f]; exact h.r, by rw [lenM_alike al]; exact hn⟩
theorem sumR_set {G : List Gm} {i : Nat} {g g' : Gm} (hg : G[i]? = some g) (hc : g'.c.r = g.c.r) : sumR (G.set i g') = sumR G := by
  unfold sumR
  congr 1
  apply List.ext_getElem?
  intro k
  rw [List.getElem?_map, List.getElem?_map, List.getElem?_set]
  by_cases e : i = k
  · subst e
    rw [if_pos rfl, if_pos (lt_of_get hg), hg]
    exact congrArg some hc
  · rw [if_neg e]
/-- The content of a page of a host. -/
def Ho.text (H : Ho) (i k : Nat) : ByteArray := match H.G[i]? with
  | none => H.P.text i k
  | some g => match g.s[k]? with
    | none => H.P.text i k
    | some t => if t.size = 0 then H.P.text i k else t
theorem Ho.text_eq {H : Ho} {i k : Nat} {g : Gm} {t : ByteArray} (hg : H.G[i]? = some g) (ht : g.s[k]? = some t) : H.text i k = if t.size = 0 then H.P.text i k else t := by
  unfold Ho.text
  rw [hg]
  dsimp only
  rw [ht]
theorem Pl.at_lt {P : Pl} {a b : Nat} : P.at a b ↔ (a < P.M.length ∧ b < (P.pages a).length) := by
  constructor
  · rintro ⟨l, f, hl, hp⟩
    exact ⟨lt_of_get hl, by rw [Pl.pages_eq hl]; exact lt_of_get hp⟩
  · rintro ⟨ha, hb⟩
    obtain ⟨l, hl⟩ := get_lt ha
    rw [Pl.pages_eq hl] at hb
    obtain ⟨f, hf⟩ := get_lt hb
    exact ⟨l, f, hl, hf⟩
/-- What an eviction has done: one page of the guest has moved from its frame to the swap. -/
structure Evicted (H H' : Ho) (i : Nat) (x : Int) : Prop where
  ok : H'.Ok
  al : H.P.Alike H'.P
  gl : H'.G.length = H.G.length
  t : H'.t = H.t
  d : H'.d = H.d
  n : H'.n = H.n
  pg : ∃ v : Nat, H.P.at i v ∧ 0 ≤ H.P.fr i v ∧ (v : Int) ≠ x ∧ (∀ a b, H'.P.fr a b = if i = a ∧ v = b then -1 else H.P.fr a b) ∧ ∀ a, H'.P.chargeN a + (if i = a then 1 else 0) = H.P.chargeN a
  cl : ∀ (a : Nat) (g : Gm), H.G[a]? = some g → ∃ g', H'.G[a]? = some g' ∧ g'.c = g.c ∧ g'.e = g.e ∧ (a ≠ i → g' = g)
  text : ∀ a b, H.P.at a b → H'.text a b = H.text a b
theorem evict_law {H H' : Ho} {i : Nat} {x : Int} (hok : H.Ok) (h : H.evict i x = some H') : Evicted H H' i x := by
  unfold Ho.evict at h
  cases hg : H.G[i]? with
  | none => rw [hg] at h; simp at h
  | some g =>
    rw [hg] at h
    dsimp only at h
    have hgp := hok.gmP hg
    obtain ⟨l, hl, hgo⟩ := hok.page hg
    have hpl := Pl.pages_eq hl
    have hll := hok.p.l l (mem_at hl)
    cases ho : chO g.u ((H.P.pages i).map hasB) g.h.toNat x with
    | none => rw [ho] at h; simp at h
    | some a =>
      obtain ⟨v, u, q⟩ := a
      rw [ho] at h
      injection h with h
      have hhd := hgp.hd
      rw [hpl] at hhd ho
      unfold chO at ho
      obtain ⟨p1, p2, p3, p4, p5, p6, p7⟩ := chF_spec (by rw [List.length_map]; omega) _ _ _ _ _ _ (by rw [List.length_map]; omega) ho
      rw [List.length_map] at p1 p6
      obtain ⟨f, hf⟩ := get_lt p1
      rw [List.getElem?_map, hf] at p2
      have hf0 : 0 ≤ f := by
        injection p2 with p2
        unfold hasB at p2
        exact of_decide_eq_true p2
      have hat : H.P.at i v := ⟨l, f, hl, hf⟩
      have hfr := Pl.fr_eq hl hf
      obtain ⟨we1, _⟩ := Pl.wr_eq hok.p hat zeros128_size
      have hwr : H.P.wr i v zeros128 = H.P.giveUp i v := by
        rw [we1]
        unfold Pl.wr'
        rw [if_pos zeros128_zero]
      rw [hwr] at h
      have G := hok.p.gave hat
      have hch := Pl.charge_give hat
      have htg := Pl.text_good hok.p hat (by rw [hfr]; exact hf0)
      have hlt := lt_of_get hg
      subst h
      have hset : ∀ a : Nat, (H.G.set i { g with u := u, h := (q : Int), s := g.s.set v (H.P.text i v) })[a]? = if i = a then some { g with u := u, h := (q : Int), s := g.s.set v (H.P.text i v) } else H.G[a]? := fun a => by
        rw [List.getElem?_set]
        by_cases e : i = a
        · rw [if_pos e, if_pos hlt, if_pos e]
        · rw [if_neg e, if_neg e]
      have hpg : ((H.P.giveUp i v).pages i).length = l.length := by rw [G.al.pg, hpl]
      have hgm : ∀ (a : Nat) (z : Gm), (H.G.set i { g with u := u, h := (q : Int), s := g.s.set v (H.P.text i v) })[a]? = some z → GmP (H.P.giveUp i v) a z := fun a z hz => by
        rw [hset] at hz
        by_cases e : i = a
        · subst e
          rw [if_pos rfl] at hz
          injection hz with hz
          subst hz
          refine ⟨hgp.cv, hgp.p0, ?_, ?_, ?_, ?_, ?_, fun k b hk hb h0 => ?_, fun k t hk ht => ?_⟩
          · have h1 := hch i
            have h2 := hgp.lim
            show ((H.P.giveUp i v).chargeN i : Int) ≤ g.c.l
            split at h1 <;> omega
          · show (g.s.set v _).length = _
            rw [List.length_set, hpg, hgp.ls, hpl]
          · show u.length = _
            rw [p4, hpg, hgp.lu, hpl]
          · show g.e.length = _
            rw [hpg, hgp.le, hpl]
          · rw [hpg]
            exact ⟨by dsimp only; omega, by dsimp only; omega⟩
          · change u[k]? = some b at hb
            by_cases ek : k = v
            · subst ek
              rw [hb] at p5
              exact p5
            · rw [G.fr, if_neg (fun h => ek h.2.symm)] at h0
              rcases p7 k with h7 | h7
              · rw [hb] at h7
                exact hgp.us k b (by rw [hpl, ← hpg]; exact hk) h7.symm h0
              · rw [hb] at h7
                injection h7
          · change (g.s.set v (H.P.text i v))[k]? = some t at ht
            rw [List.getElem?_set] at ht
            rw [G.fr]
            by_cases ek : v = k
            · subst ek
              rw [if_pos rfl] at ht
              split at ht
              · injection ht with ht
                subst ht
                rw [if_pos ⟨rfl, rfl⟩]
                exact .inr ⟨by omega, htg.1, htg.2⟩
              · cases ht
            · rw [if_neg ek] at ht
              rw [if_neg (fun h => ek h.2)]
              exact hgp.sw k t (by rw [hpl, ← hpg]; exact hk) ht
        · rw [if_neg e] at hz
          have hz' := hok.gmP hz
          have hfa : ∀ k, (H.P.giveUp i v).fr a k = H.P.fr a k := fun k => by rw [G.fr, if_neg (fun h => e h.1)]
          refine ⟨hz'.cv, hz'.p0, ?_, by rw [G.al.pg]; exact hz'.ls, by rw [G.al.pg]; exact hz'.lu, by rw [G.al.pg]; exact hz'.le, by rw [G.al.pg]; exact hz'.hd, fun k b hk hb h0 => ?_, fun k t hk ht => ?_⟩
          · have h1 := hch a
            rw [if_neg (fun h => e h.1)] at h1
            have h2 := hz'.lim
            show ((H.P.giveUp i v).chargeN a : Int) ≤ z.c.l
            omega
          · rw [G.al.pg] at hk
            rw [hfa] at h0
            exact hz'.us k b hk hb h0
          · rw [G.al.pg] at hk
            rw [hfa]
            exact hz'.sw k t hk ht
      refine ⟨hok.of (G.ok hok.p) G.al (List.length_set ..) rfl hok.d hok.n (sumR_set hg rfl) hgm, G.al, List.length_set .., rfl, rfl, rfl, ⟨v, hat, by rw [hfr]; exact hf0, p3, G.fr, fun a => ?_⟩, fun a z hz => ?_, fun a b hab => ?_⟩
      · have := hch a
        show (H.P.giveUp i v).chargeN a + _ = _
        by_cases e : i = a
        · rw [if_pos ⟨e, by rw [hfr]; exact hf0⟩] at this
          rw [if_pos e]
          exact this
        · rw [if_neg (fun h => e h.1)] at this
          rw [if_neg e]
          exact this
      · dsimp only
        rw [hset]
        by_cases e : i = a
        · subst e
          rw [hg] at hz
          injection hz with hz
          subst hz
          rw [if_pos rfl]
          exact ⟨_, rfl, rfl, rfl, fun h => absurd rfl h⟩
        · rw [if_neg e]
          exact ⟨z, hz, rfl, rfl, fun _ => rfl⟩
      · have htx := G.text hok.p hab
        obtain ⟨ha, hb⟩ := Pl.at_lt.1 hab
        obtain ⟨z, hz⟩ := get_lt (xs := H.G) (k := a) (by rw [hok.m]; exact ha)
        have hzp := hok.gmP hz
        obtain ⟨t, ht⟩ := get_lt (xs := z.s) (k := b) (by rw [hzp.ls]; exact hb)
        rw [Ho.text_eq hz ht]
        by_cases e : i = a
        · subst e
          rw [hg] at hz
          injection hz with hz
          subst hz
          by_cases ek : v = b
          · subst ek
            have hts : t.size = 0 := by
              rcases hzp.sw v t hb ht with h1 | h1
              · exact h1
              · rw [hfr] at h1
                omega
            rw [if_pos hts]
            rw [Ho.text_eq (g := { g with u := u, h := (q : Int), s := g.s.set v (H.P.text i v) }) (t := H.P.text i v) (by dsimp only; rw [hset, if_pos rfl]) (by show (g.s.set v _)[v]? = _; rw [List.getElem?_set, if_pos rfl, if_pos (lt_of_get ht)])]
            rw [if_neg (by omega)]
          · rw [Ho.text_eq (g := { g with u := u, h := (q : Int), s := g.s.set v (H.P.text i v) }) (t := t) (by dsimp only; rw [hset, if_pos rfl]) (by show (g.s.set v _)[b]? = _; rw [List.getElem?_set, if_neg ek]; exact ht)]
            show (if t.size = 0 then (H.P.giveUp i v).text i b else t) = _
            rw [htx, if_neg (show ¬ (i = i ∧ v = b) from fun h => ek h.2)]
        · rw [Ho.text_eq (g := z) (t := t) (by dsimp only; rw [hset, if_neg e]; exact hz) ht]
          show (if t.size = 0 then (H.P.giveUp i v).text a b else t) = _
          rw [htx, if_neg (show ¬ (i = a ∧ v = b) from fun h => e h.1)]
end Go.Proofs.Ytbnngjhnkegliaa
namespace Go.Proofs.Ytbnngjhnkegliaa
open Go.RowKit

theorem mark_get {H : Ho} {i k a : Nat} {g1 : Gm} (h1 : (H.mark i k).G[a]? = some g1) : ∃ g0, H.G[a]? = some g0 ∧ (a ≠ i → g1 = g0) ∧ (a = i → g1 = g0.mark k (decide (0 ≤ H.P.fr i k))) := by
  unfold Ho.mark at h1
  cases hg : H.G[i]? with
  | none =>
    rw [hg] at h1
    dsimp only at h1
    refine ⟨g1, h1, fun _ => rfl, fun e => ?_⟩
    subst e
    rw [hg] at h1
    cases h1
  | some g =>
    rw [hg] at h1
    dsimp only [Ho.setG] at h1
    rw [List.getElem?_set] at h1
    by_cases e : i = a
    · subst e
      rw [if_pos rfl, if_pos (lt_of_get hg)] at h1
      cases h1
      exact ⟨g, hg, fun h => absurd rfl h, fun _ => rfl⟩
    · rw [if_neg e] at h1
      exact ⟨g1, h1, fun _ => rfl, fun h => absurd h.symm e⟩
theorem get_mark {H : Ho} {i k a : Nat} {g0 : Gm} (h0 : H.G[a]? = some g0) : ∃ g1, (H.mark i k).G[a]? = some g1 ∧ g1.c = g0.c ∧ g1.s = g0.s := by
  unfold Ho.mark
  cases hg : H.G[i]? with
  | none => exact ⟨g0, h0, rfl, rfl⟩
  | some g =>
    dsimp only [Ho.setG]
    rw [List.getElem?_set]
    by_cases e : i = a
    · subst e
      rw [if_pos rfl, if_pos (lt_of_get hg)]
      rw [hg] at h0
      cases h0
      exact ⟨_, rfl, rfl, rfl⟩
    · rw [if_neg e]
      exact ⟨g0, h0, rfl, rfl⟩
theorem mark_rest (H : Ho) (i k : Nat) : (H.mark i k).P = H.P ∧ (H.mark i k).t = H.t ∧ (H.mark i k).d = H.d ∧ (H.mark i k).n = H.n ∧ (H.mark i k).G.length = H.G.length ∧ sumR (H.mark i k).G = sumR H.G := by
  unfold Ho.mark
  cases hg : H.G[i]? with
  | none => exact ⟨rfl, rfl, rfl, rfl, rfl, rfl⟩
  | some g => exact ⟨rfl, rfl, rfl, rfl, List.length_set .., sumR_set hg rfl⟩
/-- A mark keeps a host valid. -/
theorem mark_ok {H : Ho} (hok : H.Ok) (i k : Nat) : (H.mark i k).Ok := by
  obtain ⟨e1, e2, e3, e4, e5, e6⟩ := mark_rest H i k
  refine Ho.Ok.of hok (by rw [e1]; exact hok.p) (by rw [e1]; exact Pl.Alike.refl _) e5 e2 (by rw [e3]; exact hok.d) (by rw [e4]; exact hok.n) e6 (fun a g1 h1 => ?_)
  rw [e1]
  obtain ⟨g0, h0, hne, heq⟩ := mark_get h1
  have hgp := hok.gmP h0
  by_cases e : a = i
  · subst e
    rw [heq rfl]
    refine ⟨hgp.cv, hgp.p0, hgp.lim, hgp.ls, ?_, ?_, hgp.hd, fun c b hc hb h0 => ?_, hgp.sw⟩
    · rw [← hgp.lu]
      exact List.length_set ..
    · rw [← hgp.le]
      exact List.length_set ..
    · have hb2 : (g0.u.set k (decide (0 ≤ H.P.fr a k)))[c]? = some b := hb
      rw [List.getElem?_set] at hb2
      by_cases e2 : k = c
      · subst e2
        rw [if_pos rfl, if_pos (by rw [hgp.lu]; exact hc)] at hb2
        cases hb2
        exact decide_eq_false (by omega)
      · rw [if_neg e2] at hb2
        exact hgp.us c b hc hb2 h0
  · rw [hne e]
    exact hgp
theorem mark_text {H : Ho} (i k a b : Nat) : (H.mark i k).text a b = H.text a b := by
  cases h0 : H.G[a]? with
  | none =>
    have h1 : (H.mark i k).G[a]? = none := List.getElem?_eq_none (by rw [(mark_rest H i k).2.2.2.2.1]; exact List.getElem?_eq_none_iff.1 h0)
    unfold Ho.text
    rw [h0, h1, (mark_rest H i k).1]
  | some g0 =>
    obtain ⟨g1, h1, _, hs⟩ := get_mark (i := i) (k := k) h0
    unfold Ho.text
    rw [h0, h1, (mark_rest H i k).1]
    dsimp only
    rw [hs]
end Go.Proofs.Ytbnngjhnkegliaa
namespace Go.Proofs.Ytbnngjhnkegliaa
open Go.RowKit

/-- The eviction that a page wants, from the chosen guest. -/
def Ho.evictC (H : Ho) (i p : Nat) : Option Ho := H.evict (H.chosen i).toNat (if H.chosen i = i then p else -1)
inductive Steps (i p : Nat) (H : Ho) : Ho → Prop
  | refl : Steps i p H H
  | step {K L : Ho} : Steps i p H K → K.full i p = true → K.evictC i p = some L → Steps i p H L
/-- The first eviction, if the guest has as many frames as its limit. -/
def Ho.first (H : Ho) (i p : Nat) : Ho := match H.G[i]? with
  | none => H
  | some g => if H.P.fr i p < 0 ∧ g.c.l ≤ (H.P.chargeN i : Int) then (H.evict i p).getD H else H
/-- Room has been made, as far as it goes. -/
def Roomed (i p : Nat) (H H' : Ho) : Prop := Steps i p (H.first i p) H' ∧ (H'.full i p = false ∨ (H'.full i p = true ∧ H'.evictC i p = none))
def sumN (f : Nat → Nat) : Nat → Nat
  | 0 => 0
  | k + 1 => sumN f k + f k
theorem sumN_dec {f f' : Nat → Nat} {i : Nat} (h : ∀ a, f' a + (if i = a then 1 else 0) = f a) : ∀ k : Nat, sumN f' k + (if i < k then 1 else 0) = sumN f k
  | 0 => rfl
  | k + 1 => by
    have ih := sumN_dec h k
    have hk := h k
    rw [sumN, sumN]
    by_cases e : i = k
    · subst e
      rw [if_pos rfl] at hk
      rw [if_neg (by omega)] at ih
      rw [if_pos (by omega)]
      omega
    · rw [if_neg e] at hk
      by_cases e2 : i < k
      · rw [if_pos e2] at ih
        rw [if_pos (by omega)]
        omega
      · rw [if_neg e2] at ih
        rw [if_neg (by omega)]
        omega
/-- The pages with frames, of all guests. -/
def Ho.resN (H : Ho) : Nat := sumN H.P.chargeN H.P.M.length
theorem Evicted.res {H H' : Ho} {i : Nat} {x : Int} (h : Evicted H H' i x) (hi : i < H.P.M.length) : H'.resN + 1 = H.resN := by
  obtain ⟨v, _, _, _, _, hc⟩ := h.pg
  have := sumN_dec hc H.P.M.length
  rw [if_pos hi] at this
  unfold Ho.resN
  rw [h.al.m]
  exact this
theorem chosen_bd {H : Ho} (hok : H.Ok) {i : Nat} (hi : i < H.G.length) : 0 ≤ H.chosen i ∧ H.chosen i < H.G.length := by
  have hcl : H.claims.length = H.G.length := by unfold Ho.claims; rw [List.length_zipWith, hok.m, Nat.min_self]
  unfold Ho.chosen
  have h1 := vicF_bd H.claims H.t H.claims.length
  unfold victimR
  split
  · rename_i h
    dsimp only
    rw [if_pos rfl]
    omega
  · dsimp only
    rw [if_neg (by decide)]
    omega
def RetRoom (base B i p : Nat) (H : Ho) (w : World) (e : Ending) (w' : World) : Prop := e = .returned (.tuple #[]) ∧ (∃ H', Roomed i p H H' ∧ H'.Ok ∧ HostAt base B w' H') ∧ Below base w w'
set_option maxRecDepth 100000 in
set_option maxHeartbeats 8000000 in
/-- The loop alone. -/
theorem hroom_ok (base B : Nat) (H : Ho) (i p : Nat) (w : World) (hA : HostAt base B w H) (hB : base ≤ B) (hok : H.Ok) (hat : H.P.at i p) (hz : base ≤ w.heap.size) : Calls Try.prog 28 #[.pointer (some ⟨B, 0, none⟩), .int .i64 i, .int .i64 p] w (RetRoom base B i p H w) := by
  have hi := hok.at_lt hat
  obtain ⟨g, hg⟩ := get_lt hi
  have hgp := hok.gmP hg
  obtain ⟨l, hl, hgo⟩ := hok.page hg
  have hll := hok.p.l l (mem_at hl)
  obtain ⟨l', f, hl', hf⟩ := hat
  rw [hl] at hl'
  injection hl' with hl'
  subst hl'
  have hfr := Pl.fr_eq hl hf
  have hchn : H.P.chargeN i = l.countP hasB := by unfold Pl.chargeN; rw [Pl.pages_eq hl]
  have hfi : H.first i p = if f < 0 ∧ g.c.l ≤ ((l.countP hasB : Nat) : Int) then (H.evict i p).getD H else H := by
    unfold Ho.first
    rw [hg, hfr, hchn]
  have hat : H.P.at i p := ⟨l, f, hl, hf⟩
  have hA0 := hA
  obtain ⟨of, or', om, og, kf, kr, km, kg, us, gs, D, O⟩ := hA
  obtain ⟨n, hn⟩ : ∃ n, H.P.F.length = n := ⟨_, rfl⟩
  obtain ⟨r, hr⟩ : ∃ n, H.P.R.length = n := ⟨_, rfl⟩
  obtain ⟨m, hm⟩ : ∃ n, H.P.M.length = n := ⟨_, rfl⟩
  obtain ⟨q, hq⟩ : ∃ n, H.G.length = n := ⟨_, rfl⟩
  obtain ⟨tx, htx⟩ : ∃ n, H.t = n := ⟨_, rfl⟩
  obtain ⟨dx, hdx⟩ : ∃ n, H.d = n := ⟨_, rfl⟩
  obtain ⟨sx, hsx⟩ : ∃ n, H.n = n := ⟨_, rfl⟩
  rw [hn, hr, hm, hq, htx, hdx, hsx] at D
  rw [hn, hr, hm, hq] at O
  have HN := Lib.hid hn; clear hn
  have HR := Lib.hid hr; clear hr
  have HM := Lib.hid hm; clear hm
  have HQ := Lib.hid hq; clear hq
  have HT := Lib.hid htx; clear htx
  have HD := Lib.hid hdx; clear hdx
  have HS := Lib.hid hsx; clear hsx
  obtain ⟨bG, cG, y, so, sc, uo, uc, eo, ec, e0, b1, b2, hy, ys, yu, ye, _, cg2, _, sc2, _, uc2, _, ec2, cs, cfz⟩ := O.guest hg
  injection e0 with e0 e9 e10
  subst e0 e10
  clear e9
  obtain ⟨mb, moff, lo, lc, rfl, hmb, cm0, lc1, lc2, hL⟩ := O.row.p.guest hl
  obtain ⟨fb, foff, rfl, hfb, cf0⟩ := hL.elem hf
  have c1 : w.cell? ⟨bG, i * 9 + 1, none⟩ = _ := cs 1 _ rfl
  have CHc := fun w h => hcharge_any (some ⟨fb, foff, none⟩) lc l w h (by omega)
  clear cs cfz
  have hp := lt_of_get hf
  have hiq : i < q := by rw [← HQ.out]; exact lt_of_get hg
  have him : i < m := by rw [← HM.out]; exact lt_of_get hl
  obtain ⟨ql, hql⟩ : ∃ k, l.length = k := ⟨_, rfl⟩
  rw [hql] at hll cm0 hL CHc hp lc1
  obtain ⟨x, hx⟩ : ∃ x, l.countP hasB = x := ⟨_, rfl⟩
  rw [hx] at CHc hfi
  obtain ⟨lim, hlim⟩ : ∃ x, g.c.l = x := ⟨_, rfl⟩
  rw [hlim] at c1 hfi
  have HCH := Lib.hid CHc; clear CHc
  have HL := Lib.hid hL; clear hL
  have i0 : (0 : Int) ≤ (i : Int) := by omega
  have iq : (i : Int) < (q : Int) := by omega
  have im : (i : Int) < (m : Int) := by omega
  have p0 : (0 : Int) ≤ (p : Int) := by omega
  have pq : (p : Int) < (ql : Int) := by omega
  have HFI := Lib.hid hfi; clear hfi
  have HAT := Lib.hid hat; clear hat
  have HA0 := Lib.hid hA0; clear hA0
  have HOK := Lib.hid hok; clear hok
  clear hgo hgp hy ys yu ye hf hl hg hfr hchn hx hlim hql hi O
  obtain ⟨D_c, D_f, D_z⟩ := D.all
  go_enter Try.func28, Try.ntmps28
  by_cases hc : f < 0 ∧ lim ≤ (x : Int)
  · obtain ⟨hc1, hc2⟩ := hc
    have hfi := HFI.out
    rw [if_pos ⟨hc1, hc2⟩] at hfi
    have t1 : decide ((x : Int) ≥ lim) = true := decide_eq_true hc2
    have t2 : decide (lim ≤ (x : Int)) = true := decide_eq_true hc2
    have HF2 := Lib.hid hfi; clear hfi HFI
    go_wp2_with fail
    refine wp_region_quiet_below (by kernel_rfl) (by kernel_rfl) ?_
    repeat (go_big_quiet_step (first | fail | (go_at_call 35; with_reducible exact quiet_ret (HCH.out _ (HL.out.below (below_regrown _ _ _))))))
    refine wpQuiet_nil ?_
    intro w3 hw3
    have hb3 := below_of_regrown hw3
    clear hw3
    obtain ⟨hc3, hf3⟩ := bcell hb3
    have hz3 := bsize hb3
    try simp only [sizes1] at hz3
    try simp only [sizes] at hc3 hf3
    clear hc3 hf3 hz3 t1 t2 D_c D_f D_z
    go_wp2_with fail
    have hz3 := Nat.le_trans hz hb3.size
    with_reducible refine (hevict_ok base B H i p w3 (HA0.out.below hb3) hB HOK.out (HOK.out.at_lt HAT.out) hz3).mono ?_
    rintro e w4 ⟨hm, hb4⟩
    have hbA : Below base w w4 := (hb3.mono hz).trans hb4
    have hall : ∃ (H1 : Ho) (b : Bool), e = .returned (.bool b) ∧ H.first i p = H1 ∧ H1.Ok ∧ H1.P.at i p ∧ HostAt base B w4 H1 := by
      have h2 := HF2.out
      cases ho : H.evict i p with
      | none =>
        rw [ho] at hm h2
        exact ⟨H, false, hm.1, h2, HOK.out, HAT.out, hm.2⟩
      | some L =>
        rw [ho] at hm h2
        have EL := evict_law HOK.out ho
        exact ⟨L, true, hm.1, h2, EL.ok, (EL.al.at _ _).2 HAT.out, hm.2⟩
    obtain ⟨H1, bb, rfl, hf1, hok1, hat1, hA1⟩ := hall
    have HF1 := Lib.hid hf1; clear hf1
    have HO1 := Lib.hid hok1; clear hok1
    have HT1 := Lib.hid hat1; clear hat1
    have HX1 := Lib.hid hA1; clear hA1
    clear hm hb3 hb4 HF2 D
    go_wp2_with fail
    have hzA := hbA.size
    go_loopg [6, 7] (Ho.resN H1) (fun k _ _ wr => ∃ K : Ho, Hid (Steps i p H1 K) ∧ Hid K.Ok ∧ Hid (K.P.at i p) ∧ K.resN ≤ k ∧ HostAt base B wr K ∧ Below base w wr)
    case atStart => exact ⟨H1, .refl, HO1, HT1, Nat.le_refl _, HX1.out, hbA⟩
    case round =>
      obtain ⟨K, HST, HKO, HKA, hkn, hK, hbK⟩ := hrel
      have hzK := Nat.le_trans hz hbK.size
      have hK0 := hK
      have FUc := fun v w h => hfull_ok v K i p w h HKO.out.p HKA.out
      have CHc := fun v w h => hchosen_ok v K i w h HKO.out
      have hcb := chosen_bd HKO.out (HKO.out.at_lt HKA.out)
      obtain ⟨c, hc⟩ : ∃ c : Nat, K.chosen i = c := ⟨(K.chosen i).toNat, by omega⟩
      have hevc : K.evictC i p = K.evict c (if (c : Int) = i then p else -1) := by unfold Ho.evictC; rw [hc, Int.toNat_natCast]
      rw [hc] at CHc hcb
      obtain ⟨fu, hfu⟩ : ∃ b, K.full i p = b := ⟨_, rfl⟩
      rw [hfu] at FUc
      have HFU := Lib.hid FUc; clear FUc
      have HCC := Lib.hid CHc; clear CHc
      have HFV := Lib.hid hfu; clear hfu
      have HEC := Lib.hid hevc; clear hevc
      clear hc
      obtain ⟨of, or', om, og, kf, kr, km, kg, us, gs, D, O⟩ := hK
      have HVA : Hid (∀ w' : World, Below wr.heap.size wr w' → HoAt w' (.agg #[.slice of K.P.F.length kf, .slice or' K.P.R.length kr, .slice om K.P.M.length km, .slice og K.G.length kg, .int .i64 K.t, .int .u64 K.d, .int .i64 K.n]) K) := Lib.hid (fun w' hb => (O.below hb).at_)
      clear O
      cases fu
      · obtain ⟨D_c, D_f, D_z⟩ := D.all
        go_wp2_with fail
        with_reducible refine (HFU.out _ _ (HVA.out _ (Below.refl _ _))).mono ?_
        rintro e wf ⟨rfl, hbf⟩
        go_wp2_with fail
        go_end0
        exact ⟨rfl, ⟨K, ⟨by rw [HF1.out]; exact HST.out, .inl HFV.out⟩, HKO.out, hK0.below hbf⟩, hbK.trans (hbf.mono hzK)⟩
      · obtain ⟨D_c, D_f, D_z⟩ := D.all
        go_wp2_with fail
        clear D_c D_f D_z
        with_reducible refine (HFU.out _ _ (HVA.out _ (Below.refl _ _))).mono ?_
        rintro e wf ⟨rfl, hbf⟩
        obtain ⟨D_c, D_f, D_z⟩ := (D.below hbf).all
        go_wp2_with fail
        clear D_c D_f D_z
        with_reducible refine (HCC.out _ _ (HVA.out _ hbf)).mono ?_
        rintro e wg ⟨rfl, hbg⟩
        replace hbg := hbf.trans (hbg.mono hbf.size)
        clear hbf
        have hKg := hK0.below hbg
        have hzg := Nat.le_trans hzK hbg.size
        have EVc := fun x => hevict_ok base B K c x wg hKg hB HKO.out (by omega) hzg
        by_cases hci : (c : Int) = i
        · have hec := HEC.out
          rw [if_pos hci] at hec
          have hci' : c = i := by omega
          subst hci'
          have EV2 := EVc (p : Int)
          obtain ⟨o, ho⟩ : ∃ o, K.evict c (p : Int) = o := ⟨_, rfl⟩
          rw [ho] at EV2 hec
          have HEE := Lib.hid EV2; clear EV2 EVc
          have HHC := Lib.hid hec; clear hec HEC
          have HHO := Lib.hid ho; clear ho
          clear hci
          go_wp2_with fail
          with_reducible refine HEE.out.mono ?_
          rintro e wh ⟨hm, hbh⟩
          cases o with
          | none =>
            obtain ⟨rfl, hAh⟩ := hm
            go_wp2_with fail
            go_end0
            exact ⟨rfl, ⟨K, ⟨by rw [HF1.out]; exact HST.out, .inr ⟨HFV.out, HHC.out⟩⟩, HKO.out, hAh⟩, (hbK.trans (hbg.mono hzK)).trans hbh⟩
          | some L =>
            obtain ⟨rfl, hAh⟩ := hm
            have EL := evict_law HKO.out HHO.out
            have hres := EL.res (Pl.at_lt.1 HKA.out).1
            go_wp2_with fail
            go_roundg L.resN
            case measure => omega
            case rel => exact ⟨L, .step HST.out HFV.out HHC.out, EL.ok, (EL.al.at _ _).2 HKA.out, Nat.le_refl _, hAh, (hbK.trans (hbg.mono hzK)).trans hbh⟩
        · have hec := HEC.out
          rw [if_neg hci] at hec
          have e1 : ((c : Int) == (i : Int)) = false := by rw [beq_eq_false_iff_ne]; exact hci
          have EV2 := EVc (-1)
          obtain ⟨o, ho⟩ : ∃ o, K.evict c (-1) = o := ⟨_, rfl⟩
          rw [ho] at EV2 hec
          have hcm : c < K.P.M.length := by have := HKO.out.m; omega
          have HEE := Lib.hid EV2; clear EV2 EVc
          have HHC := Lib.hid hec; clear hec HEC
          have HHO := Lib.hid ho; clear ho
          clear hci
          go_wp2_with fail
          with_reducible refine HEE.out.mono ?_
          rintro e wh ⟨hm, hbh⟩
          cases o with
          | none =>
            obtain ⟨rfl, hAh⟩ := hm
            go_wp2_with fail
            go_end0
            exact ⟨rfl, ⟨K, ⟨by rw [HF1.out]; exact HST.out, .inr ⟨HFV.out, HHC.out⟩⟩, HKO.out, hAh⟩, (hbK.trans (hbg.mono hzK)).trans hbh⟩
          | some L =>
            obtain ⟨rfl, hAh⟩ := hm
            have EL := evict_law HKO.out HHO.out
            have hres := EL.res hcm
            go_wp2_with fail
            go_roundg L.resN
            case measure => omega
            case rel => exact ⟨L, .step HST.out HFV.out HHC.out, EL.ok, (EL.al.at _ _).2 HKA.out, Nat.le_refl _, hAh, (hbK.trans (hbg.mono hzK)).trans hbh⟩
  · have hf1 : H.first i p = H := by rw [HFI.out, if_neg hc]
    have HF1 := Lib.hid hf1; clear hf1 HFI
    have HX1 := HA0
    by_cases hf0 : f < 0
    · have hlx : ¬ lim ≤ (x : Int) := fun h => hc ⟨hf0, h⟩
      clear hc
      have t1 : decide ((x : Int) ≥ lim) = false := decide_eq_false hlx
      have t2 : decide (lim ≤ (x : Int)) = false := decide_eq_false hlx
      go_wp2_with fail
      refine wp_region_quiet_below (by kernel_rfl) (by kernel_rfl) ?_
      repeat (go_big_quiet_step (first | fail | (go_at_call 35; with_reducible exact quiet_ret (HCH.out _ (HL.out.below (below_regrown _ _ _))))))
      refine wpQuiet_nil ?_
      intro w3 hw3
      have hb3 := below_of_regrown hw3
      clear hw3
      obtain ⟨hc3, hf3⟩ := bcell hb3
      have hz3 := bsize hb3
      try simp only [sizes1] at hz3
      try simp only [sizes] at hc3 hf3
      clear hc3 hf3 hz3 t1 t2 D_c D_f D_z
      have hbA : Below base w w3 := hb3.mono hz
      have HX2 := Lib.hid (HX1.out.below hb3)
      clear hb3 D
      go_wp2_with fail
      have hzA := hbA.size
      go_loopg [6, 7] (Ho.resN H) (fun k _ _ wr => ∃ K : Ho, Hid (Steps i p H K) ∧ Hid K.Ok ∧ Hid (K.P.at i p) ∧ K.resN ≤ k ∧ HostAt base B wr K ∧ Below base w wr)
      case atStart => exact ⟨H, .refl, HOK, HAT, Nat.le_refl _, HX2.out, hbA⟩
      case round =>
        obtain ⟨K, HST, HKO, HKA, hkn, hK, hbK⟩ := hrel
        have hzK := Nat.le_trans hz hbK.size
        have hK0 := hK
        have FUc := fun v w h => hfull_ok v K i p w h HKO.out.p HKA.out
        have CHc := fun v w h => hchosen_ok v K i w h HKO.out
        have hcb := chosen_bd HKO.out (HKO.out.at_lt HKA.out)
        obtain ⟨c, hc⟩ : ∃ c : Nat, K.chosen i = c := ⟨(K.chosen i).toNat, by omega⟩
        have hevc : K.evictC i p = K.evict c (if (c : Int) = i then p else -1) := by unfold Ho.evictC; rw [hc, Int.toNat_natCast]
        rw [hc] at CHc hcb
        obtain ⟨fu, hfu⟩ : ∃ b, K.full i p = b := ⟨_, rfl⟩
        rw [hfu] at FUc
        have HFU := Lib.hid FUc; clear FUc
        have HCC := Lib.hid CHc; clear CHc
        have HFV := Lib.hid hfu; clear hfu
        have HEC := Lib.hid hevc; clear hevc
        clear hc
        obtain ⟨of, or', om, og, kf, kr, km, kg, us, gs, D, O⟩ := hK
        have HVA : Hid (∀ w' : World, Below wr.heap.size wr w' → HoAt w' (.agg #[.slice of K.P.F.length kf, .slice or' K.P.R.length kr, .slice om K.P.M.length km, .slice og K.G.length kg, .int .i64 K.t, .int .u64 K.d, .int .i64 K.n]) K) := Lib.hid (fun w' hb => (O.below hb).at_)
        clear O
        cases fu
        · obtain ⟨D_c, D_f, D_z⟩ := D.all
          go_wp2_with fail
          with_reducible refine (HFU.out _ _ (HVA.out _ (Below.refl _ _))).mono ?_
          rintro e wf ⟨rfl, hbf⟩
          go_wp2_with fail
          go_end0
          exact ⟨rfl, ⟨K, ⟨by rw [HF1.out]; exact HST.out, .inl HFV.out⟩, HKO.out, hK0.below hbf⟩, hbK.trans (hbf.mono hzK)⟩
        · obtain ⟨D_c, D_f, D_z⟩ := D.all
          go_wp2_with fail
          clear D_c D_f D_z
          with_reducible refine (HFU.out _ _ (HVA.out _ (Below.refl _ _))).mono ?_
          rintro e wf ⟨rfl, hbf⟩
          obtain ⟨D_c, D_f, D_z⟩ := (D.below hbf).all
          go_wp2_with fail
          clear D_c D_f D_z
          with_reducible refine (HCC.out _ _ (HVA.out _ hbf)).mono ?_
          rintro e wg ⟨rfl, hbg⟩
          replace hbg := hbf.trans (hbg.mono hbf.size)
          clear hbf
          have hKg := hK0.below hbg
          have hzg := Nat.le_trans hzK hbg.size
          have EVc := fun x => hevict_ok base B K c x wg hKg hB HKO.out (by omega) hzg
          by_cases hci : (c : Int) = i
          · have hec := HEC.out
            rw [if_pos hci] at hec
            have hci' : c = i := by omega
            subst hci'
            have EV2 := EVc (p : Int)
            obtain ⟨o, ho⟩ : ∃ o, K.evict c (p : Int) = o := ⟨_, rfl⟩
            rw [ho] at EV2 hec
            have HEE := Lib.hid EV2; clear EV2 EVc
            have HHC := Lib.hid hec; clear hec HEC
            have HHO := Lib.hid ho; clear ho
            clear hci
            go_wp2_with fail
            with_reducible refine HEE.out.mono ?_
            rintro e wh ⟨hm, hbh⟩
            cases o with
            | none =>
              obtain ⟨rfl, hAh⟩ := hm
              go_wp2_with fail
              go_end0
              exact ⟨rfl, ⟨K, ⟨by rw [HF1.out]; exact HST.out, .inr ⟨HFV.out, HHC.out⟩⟩, HKO.out, hAh⟩, (hbK.trans (hbg.mono hzK)).trans hbh⟩
            | some L =>
              obtain ⟨rfl, hAh⟩ := hm
              have EL := evict_law HKO.out HHO.out
              have hres := EL.res (Pl.at_lt.1 HKA.out).1
              go_wp2_with fail
              go_roundg L.resN
              case measure => omega
              case rel => exact ⟨L, .step HST.out HFV.out HHC.out, EL.ok, (EL.al.at _ _).2 HKA.out, Nat.le_refl _, hAh, (hbK.trans (hbg.mono hzK)).trans hbh⟩
          · have hec := HEC.out
            rw [if_neg hci] at hec
            have e1 : ((c : Int) == (i : Int)) = false := by rw [beq_eq_false_iff_ne]; exact hci
            have EV2 := EVc (-1)
            obtain ⟨o, ho⟩ : ∃ o, K.evict c (-1) = o := ⟨_, rfl⟩
            rw [ho] at EV2 hec
            have hcm : c < K.P.M.length := by have := HKO.out.m; omega
            have HEE := Lib.hid EV2; clear EV2 EVc
            have HHC := Lib.hid hec; clear hec HEC
            have HHO := Lib.hid ho; clear ho
            clear hci
            go_wp2_with fail
            with_reducible refine HEE.out.mono ?_
            rintro e wh ⟨hm, hbh⟩
            cases o with
            | none =>
              obtain ⟨rfl, hAh⟩ := hm
              go_wp2_with fail
              go_end0
              exact ⟨rfl, ⟨K, ⟨by rw [HF1.out]; exact HST.out, .inr ⟨HFV.out, HHC.out⟩⟩, HKO.out, hAh⟩, (hbK.trans (hbg.mono hzK)).trans hbh⟩
            | some L =>
              obtain ⟨rfl, hAh⟩ := hm
              have EL := evict_law HKO.out HHO.out
              have hres := EL.res hcm
              go_wp2_with fail
              go_roundg L.resN
              case measure => omega
              case rel => exact ⟨L, .step HST.out HFV.out HHC.out, EL.ok, (EL.al.at _ _).2 HKA.out, Nat.le_refl _, hAh, (hbK.trans (hbg.mono hzK)).trans hbh⟩
    · clear hc
      have t1 : decide (f < 0) = false := decide_eq_false hf0
      go_wp2_with fail
      refine wp_region_quiet_below (by kernel_rfl) (by kernel_rfl) ?_
      repeat (go_big_quiet_step (first | fail | (go_at_call 35; with_reducible exact quiet_ret (HCH.out _ (HL.out.below (below_regrown _ _ _))))))
      refine wpQuiet_nil ?_
      intro w3 hw3
      have hb3 := below_of_regrown hw3
      clear hw3
      obtain ⟨hc3, hf3⟩ := bcell hb3
      have hz3 := bsize hb3
      try simp only [sizes1] at hz3
      try simp only [sizes] at hc3 hf3
      clear hc3 hf3 hz3 t1 D_c D_f D_z
      have hbA : Below base w w3 := hb3.mono hz
      have HX2 := Lib.hid (HX1.out.below hb3)
      clear hb3 D
      go_wp2_with fail
      have hzA := hbA.size
      go_loopg [6, 7] (Ho.resN H) (fun k _ _ wr => ∃ K : Ho, Hid (Steps i p H K) ∧ Hid K.Ok ∧ Hid (K.P.at i p) ∧ K.resN ≤ k ∧ HostAt base B wr K ∧ Below base w wr)
      case atStart => exact ⟨H, .refl, HOK, HAT, Nat.le_refl _, HX2.out, hbA⟩
      case round =>
        obtain ⟨K, HST, HKO, HKA, hkn, hK, hbK⟩ := hrel
        have hzK := Nat.le_trans hz hbK.size
        have hK0 := hK
        have FUc := fun v w h => hfull_ok v K i p w h HKO.out.p HKA.out
        have CHc := fun v w h => hchosen_ok v K i w h HKO.out
        have hcb := chosen_bd HKO.out (HKO.out.at_lt HKA.out)
        obtain ⟨c, hc⟩ : ∃ c : Nat, K.chosen i = c := ⟨(K.chosen i).toNat, by omega⟩
        have hevc : K.evictC i p = K.evict c (if (c : Int) = i then p else -1) := by unfold Ho.evictC; rw [hc, Int.toNat_natCast]
        rw [hc] at CHc hcb
        obtain ⟨fu, hfu⟩ : ∃ b, K.full i p = b := ⟨_, rfl⟩
        rw [hfu] at FUc
        have HFU := Lib.hid FUc; clear FUc
        have HCC := Lib.hid CHc; clear CHc
        have HFV := Lib.hid hfu; clear hfu
        have HEC := Lib.hid hevc; clear hevc
        clear hc
        obtain ⟨of, or', om, og, kf, kr, km, kg, us, gs, D, O⟩ := hK
        have HVA : Hid (∀ w' : World, Below wr.heap.size wr w' → HoAt w' (.agg #[.slice of K.P.F.length kf, .slice or' K.P.R.length kr, .slice om K.P.M.length km, .slice og K.G.length kg, .int .i64 K.t, .int .u64 K.d, .int .i64 K.n]) K) := Lib.hid (fun w' hb => (O.below hb).at_)
        clear O
        cases fu
        · obtain ⟨D_c, D_f, D_z⟩ := D.all
          go_wp2_with fail
          with_reducible refine (HFU.out _ _ (HVA.out _ (Below.refl _ _))).mono ?_
          rintro e wf ⟨rfl, hbf⟩
          go_wp2_with fail
          go_end0
          exact ⟨rfl, ⟨K, ⟨by rw [HF1.out]; exact HST.out, .inl HFV.out⟩, HKO.out, hK0.below hbf⟩, hbK.trans (hbf.mono hzK)⟩
        · obtain ⟨D_c, D_f, D_z⟩ := D.all
          go_wp2_with fail
          clear D_c D_f D_z
          with_reducible refine (HFU.out _ _ (HVA.out _ (Below.refl _ _))).mono ?_
          rintro e wf ⟨rfl, hbf⟩
          obtain ⟨D_c, D_f, D_z⟩ := (D.below hbf).all
          go_wp2_with fail
          clear D_c D_f D_z
          with_reducible refine (HCC.out _ _ (HVA.out _ hbf)).mono ?_
          rintro e wg ⟨rfl, hbg⟩
          replace hbg := hbf.trans (hbg.mono hbf.size)
          clear hbf
          have hKg := hK0.below hbg
          have hzg := Nat.le_trans hzK hbg.size
          have EVc := fun x => hevict_ok base B K c x wg hKg hB HKO.out (by omega) hzg
          by_cases hci : (c : Int) = i
          · have hec := HEC.out
            rw [if_pos hci] at hec
            have hci' : c = i := by omega
            subst hci'
            have EV2 := EVc (p : Int)
            obtain ⟨o, ho⟩ : ∃ o, K.evict c (p : Int) = o := ⟨_, rfl⟩
            rw [ho] at EV2 hec
            have HEE := Lib.hid EV2; clear EV2 EVc
            have HHC := Lib.hid hec; clear hec HEC
            have HHO := Lib.hid ho; clear ho
            clear hci
            go_wp2_with fail
            with_reducible refine HEE.out.mono ?_
            rintro e wh ⟨hm, hbh⟩
            cases o with
            | none =>
              obtain ⟨rfl, hAh⟩ := hm
              go_wp2_with fail
              go_end0
              exact ⟨rfl, ⟨K, ⟨by rw [HF1.out]; exact HST.out, .inr ⟨HFV.out, HHC.out⟩⟩, HKO.out, hAh⟩, (hbK.trans (hbg.mono hzK)).trans hbh⟩
            | some L =>
              obtain ⟨rfl, hAh⟩ := hm
              have EL := evict_law HKO.out HHO.out
              have hres := EL.res (Pl.at_lt.1 HKA.out).1
              go_wp2_with fail
              go_roundg L.resN
              case measure => omega
              case rel => exact ⟨L, .step HST.out HFV.out HHC.out, EL.ok, (EL.al.at _ _).2 HKA.out, Nat.le_refl _, hAh, (hbK.trans (hbg.mono hzK)).trans hbh⟩
          · have hec := HEC.out
            rw [if_neg hci] at hec
            have e1 : ((c : Int) == (i : Int)) = false := by rw [beq_eq_false_iff_ne]; exact hci
            have EV2 := EVc (-1)
            obtain ⟨o, ho⟩ : ∃ o, K.evict c (-1) = o := ⟨_, rfl⟩
            rw [ho] at EV2 hec
            have hcm : c < K.P.M.length := by have := HKO.out.m; omega
            have HEE := Lib.hid EV2; clear EV2 EVc
            have HHC := Lib.hid hec; clear hec HEC
            have HHO := Lib.hid ho; clear ho
            clear hci
            go_wp2_with fail
            with_reducible refine HEE.out.mono ?_
            rintro e wh ⟨hm, hbh⟩
            cases o with
            | none =>
              obtain ⟨rfl, hAh⟩ := hm
              go_wp2_with fail
              go_end0
              exact ⟨rfl, ⟨K, ⟨by rw [HF1.out]; exact HST.out, .inr ⟨HFV.out, HHC.out⟩⟩, HKO.out, hAh⟩, (hbK.trans (hbg.mono hzK)).trans hbh⟩
            | some L =>
              obtain ⟨rfl, hAh⟩ := hm
              have EL := evict_law HKO.out HHO.out
              have hres := EL.res hcm
              go_wp2_with fail
              go_roundg L.resN
              case measure => omega
              case rel => exact ⟨L, .step HST.out HFV.out HHC.out, EL.ok, (EL.al.at _ _).2 HKA.out, Nat.le_refl _, hAh, (hbK.trans (hbg.mono hzK)).trans hbh⟩
end Go.Proofs.Ytbnngjhnkegliaa
namespace Go.Proofs.Ytbnngjhnkegliaa
open Go.RowKit

/-- A page that may be put out and bears no mark is found. -/
theorem chF_found {r : List Bool} {x : Int} {j : Nat} (hj : r[j]? = some true) (hx : (j : Int) ≠ x) : ∀ (k a : Nat) (u : List Bool), a < r.length → (u[j]?).getD false = false → (a ≤ j → j - a < k) → (j < a → j + r.length - a < k) → chF r x k a u ≠ none
  | 0, a, u, ha, _, h1, h2 => by
    exfalso
    rcases Nat.lt_or_ge j a with h | h
    · exact absurd (h2 h) (by omega)
    · exact absurd (h1 h) (by omega)
  | k + 1, a, u, ha, hu, h1, h2 => by
    have hjl := lt_of_get hj
    rw [chF]
    by_cases e : a = j
    · subst e
      rw [hj, if_neg (by simp only [Option.getD]; rintro (h | h); cases h; exact hx h), if_neg (by rw [hu]; decide)]
      simp
    · have hnext : ∀ u' : List Bool, (u'[j]?).getD false = false → chF r x k ((a + 1) % r.length) u' ≠ none := fun u' hu' => by
        by_cases e2 : a + 1 = r.length
        · rw [e2, Nat.mod_self]
          refine chF_found hj hx k 0 u' (by omega) hu' (fun _ => ?_) (fun h => by omega)
          have := h2 (by omega)
          omega
        · rw [Nat.mod_eq_of_lt (by omega)]
          refine chF_found hj hx k (a + 1) u' (by omega) hu' (fun h => ?_) (fun h => ?_)
          · have := h1 (by omega)
            omega
          · have := h2 (by omega)
            omega
      split
      · exact hnext u hu
      · split
        · refine hnext _ ?_
          rw [List.getElem?_set, if_neg e]
          exact hu
        · simp
theorem chF_any {r : List Bool} {x : Int} {j : Nat} (hj : r[j]? = some true) (hx : (j : Int) ≠ x) : ∀ (k a : Nat) (u : List Bool), a < r.length → (a ≤ j → j - a + r.length < k) → (j < a → j + r.length - a + r.length < k) → chF r x k a u ≠ none
  | 0, a, u, ha, h1, h2 => by
    exfalso
    rcases Nat.lt_or_ge j a with h | h
    · exact absurd (h2 h) (by omega)
    · exact absurd (h1 h) (by omega)
  | k + 1, a, u, ha, h1, h2 => by
    have hjl := lt_of_get hj
    rw [chF]
    by_cases e : a = j
    · subst e
      rw [hj, if_neg (by simp only [Option.getD]; rintro (h | h); cases h; exact hx h)]
      split
      · have := h1 (Nat.le_refl _)
        have hnew : (((u.set a false))[a]?).getD false = false := by
          rw [List.getElem?_set, if_pos rfl]
          split <;> rfl
        by_cases e2 : a + 1 = r.length
        · rw [e2, Nat.mod_self]
          exact chF_found hj hx k 0 _ (by omega) hnew (fun _ => by omega) (fun h => by omega)
        · rw [Nat.mod_eq_of_lt (by omega)]
          exact chF_found hj hx k (a + 1) _ (by omega) hnew (fun h => by omega) (fun h => by omega)
      · simp
    · have hnext : ∀ u' : List Bool, chF r x k ((a + 1) % r.length) u' ≠ none := fun u' => by
        by_cases e2 : a + 1 = r.length
        · rw [e2, Nat.mod_self]
          refine chF_any hj hx k 0 u' (by omega) (fun _ => ?_) (fun h => by omega)
          have := h2 (by omega)
          omega
        · rw [Nat.mod_eq_of_lt (by omega)]
          refine chF_any hj hx k (a + 1) u' (by omega) (fun h => ?_) (fun h => ?_)
          · have := h1 (by omega)
            omega
          · have := h2 (by omega)
            omega
      split
      · exact hnext u
      · split
        · exact hnext _
        · simp
/-- A guest with a page that has a frame, other than x, gives one up. -/
theorem evict_some {H : Ho} (hok : H.Ok) {i j : Nat} {x : Int} (hat : H.P.at i j) (h0 : 0 ≤ H.P.fr i j) (hx : (j : Int) ≠ x) : H.evict i x ≠ none := by
  obtain ⟨g, hg⟩ := get_lt (hok.at_lt hat)
  obtain ⟨l, f, hl, hf⟩ := hat
  have hgo := hok.g i g l hg hl
  have hfr := Pl.fr_eq hl hf
  have hhd := hgo.hd
  have hjl := lt_of_get hf
  have hr : (l.map hasB)[j]? = some true := by
    rw [List.getElem?_map, hf]
    exact congrArg some (decide_eq_true (by rw [← hfr]; exact h0))
  unfold Ho.evict
  rw [hg]
  dsimp only
  rw [Pl.pages_eq hl]
  have hne : chO g.u (l.map hasB) g.h.toNat x ≠ none := by
    unfold chO
    refine chF_any hr hx _ _ _ (by rw [List.length_map]; omega) (fun _ => ?_) (fun _ => ?_) <;> rw [List.length_map] <;> omega
  cases ho : chO g.u (l.map hasB) g.h.toNat x with
  | none => exact absurd ho hne
  | some a => simp
/-- Two places of a list that hold something. -/
theorem two_of_count {l : List Int} {x : Int} (h : 2 ≤ l.countP hasB) : ∃ j : Nat, ∃ f : Int, l[j]? = some f ∧ 0 ≤ f ∧ (j : Int) ≠ x := by
  by_cases hx : 0 ≤ x
  · obtain ⟨k, rfl⟩ : ∃ k : Nat, x = k := ⟨x.toNat, by omega⟩
    rcases Nat.lt_or_ge k l.length with hk | hk
    · have h1 := countP_set (q := hasB) (x := (-1 : Int)) (List.getElem?_eq_getElem hk)
      rw [if_neg (show ¬ hasB (-1) = true by decide)] at h1
      have h2 : 0 < (l.set k (-1)).countP hasB := by split at h1 <;> omega
      obtain ⟨f, hf, hb⟩ := List.countP_pos_iff.1 h2
      obtain ⟨j, hj⟩ := List.getElem?_of_mem hf
      rw [List.getElem?_set] at hj
      by_cases e : k = j
      · rw [if_pos e] at hj
        split at hj
        · injection hj with hj
          subst hj
          exact absurd hb (by decide)
        · omega
      · rw [if_neg e] at hj
        exact ⟨j, f, hj, of_decide_eq_true hb, by omega⟩
    · obtain ⟨f, hf, hb⟩ := List.countP_pos_iff.1 (show 0 < l.countP hasB by omega)
      obtain ⟨j, hj⟩ := List.getElem?_of_mem hf
      have := lt_of_get hj
      exact ⟨j, f, hj, of_decide_eq_true hb, by omega⟩
  · obtain ⟨f, hf, hb⟩ := List.countP_pos_iff.1 (show 0 < l.countP hasB by omega)
    obtain ⟨j, hj⟩ := List.getElem?_of_mem hf
    exact ⟨j, f, hj, of_decide_eq_true hb, by omega⟩
theorem sumI_le {a b : List Int} (hl : a.length = b.length) (h : ∀ (i : Nat) (x y : Int), a[i]? = some x → b[i]? = some y → x ≤ y) : a.sum ≤ b.sum := by
  induction a generalizing b with
  | nil =>
    cases b with
    | nil => simp
    | cons y b => simp at hl
  | cons x a ih =>
    cases b with
    | nil => simp at hl
    | cons y b =>
      simp only [List.sum_cons]
      have h0 := h 0 x y rfl rfl
      have h1 := ih (b := b) (by simpa using hl) (fun i u v hu hv => h (i + 1) u v hu hv)
      omega
theorem sumI_eq {a b : List Int} (hl : a.length = b.length) (h : ∀ (i : Nat) (x y : Int), a[i]? = some x → b[i]? = some y → x ≤ y) (hs : b.sum ≤ a.sum) : a = b := by
  induction a generalizing b with
  | nil =>
    cases b with
    | nil => rfl
    | cons y b => simp at hl
  | cons x a ih =>
    cases b with
    | nil => simp at hl
    | cons y b =>
      simp only [List.sum_cons] at hs
      have h0 := h 0 x y rfl rfl
      have hr : ∀ (i : Nat) (u v : Int), a[i]? = some u → b[i]? = some v → u ≤ v := fun i u v hu hv => h (i + 1) u v hu hv
      have h1 := sumI_le (by simpa using hl) hr
      have h2 := ih (b := b) (by simpa using hl) hr (by omega)
      rw [h2]
      congr 1
      rw [h2] at hs
      omega
theorem flat_charge (M : List (List Int)) : ((M.flatten.countP hasB : Nat) : Int) = (M.map (fun l => ((l.countP hasB : Nat) : Int))).sum := by
  induction M with
  | nil => rfl
  | cons l M ih =>
    rw [List.flatten_cons, List.countP_append, List.map_cons, List.sum_cons, ← ih]
    omega
/-- No frame is free: every frame has a page. -/
theorem full_cnt {P : Pl} (H : P.Ok) (h : P.freeN = 0) : ∀ v : Nat, v < P.F.length → 0 < P.cnt v := fun v hv => by
  rcases Nat.eq_zero_or_pos (P.cnt v) with e | e
  · obtain ⟨s, hs, _, h1, _⟩ := H.fr v hv
    have := List.countP_pos_iff.2 ⟨s, mem_at hs, (show emptyB s = true from decide_eq_true (h1.1 e))⟩
    unfold Pl.freeN at h
    omega
  · exact e
theorem not_stuck {H : Ho} (hok : H.Ok) {i p : Nat} (hat : H.P.at i p) (hf : H.full i p = true) : H.evictC i p ≠ none := by
  have hi := hok.at_lt hat
  have hcb := chosen_bd hok hi
  have hcl : H.claims.length = H.G.length := by unfold Ho.claims; rw [List.length_zipWith, hok.m, Nat.min_self]
  have hce : ∀ (i : Nat) (g : Gm) (l : List Int), H.G[i]? = some g → H.P.M[i]? = some l → H.claims[i]? = some { g.c with p := ((l.countP hasB : Nat) : Int) } := fun i g l hg hl => by
    unfold Ho.claims
    rw [List.getElem?_zipWith, hg, hl]
  unfold Ho.full at hf
  rw [Bool.and_eq_true, decide_eq_true_eq] at hf
  obtain ⟨hfree, hneed⟩ := hf
  unfold Ho.evictC
  by_cases hv : taxB H.t = true ∧ 0 ≤ vicF H.claims H.t H.claims.length
  · -- the tax chooses a guest that has more than its reservation
    have hch : H.chosen i = vicF H.claims H.t H.claims.length := by
      unfold Ho.chosen victimR
      rw [if_pos hv]
      rfl
    have hhit : ∀ k : Nat, k ≤ H.claims.length → 0 ≤ vicF H.claims H.t k → ∃ c : Clm, H.claims[(vicF H.claims H.t k).toNat]? = some c ∧ c.r < c.p := by
      intro k
      induction k with
      | zero => intro _ h; simp [vicF] at h
      | succ k ih =>
        intro hk h
        obtain ⟨c, hc⟩ := get_lt (xs := H.claims) (k := k) (by omega)
        rw [vicF, hc] at h ⊢
        dsimp only at h ⊢
        by_cases ho : vicOk H.claims H.t (vicF H.claims H.t k) c = true
        · rw [if_pos ho] at h ⊢
          rw [Int.toNat_natCast]
          refine ⟨c, hc, ?_⟩
          unfold vicOk at ho
          rw [Bool.and_eq_true, Bool.and_eq_true, decide_eq_true_eq] at ho
          exact ho.1.2
        · rw [if_neg ho] at h ⊢
          exact ih (by omega) h
    obtain ⟨c, hc, hrp⟩ := hhit _ (Nat.le_refl _) hv.2
    rw [← hch] at hc
    obtain ⟨k, hk⟩ : ∃ k : Nat, H.chosen i = k := ⟨(H.chosen i).toNat, by omega⟩
    rw [hk, Int.toNat_natCast] at hc ⊢
    obtain ⟨g, hg⟩ := get_lt (xs := H.G) (k := k) (by omega)
    obtain ⟨l, hl, hgo⟩ := hok.page hg
    rw [hce k g l hg hl] at hc
    injection hc with hc
    subst hc
    dsimp only at hrp
    have hrb := hgo.rb
    obtain ⟨j, f, hj, hf0, hne⟩ := two_of_count (l := l) (x := if (k : Int) = i then (p : Int) else -1) (by omega)
    exact evict_some hok ⟨l, f, hl, hj⟩ (by rw [Pl.fr_eq hl hj]; exact hf0) hne
  · -- nobody has more: then the guest itself has another page with a frame
    have hch : H.chosen i = i := by
      unfold Ho.chosen victimR
      rw [if_neg hv]
      rfl
    rw [hch, Int.toNat_natCast, if_pos rfl]
    have htax : taxB H.t = true := decide_eq_true hok.t
    have hmiss : vicF H.claims H.t H.claims.length < 0 := by
      rcases Int.lt_or_le (vicF H.claims H.t H.claims.length) 0 with h | h
      · exact h
      · exact absurd ⟨htax, h⟩ hv
    have hnone : ∀ k : Nat, k ≤ H.claims.length → vicF H.claims H.t k < 0 → ∀ (a : Nat) (c : Clm), a < k → H.claims[a]? = some c → validB c = true → c.p ≤ c.r := by
      intro k
      induction k with
      | zero => intro _ _ a c ha; omega
      | succ k ih =>
        intro hk h a c ha hc hval
        obtain ⟨d, hd⟩ := get_lt (xs := H.claims) (k := k) (by omega)
        rw [vicF, hd] at h
        dsimp only at h
        by_cases ho : vicOk H.claims H.t (vicF H.claims H.t k) d = true
        · rw [if_pos ho] at h
          omega
        · rw [if_neg ho] at h
          by_cases e : a = k
          · subst e
            rw [hd] at hc
            injection hc with hc
            subst hc
            rcases Int.lt_or_le d.r d.p with h2 | h2
            · exact absurd (vicOk_first hval h2 h) ho
            · exact h2
          · exact ih (by omega) h a c (by omega) hc hval
    have hle : ∀ (a : Nat) (g : Gm) (l : List Int), H.G[a]? = some g → H.P.M[a]? = some l → ((l.countP hasB : Nat) : Int) ≤ g.c.r := fun a g l hg hl => by
      have hgo := hok.g a g l hg hl
      have hrb := hgo.rb
      have hlm := hgo.lim
      refine hnone _ (Nat.le_refl _) hmiss a { g.c with p := ((l.countP hasB : Nat) : Int) } (by rw [hcl]; exact lt_of_get hg) (hce a g l hg hl) ?_
      rw [validB_iff]
      dsimp only
      omega
    have hs := flat_charge H.P.M
    have hcnt := full_cnt hok.p hfree
    obtain ⟨s1, s2⟩ := sum_ge (L := H.P.M.flatten) H.P.F.length hcnt
    have hbd : ∀ f ∈ H.P.M.flatten, f < (H.P.F.length : Int) := fun f hf => by
      rw [List.mem_flatten] at hf
      obtain ⟨l, hl, hf⟩ := hf
      exact (hok.p.pg l hl f hf).2
    have hse := sumC_eq (n := H.P.F.length) H.P.M.flatten hbd
    have hr := hok.r
    have hlen : (H.P.M.map (fun l => ((l.countP hasB : Nat) : Int))).length = (H.G.map (fun g => g.c.r)).length := by rw [List.length_map, List.length_map, hok.m]
    have hpt : ∀ (a : Nat) (x y : Int), (H.P.M.map (fun l => ((l.countP hasB : Nat) : Int)))[a]? = some x → (H.G.map (fun g => g.c.r))[a]? = some y → x ≤ y := fun a x y hx hy => by
      rw [List.getElem?_map] at hx hy
      cases hl : H.P.M[a]? with
      | none => rw [hl] at hx; simp at hx
      | some l =>
        cases hg : H.G[a]? with
        | none => rw [hg] at hy; simp at hy
        | some g =>
          rw [hl] at hx
          rw [hg] at hy
          simp at hx hy
          rw [← hx, ← hy]
          exact hle a g l hg hl
    have hsum := sumI_le hlen hpt
    unfold sumR at hr
    have heq := sumI_eq hlen hpt (by omega)
    have hone : ∀ v : Nat, v < H.P.F.length → H.P.cnt v < 2 := fun v hv => by
      rcases Nat.lt_or_ge (H.P.cnt v) 2 with h | h
      · exact h
      · have := s2 ⟨v, hv, h⟩
        omega
    have hfr : H.P.fr i p < 0 := by
      unfold Pl.need at hneed
      rw [Bool.or_eq_true, decide_eq_true_eq, decide_eq_true_eq] at hneed
      rcases hneed with h | h
      · exact h
      · rcases Int.lt_or_le (H.P.fr i p) 0 with h2 | h2
        · exact h2
        · have hb := hok.p.at_bd hat
          obtain ⟨v, hv⟩ : ∃ v : Nat, H.P.fr i p = v := ⟨(H.P.fr i p).toNat, by omega⟩
          rw [hv, Int.toNat_natCast, hok.p.ref_eq (by omega)] at h
          have := hone v (by omega)
          omega
    obtain ⟨l, f, hl, hf⟩ := hat
    obtain ⟨g, hg⟩ := get_lt hi
    have hgo := hok.g i g l hg hl
    have hrb := hgo.rb
    have hci : ((l.countP hasB : Nat) : Int) = g.c.r := by
      have h1 : (H.P.M.map (fun l => ((l.countP hasB : Nat) : Int)))[i]? = some ((l.countP hasB : Nat) : Int) := by rw [List.getElem?_map, hl]; rfl
      have h2 : (H.G.map (fun g => g.c.r))[i]? = some g.c.r := by rw [List.getElem?_map, hg]; rfl
      rw [heq, h2] at h1
      injection h1 with h1
      exact h1.symm
    obtain ⟨f', hf', hb'⟩ := List.countP_pos_iff.1 (show 0 < l.countP hasB by omega)
    obtain ⟨j, hj⟩ := List.getElem?_of_mem hf'
    have hf0 : 0 ≤ f' := of_decide_eq_true hb'
    refine evict_some hok (i := i) (j := j) ⟨l, f', hl, hj⟩ (by rw [Pl.fr_eq hl hj]; exact hf0) (fun e => ?_)
    have : j = p := by omega
    subst this
    rw [Pl.fr_eq hl hj] at hfr
    omega
end Go.Proofs.Ytbnngjhnkegliaa
