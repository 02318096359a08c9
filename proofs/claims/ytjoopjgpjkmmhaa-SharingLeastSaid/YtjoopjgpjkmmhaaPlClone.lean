/-
  A pool cloned, in the program: walked.
-/
import Derived.Test.YtjoopjgpjkmmhaaPlOwn
namespace Go.Proofs.Ytjoopjgpjkmmhaa
open Go.RowKit

set_option maxHeartbeats 2000000 in
theorem pclone_any (v : Value) (P : Pl) (w : World) (h : PlRow w v P) (hs : P.small) : Calls Try.prog 32 #[v] w (RetPool P w) := by
  obtain ⟨of, or', om, kf, kr, km, rfl, kf1, kf2, kr1, kr2, km1, km2⟩ := h.form
  obtain ⟨n, hn⟩ : ∃ n, P.F.length = n := ⟨_, rfl⟩
  obtain ⟨r, hr⟩ : ∃ n, P.R.length = n := ⟨_, rfl⟩
  obtain ⟨m, hm⟩ : ∃ n, P.M.length = n := ⟨_, rfl⟩
  rw [hn] at h kf1 ⊢
  rw [hr] at h kr1 ⊢
  rw [hm] at h km1 ⊢
  have HN := Lib.hid hn; clear hn
  have HR := Lib.hid hr; clear hr
  have HM := Lib.hid hm; clear hm
  obtain ⟨s1, s2, s3, s4⟩ := hs
  rw [HN.out] at s1
  rw [HR.out] at s2
  rw [HM.out] at s3
  obtain ⟨h1, h2, us, h3, h4, h5⟩ := h.parts
  obtain ⟨om', km', e0, _, _, h3⟩ := h3
  injection e0 with e0 e9 e1
  clear e9
  subst e0 e1
  rw [HM.out] at h4
  have HF := Lib.hid h1; clear h1
  have HI := Lib.hid h2; clear h2
  have H4 := Lib.hid h4; clear h4
  have H5 := Lib.hid h5; clear h5
  have H3 := Lib.hid h3; clear h3
  have H := Lib.hid s4; clear s4 h
  have D1 := ((HasBlock.made w #[.slice of n kf, .slice or' r kr, .slice om m km] 26).alloc (.cells #[.slice none 0 0, .slice none 0 0, .slice none 0 0] 26)).alloc (.cells #[.slice none 0 0, .slice none 0 0, .slice none 0 0] 26)
  have D2 := (HasBlock.made (w.alloc (.cells #[.slice of n kf, .slice or' r kr, .slice om m km] 26)) #[.slice none 0 0, .slice none 0 0, .slice none 0 0] 26).alloc (.cells #[.slice none 0 0, .slice none 0 0, .slice none 0 0] 26)
  have D3 := HasBlock.made ((w.alloc (.cells #[.slice of n kf, .slice or' r kr, .slice om m km] 26)).alloc (.cells #[.slice none 0 0, .slice none 0 0, .slice none 0 0] 26)) #[.slice none 0 0, .slice none 0 0, .slice none 0 0] 26
  have hbw : Below w.heap.size w (((w.alloc (.cells #[.slice of n kf, .slice or' r kr, .slice om m km] 26)).alloc (.cells #[.slice none 0 0, .slice none 0 0, .slice none 0 0] 26)).alloc (.cells #[.slice none 0 0, .slice none 0 0, .slice none 0 0] 26)) := (by repeat (first | with_reducible exact Below.refl _ _ | with_reducible refine Below.drew ?_ | (with_reducible refine Below.alloc ?_ (by first | exact Nat.le_refl _ | omega | (dsimp only; omega) | (simp only [sizes]; omega)) _) | (with_reducible refine Below.setCell ?_ (by first | exact Nat.le_refl _ | omega | (dsimp only; omega) | (simp only [sizes]; omega)) _) | (refine Below.trans ?_ (Below.mono (by with_reducible assumption) (by first | exact Nat.le_refl _ | omega | (dsimp only; omega) | (simp only [sizes]; omega))))))
  simp only [sizes] at D2 D3
  have hz : w.heap.size + 1 + 1 + 1 ≤ (((w.alloc (.cells #[.slice of n kf, .slice or' r kr, .slice om m km] 26)).alloc (.cells #[.slice none 0 0, .slice none 0 0, .slice none 0 0] 26)).alloc (.cells #[.slice none 0 0, .slice none 0 0, .slice none 0 0] 26)).heap.size := by simp only [sizes]; omega
  go_enter Try.func32, Try.ntmps32
  go_wp2_with fail
  with_reducible refine (clone_str _ P.F _ (HF.out.below hbw) (by rw [HN.out]; omega)).mono ?_
  rintro e w1 ⟨v1, rfl, o1, hb1⟩
  simp only [sizes] at o1
  replace D1 := D1.below hb1
  replace D2 := D2.below hb1
  replace D3 := D3.below hb1
  replace hbw := hbw.trans (hb1.mono hbw.size)
  replace hz := Nat.le_trans hz hb1.size
  clear hb1
  obtain ⟨of1, kf1', rfl, _, _⟩ := o1.form
  rw [HN.out] at o1 ⊢
  obtain ⟨D1_c, D1_f, D1_z⟩ := D1.all
  obtain ⟨D2_c, D2_f, D2_z⟩ := D2.all
  obtain ⟨D3_c, D3_f, D3_z⟩ := D3.all
  go_wp2_with fail
  clear D1_c D1_f D1_z
  clear D2_c D2_f D2_z
  clear D3_c D3_f D3_z
  replace D3 := D3.put3_0 (.slice of1 n kf1')
  replace D1 := D1.set_ne (b' := w.heap.size + 1 + 1) (j := 0) (by omega) (.slice of1 n kf1')
  replace D2 := D2.set_ne (b' := w.heap.size + 1 + 1) (j := 0) (by omega) (.slice of1 n kf1')
  replace o1 := o1.setlow (b := w.heap.size + 1 + 1) (j := 0) (by omega) (.slice of1 n kf1')
  replace hbw := hbw.setCell (p := ⟨w.heap.size + 1 + 1, 0, none⟩) (by dsimp only; omega) (.slice of1 n kf1')
  generalize hW : World.setCell w1 ⟨w.heap.size + 1 + 1, 0, none⟩ (.slice of1 n kf1') = w2 at D1 D2 D3 o1 hbw ⊢
  replace hz := Nat.le_trans hz (Nat.le_of_eq ((World.size_setCell w1 ⟨w.heap.size + 1 + 1, 0, none⟩ (.slice of1 n kf1')).symm.trans (congrArg (fun x : World => x.heap.size) hW)))
  clear hW
  with_reducible refine (clone_num _ P.R _ (HI.out.below hbw) (by rw [HR.out]; omega)).mono ?_
  rintro e w3 ⟨v3, rfl, o3, hb3⟩
  replace o3 := o3.lower (base' := w.heap.size + 1 + 1 + 1) hz
  replace D1 := D1.below hb3
  replace D2 := D2.below hb3
  replace D3 := D3.below hb3
  replace o1 := o1.below hb3
  replace hbw := hbw.trans (hb3.mono hbw.size)
  replace hz := Nat.le_trans hz hb3.size
  clear hb3
  obtain ⟨or1, kr1', rfl, _, _⟩ := o3.form
  rw [HR.out] at o3 ⊢
  obtain ⟨D1_c, D1_f, D1_z⟩ := D1.all
  obtain ⟨D2_c, D2_f, D2_z⟩ := D2.all
  obtain ⟨D3_c, D3_f, D3_z⟩ := D3.all
  go_wp2_with fail
  clear D1_c D1_f D1_z
  clear D2_c D2_f D2_z
  clear D3_c D3_f D3_z
  replace D3 := D3.put3_1 (.slice or1 r kr1')
  replace D1 := D1.set_ne (b' := w.heap.size + 1 + 1) (j := 1) (by omega) (.slice or1 r kr1')
  replace D2 := D2.set_ne (b' := w.heap.size + 1 + 1) (j := 1) (by omega) (.slice or1 r kr1')
  replace o1 := o1.setlow (b := w.heap.size + 1 + 1) (j := 1) (by omega) (.slice or1 r kr1')
  replace o3 := o3.setlow (b := w.heap.size + 1 + 1) (j := 1) (by omega) (.slice or1 r kr1')
  replace hbw := hbw.setCell (p := ⟨w.heap.size + 1 + 1, 1, none⟩) (by dsimp only; omega) (.slice or1 r kr1')
  generalize hW : World.setCell w3 ⟨w.heap.size + 1 + 1, 1, none⟩ (.slice or1 r kr1') = w4 at D1 D2 D3 o1 o3 hbw ⊢
  replace hz := Nat.le_trans hz (Nat.le_of_eq ((World.size_setCell w3 ⟨w.heap.size + 1 + 1, 1, none⟩ (.slice or1 r kr1')).symm.trans (congrArg (fun x : World => x.heap.size) hW)))
  clear hW
  have hap := apart_lt (v := .slice or1 r kr1') (B := w4.heap.size) (fun k hk => (World.ownsRow.lt o3.raw k hk).2) (u := .slice none 0 0) (fun k hk => by cases hk)
  have HO : OwnP (w.heap.size + 1 + 1 + 1) w4 (.slice of1 n kf1') (.slice or1 r kr1') (.slice none 0 0) [] ⟨P.F, P.R, P.M.take 0⟩ := ⟨o1, o3, own_nil, OwnRows.nil _ _, fun i u hu => by simp at hu⟩
  clear hap o1 o3
  go_loopw [17] (fun iv wr => ∃ (i : Nat) (o : Option Addr) (cp : Nat) (us' : List Value), i ≤ m ∧ iv = .int .i64 i ∧ i ≤ cp ∧ cp ≤ 9223372036854775807 ∧ HasBlock wr w.heap.size #[.slice of n kf, .slice or' r kr, .slice om m km] 26 ∧ HasBlock wr (w.heap.size + 1) #[.slice none 0 0, .slice none 0 0, .slice none 0 0] 26 ∧ HasBlock wr (w.heap.size + 1 + 1) #[.slice of1 n kf1', .slice or1 r kr1', .slice o i cp] 26 ∧ OwnP (w.heap.size + 1 + 1 + 1) wr (.slice of1 n kf1') (.slice or1 r kr1') (.slice o i cp) us' ⟨P.F, P.R, P.M.take i⟩ ∧ Below w.heap.size w wr ∧ w.heap.size + 1 + 1 + 1 ≤ wr.heap.size) (fun iv _ => m - (intOf iv).toNat)
  case atStart => exact ⟨0, none, 0, [], Nat.zero_le _, rfl, Nat.le_refl _, by omega, D1, D2, D3, HO, hbw, hz⟩
  case round =>
    clear D1 D2 D3 HO hbw hz
    obtain ⟨i, o, cp, us', hi, rfl, hc1, hc2, D1, D2, D3, HO, hbw, hz⟩ := hrel
    by_cases hlt : i < m
    · obtain ⟨l, hl⟩ := get_lt (xs := P.M) (k := i) (by rw [HM.out]; exact hlt)
      obtain ⟨u, hu⟩ := get_lt (xs := us) (k := i) (by rw [H4.out]; exact hlt)
      have hrow := H5.out i u l hu hl
      have hll := H.out l (List.mem_of_getElem? hl)
      obtain ⟨mb, moff, rfl, hmb, hmc⟩ := H3.out.resolve_left (by intro e; rw [e] at hu; simp at hu)
      have cm := (hbw.cell (p := ⟨mb, moff + i, none⟩) hmb).trans (hmc i _ hu)
      obtain ⟨uo, uc, rfl, d1, d2, _⟩ := hrow.out
      have HROW := Lib.hid hrow
      obtain ⟨q, hq⟩ : ∃ q, l.length = q := ⟨_, rfl⟩
      rw [hq] at hu cm HROW hll
      have HQ := Lib.hid hq; clear hq
      have HL := Lib.hid hl; clear hl hu hmc hrow d1 d2
      obtain ⟨i0, hi0, iz0, iz1, iz2⟩ := info_parts info_ints
      obtain ⟨D1_c, D1_f, D1_z⟩ := D1.all
      obtain ⟨D2_c, D2_f, D2_z⟩ := D2.all
      obtain ⟨D3_c, D3_f, D3_z⟩ := D3.all
      go_wp2_with fail
      have htl : (P.M.take i).length = i := by rw [List.length_take, HM.out]; omega
      have HTL := Lib.hid htl; clear htl
      have HOM : Hid (wr.ownsRow (w.heap.size + 1 + 1 + 1) 23 1 (.slice o i cp) i us') := by
        have h := HO.m
        rw [HTL.out] at h
        exact h
      go_region_law (go_loud (first
        | (refine step_append_own rfl (.tmp 22) (.tmp 25) 24 rfl (w.heap.size + 1 + 1 + 1) 23 i0 (.slice none 0 0) 1 24 Try.underlying24 hi0 iz0 iz1 iz2 rfl (by decide) (.slice o i cp) i us' rfl (HOM5.out.alloc _) ⟨_, 0, none⟩ 1 1 [.slice uo5 q uk5] rfl rfl (cells_made _ [.slice uo5 q uk5] _ _ rfl) (one_slice _ _ _) (by unfold maxLen; omega) (by omega) (by simp only [sizes]; omega) ?_
           intro v6 w6 hown6 hgrow6 _
           obtain ⟨o6, c6, rfl, hc61, hc62⟩ := own_form' hown6
           have hbg := below_grown (w := w5) (B := w.heap.size + 1 + 1 + 1) ((Below.refl _ _).alloc (by omega) (.cells #[.slice uo5 q uk5] 23)) (HOM5.out.alloc _) hgrow6 (Nat.le_refl _) (by simp only [sizes]; omega)
           have HO6 := (HO5.alloc (.cells #[.slice uo5 q uk5] 23)).push (l := l) (O5.alloc _) hr5 hu5 (by rw [HTL.out]; exact hown6) hgrow6
           have F1 := E1.under hbg (by omega)
           have F2 := E2.under hbg (by omega)
           have F3 := E3.under hbg (by omega)
           have hbw6 : Below w.heap.size w w6 := hbw5.trans (hbg.mono (by omega))
           have hz6 : w.heap.size + 1 + 1 + 1 ≤ w6.heap.size := Nat.le_trans hz5 hbg.size
           clear hbg
           obtain ⟨F3_c, F3_f, F3_z⟩ := F3.all)
        | (go_simp; go_at_call 50
           with_reducible refine (clone_num _ l _ (HROW.out.below ((hbw.drew))) (by rw [HQ.out]; omega)).mono ?_
           rintro _ w5 ⟨v5, rfl, o5, hb5⟩
           obtain ⟨uo5, uk5, rfl, _, _⟩ := o5.formN HQ.out
           have HB5 : Below wr.heap.size wr w5 := (Below.drew (Below.refl _ wr)).trans hb5
           clear hb5
           have E1 := D1.below HB5
           have E2 := D2.below HB5
           have E3 := D3.below HB5
           have HO5 := HO.below HB5
           have hz5 : w.heap.size + 1 + 1 + 1 ≤ w5.heap.size := Nat.le_trans hz HB5.size
           have hbw5 : Below w.heap.size w w5 := hbw.trans (HB5.mono hbw.size)
           have HOM5 : Hid (w5.ownsRow (w.heap.size + 1 + 1 + 1) 23 1 (.slice o i cp) i us') := Lib.hid (owns_below HOM.out HB5)
           have hr5 : Apart (.slice or1 r kr1') (.slice uo5 q uk5) := apart_lt (B := wr.heap.size) (fun k hk => (World.ownsRow.lt HO.r.raw k hk).2) (fun k hk => (World.ownsRow.lt o5.raw k hk).1)
           have hu5 : ∀ (j : Nat) (u' : Value), us'[j]? = some u' → Apart u' (.slice uo5 q uk5) := fun j u' hj => apart_lt (B := wr.heap.size) (fun k hk => by
             obtain ⟨xs, hxs⟩ := get_lt (xs := P.M.take i) (k := j) (by rw [← HO.u.1]; exact lt_of_get hj)
             exact (World.ownsRow.lt (HO.u.2.1 j u' xs hj hxs).raw k hk).2) (fun k hk => (World.ownsRow.lt o5.raw k hk).1)
           have O5 := OwnEnc.lower (base' := w.heap.size + 1 + 1 + 1) o5 hz
           clear o5
           obtain ⟨E3_c, E3_f, E3_z⟩ := E3.all)))
      all_goals
        go_wp2_with fail
        go_roundw
        case rel =>
          refine ⟨i + 1, o6, c6, us' ++ [.slice uo5 q uk5], by omega, by go_num, hc61, hc62, F1.set_ne (by omega) _, F2.set_ne (by omega) _, F3.put3_2 _, ?_, hbw6.setCell (by dsimp only; omega) _, by rw [World.size_setCell]; exact hz6⟩
          have h := HO6.setlow (b := w.heap.size + 1 + 1) (j := 2) (by omega) (.slice o6 (i + 1) c6)
          rw [List.take_add_one, HL.out]
          exact h
        case measure => simp [intOf]; omega
    · obtain rfl : i = m := by omega
      have hall : P.M.take i = P.M := by rw [← HM.out]; exact List.take_length
      rw [hall] at HO
      clear hall
      obtain ⟨D1_c, D1_f, D1_z⟩ := D1.all
      obtain ⟨D2_c, D2_f, D2_z⟩ := D2.all
      obtain ⟨D3_c, D3_f, D3_z⟩ := D3.all
      go_wp2_with fail
      refine bodyPost_ret (v := .agg #[.slice of1 n kf1', .slice or1 r kr1', .slice o i cp]) (by simp [results, Try.results32, go_sem, D2_c]) rfl ?_
      have HOE := ((HO.setlow (b := w.heap.size + 1) (j := 0) (by omega) (.slice of1 n kf1')).setlow (b := w.heap.size + 1) (j := 1) (by omega) (.slice or1 r kr1')).setlow (b := w.heap.size + 1) (j := 2) (by omega) (.slice o i cp)
      have hbe := ((hbw.setCell (p := ⟨w.heap.size + 1, 0, none⟩) (by dsimp only; omega) (.slice of1 n kf1')).setCell (p := ⟨w.heap.size + 1, 1, none⟩) (by dsimp only; omega) (.slice or1 r kr1')).setCell (p := ⟨w.heap.size + 1, 2, none⟩) (by dsimp only; omega) (.slice o i cp)
      have h2 := HN.out
      have h3 := HR.out
      have h4' := HM.out
      exact ret_pool h2 h3 h4' (HOE.lower (by omega)) hbe
end Go.Proofs.Ytjoopjgpjkmmhaa
