/-
  A mirror begun: the reference's, walked.
-/
import Derived.Test.YtfomfokgibijjaaMirBegin
import Derived.Test.YtfomfokgibijjaaMirPlan
namespace Go.Proofs.Ytfomfokgibijjaa
open Go.RowKit

section
variable {P : Program} {w : World}
theorem wpList_append_nil {ops : Array Oper} {rest : List Oper} {o : Oper} {a : Act} {Q : Exit → Act → World → Prop} (hgd : o.guard = none) (s x : Operand) (t : TypeId)
    (ho : o.op = .call { callee := .builtin .append, args := #[s, x], argTypes := #[t, t] })
    (base : Nat) (e : TypeId) (i : TypeInfo) (size : Nat) (ht : P.underlying t = some (.slice e)) (hi : P.info? e = some i)
    (v : Value) (n c : Nat) (xs : List Value) (hs : a.eval s = v) (hown : w.ownsRow base e size v n xs) (hx : a.eval x = .slice none 0 c)
    (h : wpList P ops Q rest (a.put o.dst v) w) : wpList P ops Q (o :: rest) a w := by
  refine wpList_plain hgd fun K hK => ?_
  have hrun : (Builtin.append_ #[t, t] o.type #[v, .slice none 0 c]).run P w = .ok v w := by
    rcases hown.2 with ⟨rfl, rfl⟩ | ⟨g, cap, cur, rfl, _, _, hnc, _⟩
    · simp [Builtin.append_, run_underlying ht, sizeOf, typeInfo, hi, Builtin.lenOf, Builtin.firstCells]
    · simp [Builtin.append_, run_underlying ht, sizeOf, typeInfo, hi, Builtin.lenOf, Builtin.firstCells, hnc, storeCells]
  unfold Oper.wp
  simp [execOp, ho, resolve, invoke, builtin, hs, hx, hrun, Result.andThen]
  exact hK _ _ h
theorem step_append_own {ops : Array Oper} {o : Oper} {a : Act} {K : Act → World → Prop} {Q : Exit → Act → World → Prop} {E : Prop} (hgd : o.guard = none) (s x : Operand) (t : TypeId)
    (ho : o.op = .call { callee := .builtin .append, args := #[s, x], argTypes := #[t, t] })
    (base : Nat) (e : TypeId) (i : TypeInfo) (z : Value) (size bytes : Nat) (ht : P.underlying t = some (.slice e)) (hi : P.info? e = some i) (hz : i.zero = some z)
    (hsize : i.size = size) (hby : i.bytes = bytes) (hzs : z.cells.size = size) (hsz : 0 < size)
    (v : Value) (n : Nat) (xs : List Value) (hs : a.eval s = v) (hown : w.ownsRow base e size v n xs)
    (ad : Addr) (m c : Nat) (news : List Value) (hx : a.eval x = .slice (some ad) m c) (hl : news.length = m * size) (hnews : ∀ j u, news[j]? = some u → w.cell? (ad.add j) = some u) (h1 : ∀ u ∈ news, u.oneCell' = true)
    (h63 : n + m ≤ maxLen) (hbytes : (n + m) * bytes ≤ 140737488355328) (hbase : base ≤ w.heap.size)
    (h : ∀ v' w', w'.ownsRow base e size v' (n + m) (xs ++ news) → w.grownBy w' v.ownBlock → (v' = .slice none 0 0 ↔ v = .slice none 0 0 ∧ m = 0) → K (a.put o.dst v') w') : if Region.wanted o (yielded ops a.tmps) = true then Oper.wp P o a w K Q else E := by
  have hw : Region.wanted o (yielded ops a.tmps) = true := by simp [Region.wanted, hgd]
  rw [if_pos hw]
  exact wp_append_own w s x t ho base e i z size bytes ht hi hz hsize hby hzs hsz v n xs hs hown ad m c news hx hl hnews h1 h63 hbytes hbase h
end
theorem below_grown {B : Nat} {w W w2 : World} {base : Nat} {e : TypeId} {size n : Nat} {v : Value} {xs : List Value} (hB : Below B w W) (hown : W.ownsRow base e size v n xs) (hg : W.grownBy w2 v.ownBlock) (hb : B ≤ base) (hs : B ≤ W.heap.size) : Below B w w2 := hB.grown hg hs (fun k hk => Nat.le_trans hb (hown.lt k hk).1)
theorem OwnEnc.under' {α : Type} {enc : α → Value} {e : TypeId} {base B : Nat} {w w' : World} {v : Value} {xs : List α} (h : OwnEnc enc e base w v xs) (hb : Below B w w') (hlt : ∀ q, v.ownBlock = some q → q < B) : OwnEnc enc e base w' v xs := by
  obtain ⟨h1, h2⟩ := h
  refine ⟨h1, ?_⟩
  rcases h2 with h2 | ⟨g', cap, cur, rfl, hb', hg', h3⟩
  · exact .inl h2
  · exact .inr ⟨g', cap, cur, rfl, hb', (hb.block g' (hlt g' rfl)).trans hg', h3⟩
def zcells : Array Value := (List.replicate 128 (.int .u8 0)).toArray
theorem zeros_made (w : World) : (Instr.makeSlice 44 (.int .i64 128) (.int .i64 128)).run Try.prog w = .ok (.slice (some ⟨w.heap.size, 0, none⟩) 128 128) (w.alloc (.cells zcells 5)) :=
  run_make_one (P := Try.prog) 44 5 (.int .u8 0) 1 Try.underlying44 (by kernel_rfl) rfl 128 (by omega) (by omega) w
theorem zeros_conv {w : World} {g : Nat} (h : HasBlock w g zcells 5) : (convert 44 9 (.slice (some ⟨g, 0, none⟩) 128 128)).run Try.prog w = .ok (.string zeros128) w := by
  have ho : w.ownsRow g 5 1 (.slice (some ⟨g, 0, none⟩) 128 128) 128 ((List.replicate 128 (0 : Int)).map (Value.int .u8)) := by
    rw [List.map_replicate]
    exact ⟨by rw [List.length_replicate], .inr ⟨g, 128, zcells, rfl, Nat.le_refl _, h, Nat.le_refl _, by unfold maxLen; omega, by unfold zcells; rw [List.size_toArray, List.length_replicate], by unfold zcells; exact List.take_of_length_le (by rw [List.length_replicate]; omega)⟩⟩
  obtain ⟨g', cap, e, _, _, hc⟩ := bytes_string ho (by omega) (by rw [List.length_replicate])
  rw [show strOfNums (List.replicate 128 0) = zeros128 by decide +kernel] at hc
  exact hc
theorem nilrow (w : World) (ao : Option Addr) : StrRow w (.slice ao 0 0) [] := by
  unfold StrRow EncRow
  exact ⟨ao, 0, rfl, Nat.le_refl _, Nat.zero_le _, .inl rfl⟩
set_option maxHeartbeats 4000000 in
theorem rbegin_nil (ca : Nat) (w : World) : Calls Try.prog 9 #[.slice none 0 ca] w (RetRow2 [] [] 0 false w) := by
  obtain ⟨i0, hi, iz0, iz1, iz2⟩ := info_parts info_str
  have V := fun w ao k (h : StrRow w (.slice ao 0 k) []) => rvalid_any (.slice ao 0 k) (.slice none 0 0) [] [] 0 w h (RowAt.nil _) (by omega)
  rw [show validB [] [] 0 = false by decide] at V
  have HV := Lib.hid V; clear V
  go_enter Try.func9, Try.ntmps9
  go_wp2_with (at_builtin; refine wpList_append_nil rfl (.tmp 6) (.tmp 7) 22 rfl w.heap.size 9 i0 1 Try.underlying22 hi _ 0 ca [] rfl (World.ownsRow_made _ #[] 0 (by simp) (Nat.zero_le _) (by simp)) rfl ?_)
  have D1 := HasBlock.made ((w.alloc (.cells #[.slice none 0 0, .slice none 0 0, .int .i64 0] 24)).alloc (.cells #[] 9)) #[.slice (some ⟨w.heap.size + 1, 0, none⟩) 0 0, .slice none 0 0, .int .i64 0] 24
  have D2 := ((HasBlock.made w #[.slice none 0 0, .slice none 0 0, .int .i64 0] 24).alloc (.cells #[] 9)).alloc (.cells #[.slice (some ⟨w.heap.size + 1, 0, none⟩) 0 0, .slice none 0 0, .int .i64 0] 24)
  have hbw : Below w.heap.size w (((w.alloc (.cells #[.slice none 0 0, .slice none 0 0, .int .i64 0] 24)).alloc (.cells #[] 9)).alloc (.cells #[.slice (some ⟨w.heap.size + 1, 0, none⟩) 0 0, .slice none 0 0, .int .i64 0] 24)) := (by repeat (first | with_reducible exact Below.refl _ _ | with_reducible refine Below.drew ?_ | (with_reducible refine Below.alloc ?_ (by first | exact Nat.le_refl _ | omega | (simp only [sizes]; omega)) _) | (with_reducible refine Below.setCell ?_ (by first | exact Nat.le_refl _ | omega | (simp only [sizes]; omega)) _) | (refine Below.trans ?_ (Below.mono (by with_reducible assumption) (by first | exact Nat.le_refl _ | omega | (simp only [sizes]; omega))))))
  simp only [sizes] at D1
  generalize hW : ((w.alloc (.cells #[.slice none 0 0, .slice none 0 0, .int .i64 0] 24)).alloc (.cells #[] 9)).alloc (.cells #[.slice (some ⟨w.heap.size + 1, 0, none⟩) 0 0, .slice none 0 0, .int .i64 0] 24) = w2 at D1 D2 hbw ⊢
  clear hW
  go_loop [5] (fun i => i = .int .i64 0) (fun _ => 0)
  case atStart => rfl
  case round =>
    subst hrel
    have x0 := (D1.cell 0).trans rfl
    have x1 := (D1.cell 1).trans rfl
    have x2 := (D1.cell 2).trans rfl
    have xf := D1.free
    have xz := D1.lt
    go_wp2_with fail
    with_reducible refine (HV.out _ _ _ (nilrow _ _)).mono ?_
    rintro e w5 ⟨rfl, hb5⟩
    obtain ⟨hc5, hf5⟩ := bcell hb5
    have hz5 := bsize hb5
    try simp only [sizes1] at hz5
    try simp only [sizes] at hc5 hf5
    have F2 := D2.below hb5
    clear hc5 hf5
    have y0 := (F2.cell 0).trans rfl
    have y1 := (F2.cell 1).trans rfl
    have y2 := (F2.cell 2).trans rfl
    have yf := F2.free
    have yz := F2.lt
    go_wp2_with fail
    refine bodyPost_ret (v := .tuple #[.agg #[.slice none 0 0, .slice none 0 0, .int .i64 0], .bool false]) (by simp [results, Try.results9, go_sem, y0, y1, y2]) rfl ?_
    exact retRow2 (RowAt.nil _) (RowAt.nil _) (by repeat (first | with_reducible exact Below.refl _ _ | with_reducible refine Below.drew ?_ | (with_reducible refine Below.alloc ?_ (by first | exact Nat.le_refl _ | omega | (dsimp only; omega) | (simp only [sizes]; omega)) _) | (with_reducible refine Below.setCell ?_ (by first | exact Nat.le_refl _ | omega | (dsimp only; omega) | (simp only [sizes]; omega)) _) | (refine Below.trans ?_ (Below.mono (by with_reducible assumption) (by first | exact Nat.le_refl _ | omega | (dsimp only; omega) | (simp only [sizes]; omega))))))
theorem begB_len {S : List ByteArray} (h : begB S = true) : 1 ≤ S.length ∧ S.length ≤ 64 := by
  have := validB_len h
  exact ⟨this.1, this.2.1⟩
theorem own_form {w : World} {base n size : Nat} {e : TypeId} {v : Value} {xs : List Value} (h : w.ownsRow base e size v n xs) : ∃ (o : Option Addr) (cap : Nat), v = .slice o n cap ∧ n ≤ cap ∧ cap ≤ 9223372036854775807 := by
  rcases h.2 with ⟨rfl, rfl⟩ | ⟨g, cap, cur, rfl, _, _, hn, hm, _⟩
  · exact ⟨none, 0, rfl, Nat.le_refl _, by omega⟩
  · exact ⟨_, cap, rfl, hn, by unfold maxLen at hm; omega⟩
theorem zs_snoc (z : ByteArray) (k : Nat) : (List.replicate k z).map Value.string ++ [Value.string z] = (List.replicate (k + 1) z).map Value.string := by
  rw [List.map_replicate, List.map_replicate, List.replicate_succ']
theorem begB_long {S : List ByteArray} {X : List ByteArray} (h : 64 < S.length) : validB S X 0 = begB S := by
  cases h1 : validB S X 0
  · cases h2 : begB S
    · rfl
    · have := begB_len h2; omega
  · have := validB_len h1; omega
set_option maxHeartbeats 4000000 in
theorem rbegin_any (va : Value) (S : List ByteArray) (w : World) (ha : StrRow w va S) (hs : S.length ≤ 1000000) : Calls Try.prog 9 #[va] w (RetRow2 (begS S) (begT S) 0 (begB S) w) := by
  have HA := Lib.hid ha
  obtain ⟨ao, ca, rfl, a1, a2, a3⟩ := ha.out
  clear ha
  cases ao with
  | none =>
    have h0 : S = [] := by
      rcases a3 with h3 | ⟨b, off, hb, _⟩
      · exact List.eq_nil_of_length_eq_zero h3
      · cases hb
    subst h0
    exact rbegin_nil ca w
  | some a =>
    clear a3
    obtain ⟨n, hn⟩ : ∃ n, S.length = n := ⟨_, rfl⟩
    rw [hn] at a1 HA hs ⊢
    have HN := Lib.hid hn; clear hn
    obtain ⟨i0, hi, iz0, iz1, iz2⟩ := info_parts info_str
    go_enter Try.func9, Try.ntmps9
    go_upto_region 1 with (fail)
    have D0 := HasBlock.made w #[.slice none 0 0, .slice none 0 0, .int .i64 0] 24
    have hbw1 : Below w.heap.size w (w.alloc (.cells #[.slice none 0 0, .slice none 0 0, .int .i64 0] 24)) := (by repeat (first | with_reducible exact Below.refl _ _ | with_reducible refine Below.drew ?_ | (with_reducible refine Below.alloc ?_ (by first | exact Nat.le_refl _ | omega | (simp only [sizes]; omega)) _) | (with_reducible refine Below.setCell ?_ (by first | exact Nat.le_refl _ | omega | (simp only [sizes]; omega)) _) | (refine Below.trans ?_ (Below.mono (by with_reducible assumption) (by first | exact Nat.le_refl _ | omega | (simp only [sizes]; omega))))))
    have hz1 : (w.alloc (.cells #[.slice none 0 0, .slice none 0 0, .int .i64 0] 24)).heap.size = w.heap.size + 1 := World.size_alloc ..
    generalize hW : w.alloc (.cells #[.slice none 0 0, .slice none 0 0, .int .i64 0] 24) = w1 at D0 hbw1 hz1 ⊢
    have hz1' : w.heap.size < w1.heap.size := by omega
    clear hW hz1
    go_wp2_with (at_builtin; refine wpList_append_own _ rfl (.tmp 6) (.tmp 7) 22 rfl w1.heap.size 9 i0 (.string ⟨#[]⟩) 1 16 Try.underlying22 hi iz0 iz1 iz2 rfl (by decide) _ _ _ rfl (World.ownsRow_made _ #[] 0 (Nat.le_refl _) (Nat.zero_le _) (by simp)) a n ca (S.map Value.string) rfl ?qa2 ?qb2 ?qc2 ?qd2 ?qe2 ?qf2 ?_)
    case qa2 => rw [List.length_map, HN.out, Nat.mul_one]
    case qb2 => exact fun j u hj => Lib.cell?_alloc_some _ ((HA.out.below hbw1).cells' j u hj)
    case qc2 => intro u hu; rw [List.mem_map] at hu; obtain ⟨x, _, rfl⟩ := hu; rfl
    case qd2 => unfold maxLen; omega
    case qe2 => omega
    case qf2 => simp
    intro v2 w2 hown2 hgrow2 _
    have hb2 : Below w1.heap.size w1 w2 := ((Below.refl _ w1).alloc (Nat.le_refl _) _).grown hgrow2 (by simp) (by intro k hk; simp [Value.ownBlock] at hk; omega)
    have ho2 : OwnStr w1.heap.size w2 v2 S := by unfold OwnStr OwnEnc; rw [HN.out]; simpa using hown2
    clear hown2 hgrow2
    have D2 := D0.below hb2
    have hbw2 : Below w.heap.size w w2 := hbw1.trans (hb2.mono hbw1.size)
    have hz2 := hb2.size
    clear hb2 D0 hbw1
    obtain ⟨o2, k2, rfl, hk1, hk2⟩ := ho2.formN HN.out
    have hlt2 : ∀ q, (Value.slice o2 n k2).ownBlock = some q → q < w2.heap.size := fun q hq => (World.ownsRow.lt ho2.raw q hq).2
    have HO2 := Lib.hid ho2; clear ho2
    have HLT := Lib.hid hlt2; clear hlt2
    go_wp2_with fail
    have E1 := HasBlock.made w2 #[.slice o2 n k2, .slice none 0 0, .int .i64 0] 24
    have E2 := D2.alloc (.cells #[.slice o2 n k2, .slice none 0 0, .int .i64 0] 24)
    have p1 := HO2.out.alloc (.cells #[.slice o2 n k2, .slice none 0 0, .int .i64 0] 24)
    have hbw3 : Below w.heap.size w (w2.alloc (.cells #[.slice o2 n k2, .slice none 0 0, .int .i64 0] 24)) := (by repeat (first | with_reducible exact Below.refl _ _ | with_reducible refine Below.drew ?_ | (with_reducible refine Below.alloc ?_ (by first | exact Nat.le_refl _ | omega | (simp only [sizes]; omega)) _) | (with_reducible refine Below.setCell ?_ (by first | exact Nat.le_refl _ | omega | (simp only [sizes]; omega)) _) | (refine Below.trans ?_ (Below.mono (by with_reducible assumption) (by first | exact Nat.le_refl _ | omega | (simp only [sizes]; omega))))))
    have hz3 : (w2.alloc (.cells #[.slice o2 n k2, .slice none 0 0, .int .i64 0] 24)).heap.size = w2.heap.size + 1 := World.size_alloc ..
    obtain ⟨B, hB⟩ : ∃ B, w2.heap.size = B := ⟨_, rfl⟩
    have hlt3 := HLT.out
    rw [hB] at E1 hz3 hlt3 hz2 ⊢
    have hB2 : w.heap.size < B := by omega
    generalize hW : w2.alloc (.cells #[.slice o2 n k2, .slice none 0 0, .int .i64 0] 24) = w3 at E1 E2 p1 hbw3 hz3 ⊢
    have hz3' : B + 1 ≤ w3.heap.size := by omega
    clear hW hz3 hB HLT D2 hbw2 hz2 HO2
    have HLT := Lib.hid hlt3; clear hlt3
    have P1 := Lib.hid p1; clear p1
    obtain ⟨z, hzz⟩ : ∃ z, zeros128 = z := ⟨_, rfl⟩
    obtain ⟨Z, hZZ⟩ : ∃ Z, zcells = Z := ⟨_, rfl⟩
    have hbe : begB S = validB S (List.replicate n z) 0 ∧ begT S = if begB S then List.replicate n z else [] := by
      unfold begT begB
      rw [HN.out, hzz]
      exact ⟨rfl, rfl⟩
    have HBE := Lib.hid hbe; clear hbe
    have MK := zeros_made
    have CV := fun w g h => @zeros_conv w g h
    rw [hZZ] at MK CV
    rw [hzz] at CV
    have HMK := Lib.hid MK; clear MK
    have HCV := Lib.hid CV; clear CV
    clear hzz hZZ
    go_loopw [5] (fun i wr => ∃ (k : Nat) (o : Option Addr) (cp : Nat), k ≤ n ∧ k ≤ 65 ∧ i = .int .i64 k ∧ k ≤ cp ∧ cp ≤ 9223372036854775807 ∧ HasBlock wr B #[.slice o2 n k2, .slice o k cp, .int .i64 0] 24 ∧ HasBlock wr w.heap.size #[.slice none 0 0, .slice none 0 0, .int .i64 0] 24 ∧ OwnStr w1.heap.size wr (.slice o2 n k2) S ∧ wr.ownsRow (B + 1) 9 1 (.slice o k cp) k ((List.replicate k z).map Value.string) ∧ Below w.heap.size w wr ∧ B + 1 ≤ wr.heap.size) (fun i _ => n - (intOf i).toNat)
    case atStart => exact ⟨0, none, 0, Nat.zero_le _, by omega, rfl, Nat.le_refl _, by omega, E1, E2, P1.out, World.ownsRow_nil _ _ _ _, hbw3, hz3'⟩
    case round =>
      obtain ⟨k, o, cp, hk, hk65, rfl, hc1, hc2, D1, D2, q1, q2, hbr, hzr⟩ := hrel
      clear E1 E2 P1 hbw3 hz3'
      have Q1 := Lib.hid q1; clear q1
      have Q2 := Lib.hid q2; clear q2
      have hz0 := hbr.size
      have x0 := (D1.cell 0).trans rfl
      have x1 := (D1.cell 1).trans rfl
      have x2 := (D1.cell 2).trans rfl
      have xf := D1.free
      have xz := D1.lt
      have y0 := (D2.cell 0).trans rfl
      have y1 := (D2.cell 1).trans rfl
      have y2 := (D2.cell 2).trans rfl
      have yf := D2.free
      have yz := D2.lt
      by_cases hgo : k < n ∧ k ≤ 64
      · obtain ⟨hlt, h64⟩ := hgo
        have hmk := HMK.out
        have hcv1 := HCV.out (wr.alloc (.cells Z 5)).drew wr.heap.size (HasBlock.made wr Z 5)
        have hcv2 := HCV.out (wr.drew.alloc (.cells Z 5)) wr.heap.size (HasBlock.made wr.drew Z 5)
        go_wp2_with fail
        go_region_law (go_loud (
             refine step_append_own rfl (.tmp 21) (.tmp 24) 22 rfl (B + 1) 9 i0 (.string ⟨#[]⟩) 1 16 Try.underlying22 hi iz0 iz1 iz2 rfl (by decide) _ k ((List.replicate k z).map Value.string) rfl ?_ ⟨_, 0, none⟩ 1 1 [.string z] rfl rfl ?_ (one_str _) (by unfold maxLen; omega) (by omega) ?_ ?_
             · exact (Q2.out.alloc _).alloc _
             · exact cells_made _ [.string z] _ _ (by first | rfl | simp only [sizes])
             · (first | omega | (simp only [sizes]; omega))
             intro v5 w5 hown5 hgrow5 _
             have hb5 : Below (B + 1) wr w5 := by
               refine below_grown (B := B + 1) (base := B + 1) (e := 9) (size := 1) (n := k) (xs := (List.replicate k z).map Value.string) ?_ ?_ hgrow5 (Nat.le_refl _) ?_
               · exact (by repeat (first | with_reducible exact Below.refl _ _ | with_reducible refine Below.drew ?_ | (with_reducible refine Below.alloc ?_ (by first | exact Nat.le_refl _ | omega | (dsimp only; omega) | (simp only [sizes]; omega)) _) | (with_reducible refine Below.setCell ?_ (by first | exact Nat.le_refl _ | omega | (dsimp only; omega) | (simp only [sizes]; omega)) _) | (refine Below.trans ?_ (Below.mono (by with_reducible assumption) (by first | exact Nat.le_refl _ | omega | (dsimp only; omega) | (simp only [sizes]; omega))))))
               · exact (Q2.out.alloc _).alloc _
               · (first | omega | (simp only [sizes]; omega))
             obtain ⟨o5, c5, rfl, hc51, hc52⟩ := own_form hown5
             have F1 := D1.under hb5 (by omega)
             have F2 := D2.under hb5 (by omega)
             have R1 := Lib.hid (Q1.out.under' hb5 (fun q hq => by have := HLT.out q hq; omega))
             have R2 := Lib.hid hown5
             have hz5 := hb5.size
             have hbw5 : Below w.heap.size w w5 := hbr.trans (hb5.mono (by omega))
             clear hb5 hgrow5 hown5 D1 D2 Q1 Q2 hbr x0 x1 x2 xf xz y0 y1 y2 yf yz
             have x0 := (F1.cell 0).trans rfl
             have x1 := (F1.cell 1).trans rfl
             have x2 := (F1.cell 2).trans rfl
             have xf := F1.free
             have xz := F1.lt))
        all_goals
          clear hmk hcv1 hcv2
          go_wp2_with fail
          go_roundw
          case rel =>
            refine ⟨k + 1, o5, c5, by omega, by omega, by go_num, hc51, hc52, ?_, ?_, ?_, ?_, (by repeat (first | with_reducible exact Below.refl _ _ | with_reducible refine Below.drew ?_ | (with_reducible refine Below.alloc ?_ (by first | exact Nat.le_refl _ | omega | (dsimp only; omega) | (simp only [sizes]; omega)) _) | (with_reducible refine Below.setCell ?_ (by first | exact Nat.le_refl _ | omega | (dsimp only; omega) | (simp only [sizes]; omega)) _) | (refine Below.trans ?_ (Below.mono (by with_reducible assumption) (by first | exact Nat.le_refl _ | omega | (dsimp only; omega) | (simp only [sizes]; omega)))))), ?_⟩
            · have e := F1.set_at 1 (.slice o5 (k + 1) c5)
              simpa using e
            · exact F2.set_ne (by omega) _
            · exact R1.out.setne (fun e => absurd (HLT.out B e) (Nat.lt_irrefl _)) _
            · have h6 := owns_set_ne (b := B) R2.out (own_gt R2.out (by omega)) (j := 1) (.slice o5 (k + 1) c5)
              rw [zs_snoc] at h6
              exact h6
            · rw [World.size_setCell]; omega
          case measure => simp [intOf]; omega
      · by_cases h64 : k ≤ 64
        · obtain rfl : k = n := by omega
          have V := fun w ha hb => rvalid_any (.slice o2 k k2) (.slice o k cp) S (List.replicate k z) 0 w ha hb (by omega)
          rw [← HBE.out.1] at V
          have R2 : OwnStr (B + 1) wr (.slice o k cp) (List.replicate k z) := by unfold OwnStr OwnEnc; rw [List.length_replicate]; exact Q2.out
          have HR2 := Lib.hid R2; clear R2
          cases hv : begB S
          · rw [hv] at V
            have HV := Lib.hid V; clear V
            have HF := Lib.hid hv; clear hv
            go_wp2_with fail
            with_reducible refine (HV.out _ Q1.out.row HR2.out.row).mono ?_
            rintro e w5 ⟨rfl, hb5⟩
            obtain ⟨hc5, hf5⟩ := bcell hb5
            have hz5 := bsize hb5
            try simp only [sizes1] at hz5
            try simp only [sizes] at hc5 hf5
            have F2 := D2.below hb5
            clear y0 y1 y2 yf yz
            clear hc5 hf5
            have y0 := (F2.cell 0).trans rfl
            have y1 := (F2.cell 1).trans rfl
            have y2 := (F2.cell 2).trans rfl
            have yf := F2.free
            have yz := F2.lt
            have hbw5 : Below w.heap.size w w5 := hbr.trans (hb5.mono hbr.size)
            go_wp2_with fail
            refine bodyPost_ret (v := .tuple #[.agg #[.slice none 0 0, .slice none 0 0, .int .i64 0], .bool false]) (by simp [results, Try.results9, go_sem, y0, y1, y2]) rfl ?_
            rw [show RetRow2 (begS S) (begT S) 0 (begB S) w = RetRow2 [] [] 0 false w by simp [begS, begT, HF.out]]
            exact retRow2 (RowAt.nil _) (RowAt.nil _) (by repeat (first | with_reducible exact Below.refl _ _ | with_reducible refine Below.drew ?_ | (with_reducible refine Below.alloc ?_ (by first | exact Nat.le_refl _ | omega | (dsimp only; omega) | (simp only [sizes]; omega)) _) | (with_reducible refine Below.setCell ?_ (by first | exact Nat.le_refl _ | omega | (dsimp only; omega) | (simp only [sizes]; omega)) _) | (refine Below.trans ?_ (Below.mono (by with_reducible assumption) (by first | exact Nat.le_refl _ | omega | (dsimp only; omega) | (simp only [sizes]; omega))))))
          · rw [hv] at V
            have HV := Lib.hid V; clear V
            have HF := Lib.hid hv; clear hv
            go_wp2_with fail
            with_reducible refine (HV.out _ Q1.out.row HR2.out.row).mono ?_
            rintro e w5 ⟨rfl, hb5⟩
            obtain ⟨hc5, hf5⟩ := bcell hb5
            have hz5 := bsize hb5
            try simp only [sizes1] at hz5
            try simp only [sizes] at hc5 hf5
            have F1 := D1.below hb5
            have F2 := D2.below hb5
            clear x0 x1 x2 xf xz
            clear y0 y1 y2 yf yz
            clear hc5 hf5
            have x0 := (F1.cell 0).trans rfl
            have x1 := (F1.cell 1).trans rfl
            have x2 := (F1.cell 2).trans rfl
            have xf := F1.free
            have xz := F1.lt
            have y0 := (F2.cell 0).trans rfl
            have y1 := (F2.cell 1).trans rfl
            have y2 := (F2.cell 2).trans rfl
            have yf := F2.free
            have yz := F2.lt
            have hbw5 : Below w.heap.size w w5 := hbr.trans (hb5.mono hbr.size)
            have P1 := Lib.hid (Q1.out.below hb5)
            have P2 := Lib.hid (HR2.out.below hb5)
            go_wp2_with fail
            refine bodyPost_ret (v := .tuple #[.agg #[.slice o2 k k2, .slice o k cp, .int .i64 0], .bool true]) (by simp [results, Try.results9, go_sem, y0, y1, y2]) rfl ?_
            rw [show RetRow2 (begS S) (begT S) 0 (begB S) w = RetRow2 S (List.replicate k z) 0 true w by rw [HBE.out.2, HF.out, begS, HF.out]; rfl]
            exact retRow2 (OwnEnc.row (base := w1.heap.size) (e := 9) (by have h4 := OwnEnc.raw (P1.out); refine OwnEnc.of ?_; repeat (first | with_reducible exact h4 | (with_reducible refine World.ownsRow.alloc ?_ _) | (with_reducible refine owns_set_ne ?_ (own_gt h4 (by omega)) _) | (with_reducible refine owns_set_ne ?_ (own_ne (by omega)) _)))) (OwnEnc.row (base := B + 1) (e := 9) (by have h4 := OwnEnc.raw (P2.out); refine OwnEnc.of ?_; repeat (first | with_reducible exact h4 | (with_reducible refine World.ownsRow.alloc ?_ _) | (with_reducible refine owns_set_ne ?_ (own_gt h4 (by omega)) _) | (with_reducible refine owns_set_ne ?_ (own_ne (by omega)) _)))) (by repeat (first | with_reducible exact Below.refl _ _ | with_reducible refine Below.drew ?_ | (with_reducible refine Below.alloc ?_ (by first | exact Nat.le_refl _ | omega | (dsimp only; omega) | (simp only [sizes]; omega)) _) | (with_reducible refine Below.setCell ?_ (by first | exact Nat.le_refl _ | omega | (dsimp only; omega) | (simp only [sizes]; omega)) _) | (refine Below.trans ?_ (Below.mono (by with_reducible assumption) (by first | exact Nat.le_refl _ | omega | (dsimp only; omega) | (simp only [sizes]; omega))))))
        · obtain rfl : k = 65 := by omega
          have V := fun w ha hb => rvalid_any (.slice o2 n k2) (.slice o 65 cp) S (List.replicate 65 z) 0 w ha hb (by omega)
          have hF : begB S = false := by
            cases h2 : begB S
            · rfl
            · have := begB_len h2
              rw [HN.out] at this
              omega
          rw [begB_long (by rw [HN.out]; omega), hF] at V
          have HV := Lib.hid V; clear V
          have HF := Lib.hid hF; clear hF
          have R2 : OwnStr (B + 1) wr (.slice o 65 cp) (List.replicate 65 z) := by unfold OwnStr OwnEnc; rw [List.length_replicate]; exact Q2.out
          have HR2 := Lib.hid R2; clear R2
          by_cases hn65 : 65 < n
          all_goals
            go_wp2_with fail
            with_reducible refine (HV.out _ Q1.out.row HR2.out.row).mono ?_
            rintro e w5 ⟨rfl, hb5⟩
            obtain ⟨hc5, hf5⟩ := bcell hb5
            have hz5 := bsize hb5
            try simp only [sizes1] at hz5
            try simp only [sizes] at hc5 hf5
            have F2 := D2.below hb5
            clear y0 y1 y2 yf yz
            clear hc5 hf5
            have y0 := (F2.cell 0).trans rfl
            have y1 := (F2.cell 1).trans rfl
            have y2 := (F2.cell 2).trans rfl
            have yf := F2.free
            have yz := F2.lt
            have hbw5 : Below w.heap.size w w5 := hbr.trans (hb5.mono hbr.size)
            go_wp2_with fail
            refine bodyPost_ret (v := .tuple #[.agg #[.slice none 0 0, .slice none 0 0, .int .i64 0], .bool false]) (by simp [results, Try.results9, go_sem, y0, y1, y2]) rfl ?_
            rw [show RetRow2 (begS S) (begT S) 0 (begB S) w = RetRow2 [] [] 0 false w by simp [begS, begT, HF.out]]
            exact retRow2 (RowAt.nil _) (RowAt.nil _) (by repeat (first | with_reducible exact Below.refl _ _ | with_reducible refine Below.drew ?_ | (with_reducible refine Below.alloc ?_ (by first | exact Nat.le_refl _ | omega | (dsimp only; omega) | (simp only [sizes]; omega)) _) | (with_reducible refine Below.setCell ?_ (by first | exact Nat.le_refl _ | omega | (dsimp only; omega) | (simp only [sizes]; omega)) _) | (refine Below.trans ?_ (Below.mono (by with_reducible assumption) (by first | exact Nat.le_refl _ | omega | (dsimp only; omega) | (simp only [sizes]; omega))))))
end Go.Proofs.Ytfomfokgibijjaa
