/-
  An argument that is a pool, opened. Nothing of the program is walked.
-/
import Derived.Test.YtjoopjgpjkmmhaaPlLaws
import Derived.Test.YtjoopjgpjkmmhaaOpen
namespace Go.Proofs.Ytjoopjgpjkmmhaa
open Go.ChangeShapes Go.WideShapes Go.ChangeAt Go.RowKit Go.ChangeMaps

theorem flat_one {α : Type} (f : α → Value) (xs : List α) : xs.flatMap (fun x => [f x]) = xs.map f := by
  induction xs with
  | nil => rfl
  | cons x xs ih => rw [List.flatMap_cons, ih]; rfl
theorem strs_cells {H : Type} {enc : TypeId × Value → H} {w : World} {base : Nat} {sp : Nat → Bool} {held : Bool} {fuel : Nat} {c : Value} {x : DataW H × List MemPlace}
    (h : DataW.trod enc Try.prog w base sp held fuel 22 [c] = some x) : ∃ ss : List ByteArray, StrRow w c ss := by
  obtain ⟨v, xs, hcs, hrow⟩ := open_rowOf (R := fun _ cs (s : ByteArray) => cs = [.string s]) (size := 1) Try.underlying22 (by kernel_rfl) (by decide) (fun n cs y hy _ => by
    obtain ⟨s, hs, _⟩ := DataW.trod_string Try.underlying9 hy
    exact ⟨s, hs⟩) h
  injection hcs with hcs
  subst hcs
  have hr := rowAt_of_rowOf (f := fun s => [Value.string s]) (by decide) (fun _ => rfl) hrow
  rw [flat_one] at hr
  exact ⟨xs, hr⟩
abbrev I64 := {x : Int // -9223372036854775808 ≤ x ∧ x ≤ 9223372036854775807}
theorem nums_cells {H : Type} {enc : TypeId × Value → H} {w : World} {base : Nat} {sp : Nat → Bool} {held : Bool} {fuel : Nat} {c : Value} {x : DataW H × List MemPlace}
    (h : DataW.trod enc Try.prog w base sp held fuel 23 [c] = some x) : ∃ l : List Int, NumRow w c l ∧ ∀ x ∈ l, -9223372036854775808 ≤ x ∧ x ≤ 9223372036854775807 := by
  obtain ⟨v, xs, hcs, hrow⟩ := open_rowOf (R := fun _ cs (s : I64) => cs = [.int .i64 s.1]) (size := 1) Try.underlying23 (by kernel_rfl) (by decide) (fun n cs y hy _ => by
    obtain ⟨i, hi, _, wi⟩ := DataW.trod_int Try.underlying3 hy
    exact ⟨⟨i, bounds_i64 wi⟩, hi⟩) h
  injection hcs with hcs
  subst hcs
  have hr := rowAt_of_rowOf (f := fun s : I64 => [Value.int .i64 s.1]) (by decide) (fun _ => rfl) hrow
  rw [flat_one] at hr
  refine ⟨xs.map Subtype.val, ?_, fun x hx => ?_⟩
  · unfold NumRow EncRow
    rw [List.length_map, List.map_map]
    exact hr
  · rw [List.mem_map] at hx
    obtain ⟨y, _, rfl⟩ := hx
    exact y.2
theorem rows_cells {H : Type} {enc : TypeId × Value → H} {w : World} {base : Nat} {sp : Nat → Bool} {held : Bool} {fuel : Nat} {c : Value} {x : DataW H × List MemPlace}
    (h : DataW.trod enc Try.prog w base sp held fuel 24 [c] = some x) : ∃ M : List (List Int), MapRow w c M ∧ ∀ l ∈ M, ∀ x ∈ l, -9223372036854775808 ≤ x ∧ x ≤ 9223372036854775807 := by
  obtain ⟨v, xs, hcs, hrow⟩ := open_rowOf (R := fun w cs (s : List Int) => (∃ u, cs = [u] ∧ NumRow w u s) ∧ ∀ x ∈ s, -9223372036854775808 ≤ x ∧ x ≤ 9223372036854775807) (size := 1) Try.underlying24 (by kernel_rfl) (by decide) (fun n cs y hy hl => by
    match cs, hl with
    | [u], _ =>
      obtain ⟨l, hl, hb⟩ := nums_cells hy
      exact ⟨l, ⟨u, rfl, hl⟩, hb⟩) h
  injection hcs with hcs
  subst hcs
  obtain ⟨ao, cap, rfl, h1, h2, h3⟩ := hrow
  rcases h3 with h3 | ⟨b, off, rfl, hlt, hc⟩
  · have hnil := List.eq_nil_of_length_eq_zero h3
    subst hnil
    exact ⟨[], ⟨[], ⟨ao, cap, rfl, h1, h2, .inl rfl⟩, rfl, fun i u xs hu => by simp at hu⟩, fun l hl => by simp at hl⟩
  · obtain ⟨us, hul, hup⟩ := list_of xs.length (fun i u => w.cell? ⟨b, off + i, none⟩ = some u ∧ ∀ l, xs[i]? = some l → NumRow w u l ∧ ∀ x ∈ l, -9223372036854775808 ≤ x ∧ x ≤ 9223372036854775807) (fun i hi => by
      obtain ⟨l, hl⟩ := get_lt hi
      obtain ⟨cs, _, ⟨⟨u, rfl, hr⟩, hb⟩, hcell⟩ := hc i l hl
      refine ⟨u, ?_, fun l' hl' => ?_⟩
      · have := hcell 0 u rfl
        rw [Nat.mul_one, Nat.add_zero] at this
        exact this
      · rw [hl] at hl'
        injection hl' with hl'
        subst hl'
        exact ⟨hr, hb⟩)
    refine ⟨xs, ⟨us, ⟨_, cap, rfl, h1, h2, .inr ⟨b, off, rfl, hlt, fun i u hu => (hup i u hu).1⟩⟩, hul, fun i u l hu hl => ((hup i u hu).2 l hl).1⟩, fun l hl => ?_⟩
    obtain ⟨i, hi⟩ := List.getElem?_of_mem hl
    obtain ⟨u, hu⟩ := get_lt (xs := us) (k := i) (by rw [hul]; exact lt_of_get hi)
    exact ((hup i u hu).2 l hi).2
theorem pool_cells {H : Type} {enc : TypeId × Value → H} {w : World} {base : Nat} {sp : Nat → Bool} {held : Bool} {fuel : Nat} {cs : List Value} {x : DataW H × List MemPlace}
    (h : DataW.trod enc Try.prog w base sp held fuel 26 cs = some x) (hl : cs.length = 3) : ∃ (P : Pl) (vf vr vm : Value), cs = [vf, vr, vm] ∧ StrRow w vf P.F ∧ NumRow w vr P.R ∧ MapRow w vm P.M ∧ P.fit := by
  obtain ⟨n, hf⟩ := open_cells Try.underlying26 (by kernel_rfl) h hl
  obtain ⟨c0, y0, e0, t0⟩ := hf 0 _ rfl
  obtain ⟨c1, y1, e1, t1⟩ := hf 1 _ rfl
  obtain ⟨c2, y2, e2, t2⟩ := hf 2 _ rfl
  obtain ⟨F, hF⟩ := strs_cells t0
  obtain ⟨R, hR, hRb⟩ := nums_cells t1
  obtain ⟨M, hM, hMb⟩ := rows_cells t2
  refine ⟨⟨F, R, M⟩, c0, c1, c2, ?_, hF, hR, hM, hRb, hMb⟩
  match cs, hl with
  | [a0, a1, a2], _ =>
    simp only [List.getElem?_cons_zero, List.getElem?_cons_succ, Option.some.injEq] at e0 e1 e2
    rw [e0, e1, e2]
theorem pool_arg {H : Type} {enc : TypeId × Value → H} {w : World} {r : Reach} {b0 base : Nat} {sp : Nat → Bool} {held : Bool} {v : Value} {d : DataW H} {p : List MemPlace} (hv : Value.okWide Try.prog w r b0 26 v) (h : DataW.Trod enc Try.prog w base sp held 26 v d p) : ∃ P : Pl, PlRow w v P ∧ P.fit := by
  obtain ⟨cs, rfl, hsz⟩ := okWide_struct Try.underlying26 hv
  obtain ⟨l⟩ := cs
  obtain ⟨fuel, hf⟩ := h
  obtain ⟨P, vf, vr, vm, hc, hF, hR, hM, hb⟩ := pool_cells hf (hsz.trans (by kernel_rfl))
  exact ⟨P, ⟨vf, vr, vm, congrArg (fun z : List Value => Value.agg z.toArray) hc, hF, hR, hM⟩, hb⟩
end Go.Proofs.Ytjoopjgpjkmmhaa
