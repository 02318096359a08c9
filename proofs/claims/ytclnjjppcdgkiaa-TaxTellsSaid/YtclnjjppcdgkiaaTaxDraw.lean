/-
  Samples in plain Lean: the next page that is not drawn yet, and what is known of all pages drawn. Nothing is walked here.
-/
import Derived.Test.YtclnjjppcdgkiaaTaxNext
namespace Go.Proofs.Ytclnjjppcdgkiaa

def hitD (d : List Bool) (j : Nat) : Bool := d[j]?.getD false
/-- How many pages on from 'i' the next one lies that is not drawn. -/
def gap (d : List Bool) (pages i : Nat) : Nat := (List.range pages).findIdx (fun j => !hitD d ((i + j) % pages))
def probe (d : List Bool) (pages i : Nat) : Nat := (i + gap d pages i) % pages
theorem gap_lt {d : List Bool} {pages i : Nat} (hi : i < pages) (h : ∃ j, j < pages ∧ hitD d j = false) : gap d pages i < pages ∧ hitD d ((i + gap d pages i) % pages) = false := by
  obtain ⟨j, hj, hf⟩ := h
  have hlt : gap d pages i < (List.range pages).length := by
    rw [gap, List.findIdx_lt_length]
    refine ⟨(j + pages - i) % pages, ?_, ?_⟩
    · rw [List.mem_range]; exact Nat.mod_lt _ (by omega)
    · have e : (i + (j + pages - i) % pages) % pages = j := by
        rw [Nat.add_mod_mod, show i + (j + pages - i) = j + pages from by omega, Nat.add_mod_right, Nat.mod_eq_of_lt hj]
      rw [e, hf]; rfl
  refine ⟨by simpa using hlt, ?_⟩
  have h1 : ∀ (x : Nat) (hx : x < (List.range pages).length), (List.range pages)[x] = x := fun x hx => by simp
  have h2 : (!hitD d ((i + (List.range pages)[gap d pages i]) % pages)) = true := List.findIdx_getElem (w := hlt) (p := fun j => !hitD d ((i + j) % pages))
  rw [h1] at h2
  simpa using h2
theorem gap_before {d : List Bool} {pages i j : Nat} (h : j < gap d pages i) (_hp : j < pages) : hitD d ((i + j) % pages) = true := by
  have := List.not_of_lt_findIdx (p := fun j => !hitD d ((i + j) % pages)) (xs := List.range pages) (i := j) h
  simpa using this
theorem gap_le {d : List Bool} {pages i j : Nat} (hp : j < pages) (h : hitD d ((i + j) % pages) = false) : gap d pages i ≤ j := by
  by_cases hc : gap d pages i ≤ j
  · exact hc
  · have := gap_before (d := d) (pages := pages) (i := i) (j := j) (by omega) hp
    rw [h] at this; cases this
theorem gap_zero {d : List Bool} {pages i : Nat} (hi : i < pages) (h : hitD d i = false) : gap d pages i = 0 := by
  have := gap_le (d := d) (pages := pages) (i := i) (j := 0) (by omega) (by rw [Nat.add_zero, Nat.mod_eq_of_lt hi]; exact h)
  omega
theorem gap_step {d : List Bool} {pages i : Nat} (hi : i < pages) (h : hitD d i = true) (hx : ∃ j, j < pages ∧ hitD d j = false) :
    gap d pages ((i + 1) % pages) + 1 = gap d pages i := by
  obtain ⟨g1, g2⟩ := gap_lt hi hx
  have h1 : gap d pages i ≠ 0 := by
    intro e
    rw [e, Nat.add_zero, Nat.mod_eq_of_lt hi, h] at g2
    cases g2
  have hi' : (i + 1) % pages < pages := Nat.mod_lt _ (by omega)
  obtain ⟨k1, k2⟩ := gap_lt hi' hx
  have a1 : gap d pages ((i + 1) % pages) ≤ gap d pages i - 1 := by
    apply gap_le (by omega)
    rw [Nat.mod_add_mod, show i + 1 + (gap d pages i - 1) = i + gap d pages i from by omega]
    exact g2
  have a2 : gap d pages i ≤ gap d pages ((i + 1) % pages) + 1 := by
    apply gap_le (by omega)
    rw [Nat.mod_add_mod, show i + 1 + gap d pages ((i + 1) % pages) = i + (gap d pages ((i + 1) % pages) + 1) from by omega] at k2
    exact k2
  omega
theorem probe_zero {d : List Bool} {pages i : Nat} (hi : i < pages) (h : hitD d i = false) : probe d pages i = i := by
  unfold probe; rw [gap_zero hi h, Nat.add_zero, Nat.mod_eq_of_lt hi]
theorem probe_step {d : List Bool} {pages i : Nat} (hi : i < pages) (h : hitD d i = true) (hx : ∃ j, j < pages ∧ hitD d j = false) : probe d pages ((i + 1) % pages) = probe d pages i := by
  unfold probe
  rw [← gap_step hi h hx, Nat.mod_add_mod]
  congr 1
  omega
theorem probe_lt {d : List Bool} {pages i : Nat} (hp : 0 < pages) : probe d pages i < pages := Nat.mod_lt _ hp

theorem emod_succ (j n : Nat) : ((j : Int) + 1) % n = ((j + 1) % n : Nat) := by
  rw [Int.natCast_emod]; rfl
def U64 (x : Int) : Prop := 0 ≤ x ∧ x < 18446744073709551616
structure Sam where
  seed : Int
  d : List Bool
  out : List Int
def samStep (pages : Nat) (q : Sam) : Sam :=
  ⟨nextS q.seed, q.d.set (probe q.d pages (nextV q.seed % pages).toNat) true, q.out ++ [(probe q.d pages (nextV q.seed % pages).toNat : Int)]⟩
def samF (pages : Nat) (seed : Int) : Nat → Sam
  | 0 => ⟨seed, List.replicate pages false, []⟩
  | k + 1 => samStep pages (samF pages seed k)

def trues (d : List Bool) : Nat := d.countP id
theorem trues_set : ∀ (d : List Bool) (i : Nat), i < d.length → hitD d i = false → trues (d.set i true) = trues d + 1
  | [], i, h, _ => by simp at h
  | b :: d, 0, _, h => by
    simp [hitD] at h
    subst h
    simp [trues]
  | b :: d, i + 1, hl, h => by
    have := trues_set d i (by simpa using hl) (by simpa [hitD] using h)
    unfold trues at *
    simp only [List.set_cons_succ, List.countP_cons, this]
    omega
theorem free_of {d : List Bool} {pages : Nat} (hl : d.length = pages) (h : trues d < pages) : ∃ j, j < pages ∧ hitD d j = false := by
  rw [← hl] at h
  have : ¬ ∀ b ∈ d, id b = true := fun hall => by
    have := List.countP_eq_length.2 hall
    unfold trues at h
    omega
  simp only [id_eq, Classical.not_forall] at this
  obtain ⟨b, hb, hf⟩ := this
  obtain ⟨j, hj⟩ := List.getElem?_of_mem hb
  refine ⟨j, by rw [← hl]; exact (List.getElem?_eq_some_iff.1 hj).1, ?_⟩
  unfold hitD
  rw [hj]
  simpa using hf
theorem hitD_set {d : List Bool} {i j : Nat} (hi : i < d.length) : hitD (d.set i true) j = (decide (i = j) || hitD d j) := by
  unfold hitD
  rw [List.getElem?_set]
  split
  · rename_i h; subst h; simp [hi]
  · rename_i h; simp [h]

/-- What holds after k draws, k at most the number of pages. -/
structure SamOk (pages k : Nat) (q : Sam) : Prop where
  seed : U64 q.seed
  len : q.d.length = pages
  cnt : trues q.d = k
  olen : q.out.length = k
  range : ∀ x ∈ q.out, 0 ≤ x ∧ x < pages
  drawn : ∀ x ∈ q.out, hitD q.d x.toNat = true
  nodup : q.out.Nodup
theorem mod_toNat_lt (x : Int) (n : Nat) (h : 0 < n) : (x % n).toNat < n := by
  have h1 := Int.emod_lt_of_pos x (show (0 : Int) < n by omega)
  have h2 := Int.emod_nonneg x (show (n : Int) ≠ 0 by omega)
  omega
theorem nextS_u64 (s : Int) : U64 (nextS s) := nextS_bd s
theorem samOk_put (pages k i : Nat) (q : Sam) (s : Int) (hs : U64 s) (hlt : i < pages) (hnew : hitD q.d i = false) (ih : SamOk pages k q) : SamOk pages (k + 1) ⟨s, q.d.set i true, q.out ++ [(i : Int)]⟩ := by
  have hl : i < q.d.length := by rw [ih.len]; exact hlt
  constructor
  · exact hs
  · exact (List.length_set ..).trans ih.len
  · exact (trues_set _ _ hl hnew).trans (by rw [ih.cnt])
  · exact (List.length_append).trans (by rw [ih.olen]; rfl)
  · intro x hx
    rw [List.mem_append, List.mem_singleton] at hx
    rcases hx with hx | rfl
    · exact ih.range x hx
    · omega
  · intro x hx
    dsimp only
    rw [List.mem_append, List.mem_singleton] at hx
    rw [hitD_set hl]
    rcases hx with hx | rfl
    · rw [ih.drawn x hx, Bool.or_true]
    · simp
  · dsimp only
    rw [List.nodup_append]
    refine ⟨ih.nodup, by simp, ?_⟩
    intro x hx y hy
    rw [List.mem_singleton] at hy
    subst hy
    rintro rfl
    have := ih.drawn _ hx
    rw [Int.toNat_natCast, hnew] at this
    cases this
theorem samOk_step (pages k : Nat) (q : Sam) (hk : k < pages) (ih : SamOk pages k q) : SamOk pages (k + 1) (samStep pages q) := by
  unfold samStep
  have hi0 : (nextV q.seed % pages).toNat < pages := mod_toNat_lt _ _ (by omega)
  generalize (nextV q.seed % pages).toNat = x at hi0 ⊢
  exact samOk_put pages k (probe q.d pages x) q (nextS q.seed) (nextS_u64 _) (probe_lt (by omega)) (gap_lt hi0 (free_of ih.len (by rw [ih.cnt]; exact hk))).2 ih
theorem samOk (pages : Nat) (seed : Int) (hs : U64 seed) (k : Nat) (hk : k ≤ pages) : SamOk pages k (samF pages seed k) := by
  induction k with
  | zero => exact ⟨hs, List.length_replicate, by simp [samF, trues, List.countP_replicate], rfl, by simp [samF], by simp [samF], by simp [samF]⟩
  | succ k ih => exact samOk_step pages k _ (by omega) (ih (by omega))
end Go.Proofs.Ytclnjjppcdgkiaa
