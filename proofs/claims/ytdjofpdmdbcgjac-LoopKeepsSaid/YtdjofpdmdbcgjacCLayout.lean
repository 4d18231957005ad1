/- Contracts: arena.Layout, earshotref07.up, earshotref07.Layout. -/
import Derived.Test.YtdjofpdmdbcgjacCSame
namespace Go.Proofs.Ytdjofpdmdbcgjac.G
open Go Go.Sh
set_option linter.unusedVariables false

/-- Where things of these sizes lie, from e on; none: they do not fit. -/
def lay : List Int → Int → Option (List Int × Int)
  | [], e => some ([], e)
  | n :: r, e => if n > 4096 - e then none else (lay r ((e + n + 3) / 4 * 4)).map fun x => (e :: x.1, x.2)

def layout (xs : List Int) : List Int × Int × Int :=
  if ∃ n ∈ xs, n < 0 then ([], 0, 1) else match lay xs 0 with
    | none => ([], 0, 17)
    | some x => (x.1, x.2, 0)

theorem lay_step {xs : List Int} {i : Nat} {e : Int} {acc : List Int} (hi : i < xs.length) (h : lay xs 0 = (lay (xs.drop i) e).map fun x => (acc ++ x.1, x.2)) :
    (xs[i] > 4096 - e → lay xs 0 = none) ∧ (¬ xs[i] > 4096 - e → lay xs 0 = (lay (xs.drop (i + 1)) ((e + xs[i] + 3) / 4 * 4)).map fun x => ((acc ++ [e]) ++ x.1, x.2)) := by
  rw [List.drop_eq_getElem_cons hi] at h
  simp only [lay] at h
  constructor
  · intro hg; rw [if_pos hg] at h; exact h
  · intro hg; rw [if_neg hg] at h; rw [h]; cases lay (List.drop (i + 1) xs) ((e + xs[i] + 3) / 4 * 4) <;> simp

theorem layout_neg {xs : List Int} {i : Nat} (hi : i < xs.length) (h : xs[i] < 0) : layout xs = ([], 0, 1) := by
  unfold layout; rw [if_pos ⟨_, List.getElem_mem hi, h⟩]
theorem layout_none {xs : List Int} (hn : ∀ n ∈ xs, 0 ≤ n) (h : lay xs 0 = none) : layout xs = ([], 0, 17) := by
  unfold layout; rw [if_neg (by rintro ⟨n, hm, hl⟩; have := hn n hm; omega), h]
theorem layout_some {xs : List Int} {x : List Int × Int} (hn : ∀ n ∈ xs, 0 ≤ n) (h : lay xs 0 = some x) : layout xs = (x.1, x.2, 0) := by
  unfold layout; rw [if_neg (by rintro ⟨n, hm, hl⟩; have := hn n hm; omega), h]

theorem all_of_take {xs : List Int} {p : Int → Prop} (h : ∀ j (hj : j < xs.length), p xs[j]) : ∀ n ∈ xs, p n := by
  intro n hn
  obtain ⟨j, hj, rfl⟩ := List.getElem_of_mem hn
  exact h j hj

theorem ints_append (a b : List Int) : ints a ++ ints b = ints (a ++ b) := by simp [ints]
theorem ints_one {xs : List Int} : ∀ y ∈ ints xs, one1 y = true := by
  intro y hy; simp only [ints, List.mem_map] at hy; obtain ⟨n, _, rfl⟩ := hy; rfl

/-- What Layout tells, in memory. -/
def LayoutPost (xs : List Int) (h : Heap) (v : Value) (h' : Heap) : Prop :=
  ∃ p l c, v = .tuple #[.slice p l c, .int .i64 (layout xs).2.1, .int .i64 (layout xs).2.2] ∧ Own h' h.size 1 p l c (ints (layout xs).1) ∧ Fra no h h'

/-- What the document's Layout tells, in memory. -/
def RLayoutPost (xs : List Int) (h : Heap) (v : Value) (h' : Heap) : Prop :=
  ∃ p l c, v = .agg #[.slice p l c, .int .i64 (layout xs).2.1, .int .i64 (layout xs).2.2] ∧ Own h' h.size 1 p l c (ints (layout xs).1) ∧ Fra no h h'

end Go.Proofs.Ytdjofpdmdbcgjac.G
