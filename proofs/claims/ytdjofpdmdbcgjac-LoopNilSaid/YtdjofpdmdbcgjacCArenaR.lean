/- Contracts: the document's arena; what a script does to arenas. -/
import Derived.Test.YtdjofpdmdbcgjacCArena3
import Derived.Test.YtdjofpdmdbcgjacShArg
namespace Go.Proofs.Ytdjofpdmdbcgjac.G
open Go Go.Sh
set_option linter.unusedVariables false

/-- The document's arena. -/
abbrev rb (b : Nat) (p : Option Addr) (l c : Nat) (err : Int) : Fact := blk b [.slice p l c, .int .i64 err]

section
variable {h0 h : Heap} {T : Nat → Prop} {W R : List Fact} {b l c : Nat} {p : Option Addr} {err : Int} {ws : List Int}

theorem Word_ok (x : Int) : callP P n_ref07_Word #[.int .i64 x] h fun v h' => v = .bool (decide (isW x)) ∧ h' = h := by
  refine call_ref07_Word _ ?_
  unfold ref07_Word
  refine ifB_dec (fun h1 => ⟨?_, rfl⟩) (fun h1 => ⟨?_, rfl⟩)
  · congr 1; rw [decide_eq_decide]; unfold isW; omega
  · congr 1; symm; rw [decide_eq_false_iff_not]; unfold isW; omega

end

/-! what a script does -/
structure Ac where
  k : Int
  i : Int
  x : Int
  far : Bool
  wide : Bool
def Ac.cells (s : Ac) : List Value := [.int .i64 s.k, .int .i64 s.i, .int .i64 s.x, .bool s.far, .bool s.wide]
theorem Ac.cells_length (s : Ac) : s.cells.length = 5 := rfl
abbrev Ac.v (s : Ac) : Value := .agg #[.int .i64 s.k, .int .i64 s.i, .int .i64 s.x, .bool s.far, .bool s.wide]
def Ac.word (s : Ac) : Int := if s.far = true then s.i else IntKind.wrap .i64 (andI .i64 s.i 31 - 2)
def Ac.num (s : Ac) : Int := if s.wide = true then s.x else andI .i64 s.x 2147483647
def Ac.row (s : Ac) (n : Nat) : List Int := (List.range (if s.far = true then n + 1 else n)).map fun i : Nat => IntKind.wrap .i64 (s.num - (i : Int))

theorem acs_of {h : Heap} {n : Nat} : ∀ {xss : List (List Value)}, (∀ xs ∈ xss, Mts h (n + 1) [.int .i64, .int .i64, .int .i64, .bool, .bool] xs) → ∃ its : List Ac, xss = its.map Ac.cells := by
  intro xss he
  obtain ⟨ys, h1, _⟩ := exists_map (f := Ac.cells) (p := fun _ => True) xss fun x hx => by
    obtain ⟨x1, r1, rfl, m1, m⟩ := (he x hx).cons
    obtain ⟨x2, r2, rfl, m2, m⟩ := m.cons
    obtain ⟨x3, r3, rfl, m3, m⟩ := m.cons
    obtain ⟨x4, r4, rfl, m4, m⟩ := m.cons
    obtain ⟨x5, r5, rfl, m5, m⟩ := m.cons
    obtain rfl := m.nil
    obtain ⟨a1, rfl, _⟩ := m1
    obtain ⟨a2, rfl, _⟩ := m2
    obtain ⟨a3, rfl, _⟩ := m3
    obtain ⟨a4, rfl⟩ := m4
    obtain ⟨a5, rfl⟩ := m5
    exact ⟨⟨a1, a2, a3, a4, a5⟩, rfl, trivial⟩
  exact ⟨ys, h1⟩

section
variable {h : Heap}
end

end Go.Proofs.Ytdjofpdmdbcgjac.G
