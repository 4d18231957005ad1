/- A script, as the law is handed it. -/
import Derived.Test.YtdjofpdmdbcgjabLTapeWrites
import Derived.Test.YtdjofpdmdbcgjabShArg
namespace Go.Proofs.Ytdjofpdmdbcgjab.G
open Go Go.Sh
set_option linter.unusedVariables false

theorem item_of {h : Heap} {n : Nat} {xs : List Value} (m : Mts h (n + 2) [.int .i64, .int .i64, .sl [.int .i64]] xs) : ∃ q : It, xs = q.cells ∧ q.ok ∧ q.row.P h := by
  obtain ⟨x0, r0, rfl, m0, hm⟩ := m.cons
  obtain ⟨x1, r1, rfl, m1, hm⟩ := hm.cons
  obtain ⟨x2, r2, rfl, m2, hm⟩ := hm.cons
  obtain rfl := hm.nil
  obtain ⟨k, rfl, w0⟩ := m0
  obtain ⟨v, rfl, w1⟩ := m1
  obtain ⟨p, l, c, xss, rfl, hl, hlc, hc, hr, he⟩ := m2
  obtain ⟨ys, h1, h2, h3⟩ := ints_of xss he
  rw [h1] at hr
  exact ⟨⟨k, v, p, l, c, ys⟩, rfl, ⟨by simp only; omega, hlc, wf64 w0, wf64 w1, h3⟩, hr⟩

theorem script_of {h : Heap} {n : Nat} {p : Option Addr} {xss : List (List Value)} (r : Row h p xss.flatten) (he : ∀ xs ∈ xss, Mts h (n + 2) [.int .i64, .int .i64, .sl [.int .i64]] xs) : ∃ its : List It, Script h p its ∧ its.length = xss.length := by
  obtain ⟨its, rfl, hi⟩ := exists_map (f := It.cells) (p := fun q => q.ok ∧ q.row.P h) xss fun xs hx => item_of (he xs hx)
  exact ⟨its, ⟨r, hi⟩, by simp⟩

end Go.Proofs.Ytdjofpdmdbcgjab.G
