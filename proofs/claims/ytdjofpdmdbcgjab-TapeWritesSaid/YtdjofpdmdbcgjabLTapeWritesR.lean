/- The law TapeWrites, as it is handed its script. -/
import Derived.Test.YtdjofpdmdbcgjabCTapeA
namespace Go.Proofs.Ytdjofpdmdbcgjab.G
open Go Go.Sh

theorem TapeWrites_row {h : Heap} {n : Nat} {p : Option Addr} {l c : Nat} {xss : List (List Value)} (r : Row h p xss.flatten) (he : ∀ xs ∈ xss, Mts h (n + 2) [.int .i64, .int .i64, .sl [.int .i64]] xs) (hl : xss.length = l) (hc : l ≤ c) (hm : c ≤ maxLen) :
    callP P n_law06_TapeWrites #[.slice p l c] h fun v h' => v = .bool true ∧ Fra no h h' := by
  obtain ⟨its, hs, hi⟩ := script_of r he
  exact TapeWrites_ok hs (by omega) (by have := maxLen_lt; omega)

end Go.Proofs.Ytdjofpdmdbcgjab.G
