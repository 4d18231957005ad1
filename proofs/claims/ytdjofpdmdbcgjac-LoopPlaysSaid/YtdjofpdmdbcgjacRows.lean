/-
  No cell of these rows narrows 'for every input' (looked for: loops, veiled, ifaces, maps, wideKeys, modest, calm, conditions, laid).
  DERIVED. THE GIVEN ROWS OF THIS SEAT. 5 by the template 'for every input the law returns true; each argument reads behind the call as it read before'; 0 by the template 'total and deterministic' (their statements: YtdjofpdmdbcgjacTotals.lean).
  GIVEN WITH THE SEED: the statements are not yours to turn. If you find one false, say at which input.
  Laid BY PROGRAM, IN A SANDBOX (cutbox-rows.mjs): the forced cells as the released guide's own fill.sh prints them over the translation 4bd08c689e5e4fe2… (all of the seat's roots in one cut). By AI agents, Wed Nov 11 2026. No macro, syntax, notation, axiom, sorry.
-/
import Derived.Test.YtdjofpdmdbcgjacChecked
import GoSem.Claim
import GoSem.ClaimJoined
import GoSem.ClaimMapViews
import Derived.JoinedTies
import Derived.KernelRfl
namespace Go.Proofs.Ytdjofpdmdbcgjac
/- THE CELL 'sum', in the pinned program and in every row, IS THE sha256 OF THE DUMP (.gsa) THAT YtdjofpdmdbcgjacProg.lean LOADS. Nothing in Lean hashes anything: it is a label: what it is worth is what the hold of that sum in a sandbox is worth. -/
noncomputable def Try.pinned : Pinned := { name := "ytdjofpdmdbcgjac", sum := "4bd08c689e5e4fe21cf61b3ff4f61987436683f8cd71583d46fdf3a81ab26110", checked := Try.checked }
namespace Rows
def none {H : Type} : Left H := { results := [], args := [] }

/-- 'earshotlaw08.LoopKeeps': WHATEVER THE INPUT: true; the input reads as it did. -/
def loopKeepsSpec : ChangeSpec := { name := "loopKeeps", fn := fun _ => fun
  | [d1, d2, d3] => { results := [.lit (.bool true)], args := [d1, d2, d3] }
  | _ => none }
def loopKeepsRow : OpenClaim := { program := "ytdjofpdmdbcgjac", sum := "4bd08c689e5e4fe21cf61b3ff4f61987436683f8cd71583d46fdf3a81ab26110", func := "earshot/earshotlaw08.LoopKeeps", spec := "loopKeeps", apart := false }
def LoopKeepsSaid : Prop := loopKeepsRow.holds Try.pinned (OpenSpec.ofChange loopKeepsSpec)

/-- ITS FALSE NEIGHBOUR: 'it returns false'. Refute it at one input. -/
def loopKeepsWrong : ChangeSpec := { name := "loopKeeps", fn := fun _ => fun
  | [d1, d2, d3] => { results := [.lit (.bool false)], args := [d1, d2, d3] }
  | _ => none }
def LoopKeepsWrongFalsely : Prop := loopKeepsRow.holds Try.pinned (OpenSpec.ofChange loopKeepsWrong)

/-- 'earshotlaw08.LoopApart': WHATEVER THE INPUT: true; the input reads as it did. -/
def loopApartSpec : ChangeSpec := { name := "loopApart", fn := fun _ => fun
  | [d1, d2] => { results := [.lit (.bool true)], args := [d1, d2] }
  | _ => none }
def loopApartRow : OpenClaim := { program := "ytdjofpdmdbcgjac", sum := "4bd08c689e5e4fe21cf61b3ff4f61987436683f8cd71583d46fdf3a81ab26110", func := "earshot/earshotlaw08.LoopApart", spec := "loopApart", apart := false }
def LoopApartSaid : Prop := loopApartRow.holds Try.pinned (OpenSpec.ofChange loopApartSpec)

/-- ITS FALSE NEIGHBOUR: 'it returns false'. Refute it at one input. -/
def loopApartWrong : ChangeSpec := { name := "loopApart", fn := fun _ => fun
  | [d1, d2] => { results := [.lit (.bool false)], args := [d1, d2] }
  | _ => none }
def LoopApartWrongFalsely : Prop := loopApartRow.holds Try.pinned (OpenSpec.ofChange loopApartWrong)

/-- 'earshotlaw08.LoopNil': WHATEVER THE INPUT: true; the input reads as it did. -/
def loopNilSpec : ChangeSpec := { name := "loopNil", fn := fun _ => fun
  | [d1, d2, d3] => { results := [.lit (.bool true)], args := [d1, d2, d3] }
  | _ => none }
def loopNilRow : OpenClaim := { program := "ytdjofpdmdbcgjac", sum := "4bd08c689e5e4fe21cf61b3ff4f61987436683f8cd71583d46fdf3a81ab26110", func := "earshot/earshotlaw08.LoopNil", spec := "loopNil", apart := false }
def LoopNilSaid : Prop := loopNilRow.holds Try.pinned (OpenSpec.ofChange loopNilSpec)

/-- ITS FALSE NEIGHBOUR: 'it returns false'. Refute it at one input. -/
def loopNilWrong : ChangeSpec := { name := "loopNil", fn := fun _ => fun
  | [d1, d2, d3] => { results := [.lit (.bool false)], args := [d1, d2, d3] }
  | _ => none }
def LoopNilWrongFalsely : Prop := loopNilRow.holds Try.pinned (OpenSpec.ofChange loopNilWrong)

/-- 'earshotlaw08.LoopPlays': WHATEVER THE INPUT: true; the input reads as it did. -/
def loopPlaysSpec : ChangeSpec := { name := "loopPlays", fn := fun _ => fun
  | [d1, d2, d3] => { results := [.lit (.bool true)], args := [d1, d2, d3] }
  | _ => none }
def loopPlaysRow : OpenClaim := { program := "ytdjofpdmdbcgjac", sum := "4bd08c689e5e4fe21cf61b3ff4f61987436683f8cd71583d46fdf3a81ab26110", func := "earshot/earshotlaw08.LoopPlays", spec := "loopPlays", apart := false }
def LoopPlaysSaid : Prop := loopPlaysRow.holds Try.pinned (OpenSpec.ofChange loopPlaysSpec)

/-- ITS FALSE NEIGHBOUR: 'it returns false'. Refute it at one input. -/
def loopPlaysWrong : ChangeSpec := { name := "loopPlays", fn := fun _ => fun
  | [d1, d2, d3] => { results := [.lit (.bool false)], args := [d1, d2, d3] }
  | _ => none }
def LoopPlaysWrongFalsely : Prop := loopPlaysRow.holds Try.pinned (OpenSpec.ofChange loopPlaysWrong)

/-- 'earshotlaw08.LoopMoves': WHATEVER THE INPUT: true; the input reads as it did. -/
def loopMovesSpec : ChangeSpec := { name := "loopMoves", fn := fun _ => fun
  | [d1, d2, d3] => { results := [.lit (.bool true)], args := [d1, d2, d3] }
  | _ => none }
def loopMovesRow : OpenClaim := { program := "ytdjofpdmdbcgjac", sum := "4bd08c689e5e4fe21cf61b3ff4f61987436683f8cd71583d46fdf3a81ab26110", func := "earshot/earshotlaw08.LoopMoves", spec := "loopMoves", unfollowed := true, recurses := true, apart := false }
def LoopMovesSaid : Prop := loopMovesRow.holds Try.pinned (OpenSpec.ofChange loopMovesSpec)

/-- ITS FALSE NEIGHBOUR: 'it returns false'. Refute it at one input. -/
def loopMovesWrong : ChangeSpec := { name := "loopMoves", fn := fun _ => fun
  | [d1, d2, d3] => { results := [.lit (.bool false)], args := [d1, d2, d3] }
  | _ => none }
def LoopMovesWrongFalsely : Prop := loopMovesRow.holds Try.pinned (OpenSpec.ofChange loopMovesWrong)

/- THE SECOND FORM. 'bulk': how many values and letters a reading holds, each counted each time it is reached (what is shared counts as often as it is met; a slice's spare places count too). A statement '..UptoSaid' is the law's where the arguments, and the package variables that the reading takes, are together of bulk at most 1048576: NARROWER than '..Said'. Prove '..Said' where nothing that the law and all that it calls make is longer than what came in: it says more and counts as full. Else prove '..UptoSaid'. A law counts once. -/
mutual
def uptoBulk {H : Type} : DataW H → Nat
  | .lit (.string bytes) => bytes.length + 1
  | .lit _ => 1
  | .nil => 1
  | .ptr d => uptoBulk d + 1
  | .slice elems spare => uptoBulkAll elems + uptoBulkAll spare + 1
  | .agg parts => uptoBulkAll parts + 1
  | .iface _ d => uptoBulk d + 1
  | .map entries => uptoBulkEntries entries + 1
  | .held _ => 1
def uptoBulkAll {H : Type} : List (DataW H) → Nat
  | [] => 0
  | d :: r => uptoBulk d + uptoBulkAll r
def uptoBulkEntries {H : Type} : List (Lit × DataW H) → Nat
  | [] => 0
  | x :: r => uptoBulkEntry x + uptoBulkEntries r
def uptoBulkEntry {H : Type} : Lit × DataW H → Nat
  | (.string bytes, d) => bytes.length + uptoBulk d + 1
  | (_, d) => uptoBulk d + 1
 end
def uptoSmall : (H : Type) → List (DataW H) → Bool := fun _ ds => decide (uptoBulkAll ds ≤ 1048576)
def OpenSpec.upto (s : _root_.Go.ChangeSpec) : _root_.Go.OpenSpec := { _root_.Go.OpenSpec.ofChange s with cond := some uptoSmall }

/-- 'earshotlaw08.LoopKeeps', WHERE WHAT IT READS IS OF BULK AT MOST 1048576: true; the input reads as it did. -/
def loopKeepsUptoRow : OpenClaim := { program := "ytdjofpdmdbcgjac", sum := "4bd08c689e5e4fe21cf61b3ff4f61987436683f8cd71583d46fdf3a81ab26110", func := "earshot/earshotlaw08.LoopKeeps", spec := "loopKeeps", apart := false, narrowed := true }
def LoopKeepsUptoSaid : Prop := loopKeepsUptoRow.holds Try.pinned (OpenSpec.upto loopKeepsSpec)

/-- 'earshotlaw08.LoopApart', WHERE WHAT IT READS IS OF BULK AT MOST 1048576: true; the input reads as it did. -/
def loopApartUptoRow : OpenClaim := { program := "ytdjofpdmdbcgjac", sum := "4bd08c689e5e4fe21cf61b3ff4f61987436683f8cd71583d46fdf3a81ab26110", func := "earshot/earshotlaw08.LoopApart", spec := "loopApart", apart := false, narrowed := true }
def LoopApartUptoSaid : Prop := loopApartUptoRow.holds Try.pinned (OpenSpec.upto loopApartSpec)

/-- 'earshotlaw08.LoopNil', WHERE WHAT IT READS IS OF BULK AT MOST 1048576: true; the input reads as it did. -/
def loopNilUptoRow : OpenClaim := { program := "ytdjofpdmdbcgjac", sum := "4bd08c689e5e4fe21cf61b3ff4f61987436683f8cd71583d46fdf3a81ab26110", func := "earshot/earshotlaw08.LoopNil", spec := "loopNil", apart := false, narrowed := true }
def LoopNilUptoSaid : Prop := loopNilUptoRow.holds Try.pinned (OpenSpec.upto loopNilSpec)

/-- 'earshotlaw08.LoopPlays', WHERE WHAT IT READS IS OF BULK AT MOST 1048576: true; the input reads as it did. -/
def loopPlaysUptoRow : OpenClaim := { program := "ytdjofpdmdbcgjac", sum := "4bd08c689e5e4fe21cf61b3ff4f61987436683f8cd71583d46fdf3a81ab26110", func := "earshot/earshotlaw08.LoopPlays", spec := "loopPlays", apart := false, narrowed := true }
def LoopPlaysUptoSaid : Prop := loopPlaysUptoRow.holds Try.pinned (OpenSpec.upto loopPlaysSpec)

/-- 'earshotlaw08.LoopMoves', WHERE WHAT IT READS IS OF BULK AT MOST 1048576: true; the input reads as it did. -/
def loopMovesUptoRow : OpenClaim := { program := "ytdjofpdmdbcgjac", sum := "4bd08c689e5e4fe21cf61b3ff4f61987436683f8cd71583d46fdf3a81ab26110", func := "earshot/earshotlaw08.LoopMoves", spec := "loopMoves", unfollowed := true, recurses := true, apart := false, narrowed := true }
def LoopMovesUptoSaid : Prop := loopMovesUptoRow.holds Try.pinned (OpenSpec.upto loopMovesSpec)

end Rows
end Go.Proofs.Ytdjofpdmdbcgjac
