/-
  No cell of these rows narrows 'for every input' (looked for: loops, veiled, ifaces, maps, wideKeys, modest, calm, conditions, laid).
  DERIVED. THE GIVEN ROWS OF THIS SEAT. 6 by the template 'for every input the law returns true; each argument reads behind the call as it read before'; 0 by the template 'total and deterministic' (their statements: YtoobckjlkopikaaTotals.lean).
  GIVEN WITH THE SEED: the statements are not yours to turn. If you find one false, say at which input.
  Laid BY PROGRAM, IN A SANDBOX (cutbox-rows.mjs): the forced cells as the released guide's own fill.sh prints them over the translation d7c3ba62c5fffbe3… (all of the seat's roots in one cut). By AI agents, Wed Nov 11 2026. No macro, syntax, notation, axiom, sorry.
-/
import Derived.Test.YtoobckjlkopikaaChecked
import GoSem.Claim
import GoSem.ClaimJoined
import GoSem.ClaimMapViews
import Derived.JoinedTies
import Derived.KernelRfl
namespace Go.Proofs.Ytoobckjlkopikaa
/- THE CELL 'sum', in the pinned program and in every row, IS THE sha256 OF THE DUMP (.gsa) THAT YtoobckjlkopikaaProg.lean LOADS. Nothing in Lean hashes anything: it is a label: what it is worth is what the hold of that sum in a sandbox is worth. -/
noncomputable def Try.pinned : Pinned := { name := "ytoobckjlkopikaa", sum := "d7c3ba62c5fffbe3c6f44bfecc2b35b5098fb60732e576c4a6f31902cdf1ad45", checked := Try.checked }
namespace Rows
def none {H : Type} : Left H := { results := [], args := [] }

/-- 'earshotlaw25.WakeTurns': WHATEVER THE INPUT: true; the input reads as it did. -/
def wakeTurnsSpec : ChangeSpec := { name := "wakeTurns", fn := fun _ => fun
  | [d1, d2] => { results := [.lit (.bool true)], args := [d1, d2] }
  | _ => none }
def wakeTurnsRow : OpenClaim := { program := "ytoobckjlkopikaa", sum := "d7c3ba62c5fffbe3c6f44bfecc2b35b5098fb60732e576c4a6f31902cdf1ad45", func := "earshot/earshotlaw25.WakeTurns", spec := "wakeTurns", unfollowed := true, recurses := true, apart := false }
def WakeTurnsSaid : Prop := wakeTurnsRow.holds Try.pinned (OpenSpec.ofChange wakeTurnsSpec)

/-- ITS FALSE NEIGHBOUR: 'it returns false'. Refute it at one input. -/
def wakeTurnsWrong : ChangeSpec := { name := "wakeTurns", fn := fun _ => fun
  | [d1, d2] => { results := [.lit (.bool false)], args := [d1, d2] }
  | _ => none }
def WakeTurnsWrongFalsely : Prop := wakeTurnsRow.holds Try.pinned (OpenSpec.ofChange wakeTurnsWrong)

/-- 'earshotlaw25.WakeBetween': WHATEVER THE INPUT: true; the input reads as it did. -/
def wakeBetweenSpec : ChangeSpec := { name := "wakeBetween", fn := fun _ => fun
  | [d1, d2, d3] => { results := [.lit (.bool true)], args := [d1, d2, d3] }
  | _ => none }
def wakeBetweenRow : OpenClaim := { program := "ytoobckjlkopikaa", sum := "d7c3ba62c5fffbe3c6f44bfecc2b35b5098fb60732e576c4a6f31902cdf1ad45", func := "earshot/earshotlaw25.WakeBetween", spec := "wakeBetween", unfollowed := true, recurses := true, apart := false }
def WakeBetweenSaid : Prop := wakeBetweenRow.holds Try.pinned (OpenSpec.ofChange wakeBetweenSpec)

/-- ITS FALSE NEIGHBOUR: 'it returns false'. Refute it at one input. -/
def wakeBetweenWrong : ChangeSpec := { name := "wakeBetween", fn := fun _ => fun
  | [d1, d2, d3] => { results := [.lit (.bool false)], args := [d1, d2, d3] }
  | _ => none }
def WakeBetweenWrongFalsely : Prop := wakeBetweenRow.holds Try.pinned (OpenSpec.ofChange wakeBetweenWrong)

/-- 'earshotlaw25.WakeCuts': WHATEVER THE INPUT: true; the input reads as it did. -/
def wakeCutsSpec : ChangeSpec := { name := "wakeCuts", fn := fun _ => fun
  | [d1, d2] => { results := [.lit (.bool true)], args := [d1, d2] }
  | _ => none }
def wakeCutsRow : OpenClaim := { program := "ytoobckjlkopikaa", sum := "d7c3ba62c5fffbe3c6f44bfecc2b35b5098fb60732e576c4a6f31902cdf1ad45", func := "earshot/earshotlaw25.WakeCuts", spec := "wakeCuts", unfollowed := true, recurses := true, apart := false }
def WakeCutsSaid : Prop := wakeCutsRow.holds Try.pinned (OpenSpec.ofChange wakeCutsSpec)

/-- ITS FALSE NEIGHBOUR: 'it returns false'. Refute it at one input. -/
def wakeCutsWrong : ChangeSpec := { name := "wakeCuts", fn := fun _ => fun
  | [d1, d2] => { results := [.lit (.bool false)], args := [d1, d2] }
  | _ => none }
def WakeCutsWrongFalsely : Prop := wakeCutsRow.holds Try.pinned (OpenSpec.ofChange wakeCutsWrong)

/-- 'earshotlaw25.WakeTells': WHATEVER THE INPUT: true; the input reads as it did. -/
def wakeTellsSpec : ChangeSpec := { name := "wakeTells", fn := fun _ => fun
  | [d1, d2, d3] => { results := [.lit (.bool true)], args := [d1, d2, d3] }
  | _ => none }
def wakeTellsRow : OpenClaim := { program := "ytoobckjlkopikaa", sum := "d7c3ba62c5fffbe3c6f44bfecc2b35b5098fb60732e576c4a6f31902cdf1ad45", func := "earshot/earshotlaw25.WakeTells", spec := "wakeTells", unfollowed := true, recurses := true, apart := false }
def WakeTellsSaid : Prop := wakeTellsRow.holds Try.pinned (OpenSpec.ofChange wakeTellsSpec)

/-- ITS FALSE NEIGHBOUR: 'it returns false'. Refute it at one input. -/
def wakeTellsWrong : ChangeSpec := { name := "wakeTells", fn := fun _ => fun
  | [d1, d2, d3] => { results := [.lit (.bool false)], args := [d1, d2, d3] }
  | _ => none }
def WakeTellsWrongFalsely : Prop := wakeTellsRow.holds Try.pinned (OpenSpec.ofChange wakeTellsWrong)

/-- 'earshotlaw25.WakeMoves': WHATEVER THE INPUT: true; the input reads as it did. -/
def wakeMovesSpec : ChangeSpec := { name := "wakeMoves", fn := fun _ => fun
  | [d1, d2, d3] => { results := [.lit (.bool true)], args := [d1, d2, d3] }
  | _ => none }
def wakeMovesRow : OpenClaim := { program := "ytoobckjlkopikaa", sum := "d7c3ba62c5fffbe3c6f44bfecc2b35b5098fb60732e576c4a6f31902cdf1ad45", func := "earshot/earshotlaw25.WakeMoves", spec := "wakeMoves", unfollowed := true, recurses := true, apart := false }
def WakeMovesSaid : Prop := wakeMovesRow.holds Try.pinned (OpenSpec.ofChange wakeMovesSpec)

/-- ITS FALSE NEIGHBOUR: 'it returns false'. Refute it at one input. -/
def wakeMovesWrong : ChangeSpec := { name := "wakeMoves", fn := fun _ => fun
  | [d1, d2, d3] => { results := [.lit (.bool false)], args := [d1, d2, d3] }
  | _ => none }
def WakeMovesWrongFalsely : Prop := wakeMovesRow.holds Try.pinned (OpenSpec.ofChange wakeMovesWrong)

/-- 'earshotlaw25.WakeNil': WHATEVER THE INPUT: true; the input reads as it did. -/
def wakeNilSpec : ChangeSpec := { name := "wakeNil", fn := fun _ => fun
  | [d1, d2] => { results := [.lit (.bool true)], args := [d1, d2] }
  | _ => none }
def wakeNilRow : OpenClaim := { program := "ytoobckjlkopikaa", sum := "d7c3ba62c5fffbe3c6f44bfecc2b35b5098fb60732e576c4a6f31902cdf1ad45", func := "earshot/earshotlaw25.WakeNil", spec := "wakeNil", unfollowed := true, recurses := true, apart := false }
def WakeNilSaid : Prop := wakeNilRow.holds Try.pinned (OpenSpec.ofChange wakeNilSpec)

/-- ITS FALSE NEIGHBOUR: 'it returns false'. Refute it at one input. -/
def wakeNilWrong : ChangeSpec := { name := "wakeNil", fn := fun _ => fun
  | [d1, d2] => { results := [.lit (.bool false)], args := [d1, d2] }
  | _ => none }
def WakeNilWrongFalsely : Prop := wakeNilRow.holds Try.pinned (OpenSpec.ofChange wakeNilWrong)

/- THE SECOND FORM. 'bulk': how many values and letters a reading holds, each counted each time it is reached (what is shared counts as often as it is met; a slice's spare places count too). A statement '..UptoSaid' is the law's where the arguments, and the package variables that the reading takes, are together of bulk at most 1048576: NARROWER than '..Said'. Prove '..Said' where nothing that the law and all that it calls make is longer than what came in: it says more and counts as full. Else prove '..UptoSaid'. A law counts once. -/
mutual
def uptoBulk {H : Type} : DataW H → Nat
  | .lit (.string bytes) => bytes.length + 1
  | .lit _ => 1
  | .nil => 1
  | .ptr d => uptoBulk d + 1
  | .slice elems spare => uptoBulkAll elems + uptoBulkAll spare + 1
  | .agg parts => uptoBulkAll parts + 1
  | .iface _ d => uptoBulk d + 1
  | .map entries => uptoBulkEntries entries + 1
  | .held _ => 1
def uptoBulkAll {H : Type} : List (DataW H) → Nat
  | [] => 0
  | d :: r => uptoBulk d + uptoBulkAll r
def uptoBulkEntries {H : Type} : List (Lit × DataW H) → Nat
  | [] => 0
  | x :: r => uptoBulkEntry x + uptoBulkEntries r
def uptoBulkEntry {H : Type} : Lit × DataW H → Nat
  | (.string bytes, d) => bytes.length + uptoBulk d + 1
  | (_, d) => uptoBulk d + 1
 end
def uptoSmall : (H : Type) → List (DataW H) → Bool := fun _ ds => decide (uptoBulkAll ds ≤ 1048576)
def OpenSpec.upto (s : _root_.Go.ChangeSpec) : _root_.Go.OpenSpec := { _root_.Go.OpenSpec.ofChange s with cond := some uptoSmall }

/-- 'earshotlaw25.WakeTurns', WHERE WHAT IT READS IS OF BULK AT MOST 1048576: true; the input reads as it did. -/
def wakeTurnsUptoRow : OpenClaim := { program := "ytoobckjlkopikaa", sum := "d7c3ba62c5fffbe3c6f44bfecc2b35b5098fb60732e576c4a6f31902cdf1ad45", func := "earshot/earshotlaw25.WakeTurns", spec := "wakeTurns", unfollowed := true, recurses := true, apart := false, narrowed := true }
def WakeTurnsUptoSaid : Prop := wakeTurnsUptoRow.holds Try.pinned (OpenSpec.upto wakeTurnsSpec)

/-- 'earshotlaw25.WakeBetween', WHERE WHAT IT READS IS OF BULK AT MOST 1048576: true; the input reads as it did. -/
def wakeBetweenUptoRow : OpenClaim := { program := "ytoobckjlkopikaa", sum := "d7c3ba62c5fffbe3c6f44bfecc2b35b5098fb60732e576c4a6f31902cdf1ad45", func := "earshot/earshotlaw25.WakeBetween", spec := "wakeBetween", unfollowed := true, recurses := true, apart := false, narrowed := true }
def WakeBetweenUptoSaid : Prop := wakeBetweenUptoRow.holds Try.pinned (OpenSpec.upto wakeBetweenSpec)

/-- 'earshotlaw25.WakeCuts', WHERE WHAT IT READS IS OF BULK AT MOST 1048576: true; the input reads as it did. -/
def wakeCutsUptoRow : OpenClaim := { program := "ytoobckjlkopikaa", sum := "d7c3ba62c5fffbe3c6f44bfecc2b35b5098fb60732e576c4a6f31902cdf1ad45", func := "earshot/earshotlaw25.WakeCuts", spec := "wakeCuts", unfollowed := true, recurses := true, apart := false, narrowed := true }
def WakeCutsUptoSaid : Prop := wakeCutsUptoRow.holds Try.pinned (OpenSpec.upto wakeCutsSpec)

/-- 'earshotlaw25.WakeTells', WHERE WHAT IT READS IS OF BULK AT MOST 1048576: true; the input reads as it did. -/
def wakeTellsUptoRow : OpenClaim := { program := "ytoobckjlkopikaa", sum := "d7c3ba62c5fffbe3c6f44bfecc2b35b5098fb60732e576c4a6f31902cdf1ad45", func := "earshot/earshotlaw25.WakeTells", spec := "wakeTells", unfollowed := true, recurses := true, apart := false, narrowed := true }
def WakeTellsUptoSaid : Prop := wakeTellsUptoRow.holds Try.pinned (OpenSpec.upto wakeTellsSpec)

/-- 'earshotlaw25.WakeMoves', WHERE WHAT IT READS IS OF BULK AT MOST 1048576: true; the input reads as it did. -/
def wakeMovesUptoRow : OpenClaim := { program := "ytoobckjlkopikaa", sum := "d7c3ba62c5fffbe3c6f44bfecc2b35b5098fb60732e576c4a6f31902cdf1ad45", func := "earshot/earshotlaw25.WakeMoves", spec := "wakeMoves", unfollowed := true, recurses := true, apart := false, narrowed := true }
def WakeMovesUptoSaid : Prop := wakeMovesUptoRow.holds Try.pinned (OpenSpec.upto wakeMovesSpec)

/-- 'earshotlaw25.WakeNil', WHERE WHAT IT READS IS OF BULK AT MOST 1048576: true; the input reads as it did. -/
def wakeNilUptoRow : OpenClaim := { program := "ytoobckjlkopikaa", sum := "d7c3ba62c5fffbe3c6f44bfecc2b35b5098fb60732e576c4a6f31902cdf1ad45", func := "earshot/earshotlaw25.WakeNil", spec := "wakeNil", unfollowed := true, recurses := true, apart := false, narrowed := true }
def WakeNilUptoSaid : Prop := wakeNilUptoRow.holds Try.pinned (OpenSpec.upto wakeNilSpec)

end Rows
end Go.Proofs.Ytoobckjlkopikaa
