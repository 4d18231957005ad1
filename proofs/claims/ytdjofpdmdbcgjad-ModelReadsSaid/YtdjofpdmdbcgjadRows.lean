/-
  No cell of these rows narrows 'for every input' (looked for: loops, veiled, ifaces, maps, wideKeys, modest, calm, conditions, laid).
  DERIVED. THE GIVEN ROWS OF THIS SEAT. 5 by the template 'for every input the law returns true; each argument reads behind the call as it read before'; 0 by the template 'total and deterministic' (their statements: YtdjofpdmdbcgjadTotals.lean).
  GIVEN WITH THE SEED: the statements are not yours to turn. If you find one false, say at which input.
  Laid BY PROGRAM, IN A SANDBOX (cutbox-rows.mjs): the forced cells as the released guide's own fill.sh prints them over the translation b69cb201e9c8d0fd… (all of the seat's roots in one cut). By AI agents, Wed Nov 11 2026. No macro, syntax, notation, axiom, sorry.
-/
import Derived.Test.YtdjofpdmdbcgjadChecked
import GoSem.Claim
import GoSem.ClaimJoined
import GoSem.ClaimMapViews
import Derived.JoinedTies
import Derived.KernelRfl
namespace Go.Proofs.Ytdjofpdmdbcgjad
/- THE CELL 'sum', in the pinned program and in every row, IS THE sha256 OF THE DUMP (.gsa) THAT YtdjofpdmdbcgjadProg.lean LOADS. Nothing in Lean hashes anything: it is a label: what it is worth is what the hold of that sum in a sandbox is worth. -/
noncomputable def Try.pinned : Pinned := { name := "ytdjofpdmdbcgjad", sum := "b69cb201e9c8d0fd5b5cc8d47ab45db5199af5f816edef963a0f73832e4ecf7d", checked := Try.checked }
namespace Rows
def none {H : Type} : Left H := { results := [], args := [] }

/-- 'earshotlaw15.ModelFits': WHATEVER THE INPUT: true; the input reads as it did. -/
def modelFitsSpec : ChangeSpec := { name := "modelFits", fn := fun _ => fun
  | [d1, d2, d3] => { results := [.lit (.bool true)], args := [d1, d2, d3] }
  | _ => none }
def modelFitsRow : OpenClaim := { program := "ytdjofpdmdbcgjad", sum := "b69cb201e9c8d0fd5b5cc8d47ab45db5199af5f816edef963a0f73832e4ecf7d", func := "earshot/earshotlaw15.ModelFits", spec := "modelFits", apart := false }
def ModelFitsSaid : Prop := modelFitsRow.holds Try.pinned (OpenSpec.ofChange modelFitsSpec)

/-- ITS FALSE NEIGHBOUR: 'it returns false'. Refute it at one input. -/
def modelFitsWrong : ChangeSpec := { name := "modelFits", fn := fun _ => fun
  | [d1, d2, d3] => { results := [.lit (.bool false)], args := [d1, d2, d3] }
  | _ => none }
def ModelFitsWrongFalsely : Prop := modelFitsRow.holds Try.pinned (OpenSpec.ofChange modelFitsWrong)

/-- 'earshotlaw15.ModelReads': WHATEVER THE INPUT: true; the input reads as it did. -/
def modelReadsSpec : ChangeSpec := { name := "modelReads", fn := fun _ => fun
  | [d1, d2, d3] => { results := [.lit (.bool true)], args := [d1, d2, d3] }
  | _ => none }
def modelReadsRow : OpenClaim := { program := "ytdjofpdmdbcgjad", sum := "b69cb201e9c8d0fd5b5cc8d47ab45db5199af5f816edef963a0f73832e4ecf7d", func := "earshot/earshotlaw15.ModelReads", spec := "modelReads", apart := false }
def ModelReadsSaid : Prop := modelReadsRow.holds Try.pinned (OpenSpec.ofChange modelReadsSpec)

/-- ITS FALSE NEIGHBOUR: 'it returns false'. Refute it at one input. -/
def modelReadsWrong : ChangeSpec := { name := "modelReads", fn := fun _ => fun
  | [d1, d2, d3] => { results := [.lit (.bool false)], args := [d1, d2, d3] }
  | _ => none }
def ModelReadsWrongFalsely : Prop := modelReadsRow.holds Try.pinned (OpenSpec.ofChange modelReadsWrong)

/-- 'earshotlaw15.ModelBack': WHATEVER THE INPUT: true; the input reads as it did. -/
def modelBackSpec : ChangeSpec := { name := "modelBack", fn := fun _ => fun
  | [d] => { results := [.lit (.bool true)], args := [d] }
  | _ => none }
def modelBackRow : OpenClaim := { program := "ytdjofpdmdbcgjad", sum := "b69cb201e9c8d0fd5b5cc8d47ab45db5199af5f816edef963a0f73832e4ecf7d", func := "earshot/earshotlaw15.ModelBack", spec := "modelBack", apart := false }
def ModelBackSaid : Prop := modelBackRow.holds Try.pinned (OpenSpec.ofChange modelBackSpec)

/-- ITS FALSE NEIGHBOUR: 'it returns false'. Refute it at one input. -/
def modelBackWrong : ChangeSpec := { name := "modelBack", fn := fun _ => fun
  | [d] => { results := [.lit (.bool false)], args := [d] }
  | _ => none }
def ModelBackWrongFalsely : Prop := modelBackRow.holds Try.pinned (OpenSpec.ofChange modelBackWrong)

/-- 'earshotlaw15.ModelOnce': WHATEVER THE INPUT: true; the input reads as it did. -/
def modelOnceSpec : ChangeSpec := { name := "modelOnce", fn := fun _ => fun
  | [d1, d2, d3] => { results := [.lit (.bool true)], args := [d1, d2, d3] }
  | _ => none }
def modelOnceRow : OpenClaim := { program := "ytdjofpdmdbcgjad", sum := "b69cb201e9c8d0fd5b5cc8d47ab45db5199af5f816edef963a0f73832e4ecf7d", func := "earshot/earshotlaw15.ModelOnce", spec := "modelOnce", apart := false }
def ModelOnceSaid : Prop := modelOnceRow.holds Try.pinned (OpenSpec.ofChange modelOnceSpec)

/-- ITS FALSE NEIGHBOUR: 'it returns false'. Refute it at one input. -/
def modelOnceWrong : ChangeSpec := { name := "modelOnce", fn := fun _ => fun
  | [d1, d2, d3] => { results := [.lit (.bool false)], args := [d1, d2, d3] }
  | _ => none }
def ModelOnceWrongFalsely : Prop := modelOnceRow.holds Try.pinned (OpenSpec.ofChange modelOnceWrong)

/-- 'earshotlaw15.ModelShort': WHATEVER THE INPUT: true; the input reads as it did. -/
def modelShortSpec : ChangeSpec := { name := "modelShort", fn := fun _ => fun
  | [d1, d2, d3] => { results := [.lit (.bool true)], args := [d1, d2, d3] }
  | _ => none }
def modelShortRow : OpenClaim := { program := "ytdjofpdmdbcgjad", sum := "b69cb201e9c8d0fd5b5cc8d47ab45db5199af5f816edef963a0f73832e4ecf7d", func := "earshot/earshotlaw15.ModelShort", spec := "modelShort", apart := false }
def ModelShortSaid : Prop := modelShortRow.holds Try.pinned (OpenSpec.ofChange modelShortSpec)

/-- ITS FALSE NEIGHBOUR: 'it returns false'. Refute it at one input. -/
def modelShortWrong : ChangeSpec := { name := "modelShort", fn := fun _ => fun
  | [d1, d2, d3] => { results := [.lit (.bool false)], args := [d1, d2, d3] }
  | _ => none }
def ModelShortWrongFalsely : Prop := modelShortRow.holds Try.pinned (OpenSpec.ofChange modelShortWrong)

/- THE SECOND FORM. 'bulk': how many values and letters a reading holds, each counted each time it is reached (what is shared counts as often as it is met; a slice's spare places count too). A statement '..UptoSaid' is the law's where the arguments, and the package variables that the reading takes, are together of bulk at most 1048576: NARROWER than '..Said'. Prove '..Said' where nothing that the law and all that it calls make is longer than what came in: it says more and counts as full. Else prove '..UptoSaid'. A law counts once. -/
mutual
def uptoBulk {H : Type} : DataW H → Nat
  | .lit (.string bytes) => bytes.length + 1
  | .lit _ => 1
  | .nil => 1
  | .ptr d => uptoBulk d + 1
  | .slice elems spare => uptoBulkAll elems + uptoBulkAll spare + 1
  | .agg parts => uptoBulkAll parts + 1
  | .iface _ d => uptoBulk d + 1
  | .map entries => uptoBulkEntries entries + 1
  | .held _ => 1
def uptoBulkAll {H : Type} : List (DataW H) → Nat
  | [] => 0
  | d :: r => uptoBulk d + uptoBulkAll r
def uptoBulkEntries {H : Type} : List (Lit × DataW H) → Nat
  | [] => 0
  | x :: r => uptoBulkEntry x + uptoBulkEntries r
def uptoBulkEntry {H : Type} : Lit × DataW H → Nat
  | (.string bytes, d) => bytes.length + uptoBulk d + 1
  | (_, d) => uptoBulk d + 1
 end
def uptoSmall : (H : Type) → List (DataW H) → Bool := fun _ ds => decide (uptoBulkAll ds ≤ 1048576)
def OpenSpec.upto (s : _root_.Go.ChangeSpec) : _root_.Go.OpenSpec := { _root_.Go.OpenSpec.ofChange s with cond := some uptoSmall }

/-- 'earshotlaw15.ModelFits', WHERE WHAT IT READS IS OF BULK AT MOST 1048576: true; the input reads as it did. -/
def modelFitsUptoRow : OpenClaim := { program := "ytdjofpdmdbcgjad", sum := "b69cb201e9c8d0fd5b5cc8d47ab45db5199af5f816edef963a0f73832e4ecf7d", func := "earshot/earshotlaw15.ModelFits", spec := "modelFits", apart := false, narrowed := true }
def ModelFitsUptoSaid : Prop := modelFitsUptoRow.holds Try.pinned (OpenSpec.upto modelFitsSpec)

/-- 'earshotlaw15.ModelReads', WHERE WHAT IT READS IS OF BULK AT MOST 1048576: true; the input reads as it did. -/
def modelReadsUptoRow : OpenClaim := { program := "ytdjofpdmdbcgjad", sum := "b69cb201e9c8d0fd5b5cc8d47ab45db5199af5f816edef963a0f73832e4ecf7d", func := "earshot/earshotlaw15.ModelReads", spec := "modelReads", apart := false, narrowed := true }
def ModelReadsUptoSaid : Prop := modelReadsUptoRow.holds Try.pinned (OpenSpec.upto modelReadsSpec)

/-- 'earshotlaw15.ModelBack', WHERE WHAT IT READS IS OF BULK AT MOST 1048576: true; the input reads as it did. -/
def modelBackUptoRow : OpenClaim := { program := "ytdjofpdmdbcgjad", sum := "b69cb201e9c8d0fd5b5cc8d47ab45db5199af5f816edef963a0f73832e4ecf7d", func := "earshot/earshotlaw15.ModelBack", spec := "modelBack", apart := false, narrowed := true }
def ModelBackUptoSaid : Prop := modelBackUptoRow.holds Try.pinned (OpenSpec.upto modelBackSpec)

/-- 'earshotlaw15.ModelOnce', WHERE WHAT IT READS IS OF BULK AT MOST 1048576: true; the input reads as it did. -/
def modelOnceUptoRow : OpenClaim := { program := "ytdjofpdmdbcgjad", sum := "b69cb201e9c8d0fd5b5cc8d47ab45db5199af5f816edef963a0f73832e4ecf7d", func := "earshot/earshotlaw15.ModelOnce", spec := "modelOnce", apart := false, narrowed := true }
def ModelOnceUptoSaid : Prop := modelOnceUptoRow.holds Try.pinned (OpenSpec.upto modelOnceSpec)

/-- 'earshotlaw15.ModelShort', WHERE WHAT IT READS IS OF BULK AT MOST 1048576: true; the input reads as it did. -/
def modelShortUptoRow : OpenClaim := { program := "ytdjofpdmdbcgjad", sum := "b69cb201e9c8d0fd5b5cc8d47ab45db5199af5f816edef963a0f73832e4ecf7d", func := "earshot/earshotlaw15.ModelShort", spec := "modelShort", apart := false, narrowed := true }
def ModelShortUptoSaid : Prop := modelShortUptoRow.holds Try.pinned (OpenSpec.upto modelShortSpec)

end Rows
end Go.Proofs.Ytdjofpdmdbcgjad
