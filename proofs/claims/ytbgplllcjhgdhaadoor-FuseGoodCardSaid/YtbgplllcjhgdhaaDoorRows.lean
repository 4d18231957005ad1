/-
  NARROWER THAN 'FOR EVERY INPUT', by the rows' own cells (each row's printed sentence says how): FuseRow: laid · FuseTells: laid · FuseGood: laid · FuseLive: laid.
  DERIVED. THE GIVEN ROWS OF THIS SEAT. 4 by the template 'for every input the law returns true; each argument reads behind the call as it read before'; 0 by the template 'total and deterministic' (their statements: YtbgplllcjhgdhaaDoorTotals.lean).
  GIVEN WITH THE SEED: the statements are not yours to turn. If you find one false, say at which input.
  Laid BY PROGRAM, IN A SANDBOX (cutbox-rows.mjs): the forced cells as the released guide's own fill.sh prints them over the translation 46dcbafb558bb946… (all of the seat's roots in one cut). By AI agents, Wed Nov 11 2026. No macro, syntax, notation, axiom, sorry.
-/
import Derived.Test.YtbgplllcjhgdhaaDoorChecked
import GoSem.Claim
import GoSem.ClaimJoined
import GoSem.ClaimMapViews
import Derived.JoinedTies
import Derived.KernelRfl
namespace Go.Proofs.YtbgplllcjhgdhaaDoor
/- THE CELL 'sum', in the pinned program and in every row, IS THE sha256 OF THE DUMP (.gsa) THAT YtbgplllcjhgdhaaDoorProg.lean LOADS. Nothing in Lean hashes anything: it is a label: what it is worth is what the hold of that sum in a sandbox is worth. -/
noncomputable def Tryd.pinned : Pinned := { name := "ytbgplllcjhgdhaadoor", sum := "46dcbafb558bb9469894bc6301a767fb52878cbead9c16689629df51bfb84275", checked := Tryd.checked }
namespace Rows
def none {H : Type} : Left H := { results := [], args := [] }

/- WHAT THE LISTED PACKAGE-LEVEL VARIABLES READ AS WHEN THE CALL BEGINS. Each datum BY PROGRAM (the guide's laid-datum.mjs) off the statement by which the dump's own 'gosem.cut.vars' lays the variable. In a bare row this is a premise. The card (YtbgplllcjhgdhaaDoorCards.lean) ties it to the program's text. -/
def laid_earshot_kind_kinds {H : Type} : DataW H := .agg [.lit (.int .i64 0), .lit (.int .i64 7), .lit (.int .i64 5), .lit (.int .i64 1), .lit (.int .i64 1), .lit (.int .i64 0), .lit (.int .i64 6), .lit (.int .i64 8), .lit (.int .i64 8), .lit (.int .i64 32), .lit (.int .i64 64), .lit (.int .i64 0), .lit (.int .i64 16)]

/-- 'earshotlaw21.FuseRow': WHATEVER THE INPUT: true; the input reads as it did. -/
def fuseRowSpec : ChangeSpec := { name := "fuseRow", fn := fun _ => fun
  | [d1, d2] => { results := [.lit (.bool true)], args := [d1, d2] }
  | _ => none }
def fuseRowRow : OpenClaim := { program := "ytbgplllcjhgdhaadoor", sum := "46dcbafb558bb9469894bc6301a767fb52878cbead9c16689629df51bfb84275", func := "earshot/earshotlaw21.FuseRow", spec := "fuseRow", unfollowed := true, recurses := true, named := ["earshot/kind.kinds"], apart := false, laid := [("earshot/kind.kinds", laid_earshot_kind_kinds)] }
def FuseRowSaid : Prop := fuseRowRow.holds Tryd.pinned (OpenSpec.ofChange fuseRowSpec)

/-- ITS FALSE NEIGHBOUR: 'it returns false'. Refute it at one input. -/
def fuseRowWrong : ChangeSpec := { name := "fuseRow", fn := fun _ => fun
  | [d1, d2] => { results := [.lit (.bool false)], args := [d1, d2] }
  | _ => none }
def FuseRowWrongFalsely : Prop := fuseRowRow.holds Tryd.pinned (OpenSpec.ofChange fuseRowWrong)

/-- 'earshotlaw21.FuseTells': WHATEVER THE INPUT: true; the input reads as it did. -/
def fuseTellsSpec : ChangeSpec := { name := "fuseTells", fn := fun _ => fun
  | [d1, d2, d3] => { results := [.lit (.bool true)], args := [d1, d2, d3] }
  | _ => none }
def fuseTellsRow : OpenClaim := { program := "ytbgplllcjhgdhaadoor", sum := "46dcbafb558bb9469894bc6301a767fb52878cbead9c16689629df51bfb84275", func := "earshot/earshotlaw21.FuseTells", spec := "fuseTells", unfollowed := true, recurses := true, named := ["earshot/kind.kinds"], apart := false, laid := [("earshot/kind.kinds", laid_earshot_kind_kinds)] }
def FuseTellsSaid : Prop := fuseTellsRow.holds Tryd.pinned (OpenSpec.ofChange fuseTellsSpec)

/-- ITS FALSE NEIGHBOUR: 'it returns false'. Refute it at one input. -/
def fuseTellsWrong : ChangeSpec := { name := "fuseTells", fn := fun _ => fun
  | [d1, d2, d3] => { results := [.lit (.bool false)], args := [d1, d2, d3] }
  | _ => none }
def FuseTellsWrongFalsely : Prop := fuseTellsRow.holds Tryd.pinned (OpenSpec.ofChange fuseTellsWrong)

/-- 'earshotlaw21.FuseGood': WHATEVER THE INPUT: true; the input reads as it did. -/
def fuseGoodSpec : ChangeSpec := { name := "fuseGood", fn := fun _ => fun
  | [d1, d2] => { results := [.lit (.bool true)], args := [d1, d2] }
  | _ => none }
def fuseGoodRow : OpenClaim := { program := "ytbgplllcjhgdhaadoor", sum := "46dcbafb558bb9469894bc6301a767fb52878cbead9c16689629df51bfb84275", func := "earshot/earshotlaw21.FuseGood", spec := "fuseGood", unfollowed := true, recurses := true, named := ["earshot/kind.kinds"], apart := false, laid := [("earshot/kind.kinds", laid_earshot_kind_kinds)] }
def FuseGoodSaid : Prop := fuseGoodRow.holds Tryd.pinned (OpenSpec.ofChange fuseGoodSpec)

/-- ITS FALSE NEIGHBOUR: 'it returns false'. Refute it at one input. -/
def fuseGoodWrong : ChangeSpec := { name := "fuseGood", fn := fun _ => fun
  | [d1, d2] => { results := [.lit (.bool false)], args := [d1, d2] }
  | _ => none }
def FuseGoodWrongFalsely : Prop := fuseGoodRow.holds Tryd.pinned (OpenSpec.ofChange fuseGoodWrong)

/-- 'earshotlaw21.FuseLive': WHATEVER THE INPUT: true; the input reads as it did. -/
def fuseLiveSpec : ChangeSpec := { name := "fuseLive", fn := fun _ => fun
  | [d1, d2] => { results := [.lit (.bool true)], args := [d1, d2] }
  | _ => none }
def fuseLiveRow : OpenClaim := { program := "ytbgplllcjhgdhaadoor", sum := "46dcbafb558bb9469894bc6301a767fb52878cbead9c16689629df51bfb84275", func := "earshot/earshotlaw21.FuseLive", spec := "fuseLive", unfollowed := true, recurses := true, named := ["earshot/kind.kinds"], apart := false, laid := [("earshot/kind.kinds", laid_earshot_kind_kinds)] }
def FuseLiveSaid : Prop := fuseLiveRow.holds Tryd.pinned (OpenSpec.ofChange fuseLiveSpec)

/-- ITS FALSE NEIGHBOUR: 'it returns false'. Refute it at one input. -/
def fuseLiveWrong : ChangeSpec := { name := "fuseLive", fn := fun _ => fun
  | [d1, d2] => { results := [.lit (.bool false)], args := [d1, d2] }
  | _ => none }
def FuseLiveWrongFalsely : Prop := fuseLiveRow.holds Tryd.pinned (OpenSpec.ofChange fuseLiveWrong)

/- THE SECOND FORM. 'bulk': how many values and letters a reading holds, each counted each time it is reached (what is shared counts as often as it is met; a slice's spare places count too). A statement '..UptoSaid' is the law's where the arguments, and the package variables that the reading takes, are together of bulk at most 1048576: NARROWER than '..Said'. Prove '..Said' where nothing that the law and all that it calls make is longer than what came in: it says more and counts as full. Else prove '..UptoSaid'. A law counts once. -/
mutual
def uptoBulk {H : Type} : DataW H → Nat
  | .lit (.string bytes) => bytes.length + 1
  | .lit _ => 1
  | .nil => 1
  | .ptr d => uptoBulk d + 1
  | .slice elems spare => uptoBulkAll elems + uptoBulkAll spare + 1
  | .agg parts => uptoBulkAll parts + 1
  | .iface _ d => uptoBulk d + 1
  | .map entries => uptoBulkEntries entries + 1
  | .held _ => 1
def uptoBulkAll {H : Type} : List (DataW H) → Nat
  | [] => 0
  | d :: r => uptoBulk d + uptoBulkAll r
def uptoBulkEntries {H : Type} : List (Lit × DataW H) → Nat
  | [] => 0
  | x :: r => uptoBulkEntry x + uptoBulkEntries r
def uptoBulkEntry {H : Type} : Lit × DataW H → Nat
  | (.string bytes, d) => bytes.length + uptoBulk d + 1
  | (_, d) => uptoBulk d + 1
 end
def uptoSmall : (H : Type) → List (DataW H) → Bool := fun _ ds => decide (uptoBulkAll ds ≤ 1048576)
def OpenSpec.upto (s : _root_.Go.ChangeSpec) : _root_.Go.OpenSpec := { _root_.Go.OpenSpec.ofChange s with cond := some uptoSmall }

/-- 'earshotlaw21.FuseRow', WHERE WHAT IT READS IS OF BULK AT MOST 1048576: true; the input reads as it did. -/
def fuseRowUptoRow : OpenClaim := { program := "ytbgplllcjhgdhaadoor", sum := "46dcbafb558bb9469894bc6301a767fb52878cbead9c16689629df51bfb84275", func := "earshot/earshotlaw21.FuseRow", spec := "fuseRow", unfollowed := true, recurses := true, named := ["earshot/kind.kinds"], apart := false, laid := [("earshot/kind.kinds", laid_earshot_kind_kinds)], narrowed := true }
def FuseRowUptoSaid : Prop := fuseRowUptoRow.holds Tryd.pinned (OpenSpec.upto fuseRowSpec)

/-- 'earshotlaw21.FuseTells', WHERE WHAT IT READS IS OF BULK AT MOST 1048576: true; the input reads as it did. -/
def fuseTellsUptoRow : OpenClaim := { program := "ytbgplllcjhgdhaadoor", sum := "46dcbafb558bb9469894bc6301a767fb52878cbead9c16689629df51bfb84275", func := "earshot/earshotlaw21.FuseTells", spec := "fuseTells", unfollowed := true, recurses := true, named := ["earshot/kind.kinds"], apart := false, laid := [("earshot/kind.kinds", laid_earshot_kind_kinds)], narrowed := true }
def FuseTellsUptoSaid : Prop := fuseTellsUptoRow.holds Tryd.pinned (OpenSpec.upto fuseTellsSpec)

/-- 'earshotlaw21.FuseGood', WHERE WHAT IT READS IS OF BULK AT MOST 1048576: true; the input reads as it did. -/
def fuseGoodUptoRow : OpenClaim := { program := "ytbgplllcjhgdhaadoor", sum := "46dcbafb558bb9469894bc6301a767fb52878cbead9c16689629df51bfb84275", func := "earshot/earshotlaw21.FuseGood", spec := "fuseGood", unfollowed := true, recurses := true, named := ["earshot/kind.kinds"], apart := false, laid := [("earshot/kind.kinds", laid_earshot_kind_kinds)], narrowed := true }
def FuseGoodUptoSaid : Prop := fuseGoodUptoRow.holds Tryd.pinned (OpenSpec.upto fuseGoodSpec)

/-- 'earshotlaw21.FuseLive', WHERE WHAT IT READS IS OF BULK AT MOST 1048576: true; the input reads as it did. -/
def fuseLiveUptoRow : OpenClaim := { program := "ytbgplllcjhgdhaadoor", sum := "46dcbafb558bb9469894bc6301a767fb52878cbead9c16689629df51bfb84275", func := "earshot/earshotlaw21.FuseLive", spec := "fuseLive", unfollowed := true, recurses := true, named := ["earshot/kind.kinds"], apart := false, laid := [("earshot/kind.kinds", laid_earshot_kind_kinds)], narrowed := true }
def FuseLiveUptoSaid : Prop := fuseLiveUptoRow.holds Tryd.pinned (OpenSpec.upto fuseLiveSpec)

end Rows
end Go.Proofs.YtbgplllcjhgdhaaDoor
