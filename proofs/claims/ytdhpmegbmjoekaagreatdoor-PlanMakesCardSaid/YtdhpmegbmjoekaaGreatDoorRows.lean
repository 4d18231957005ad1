/-
  NARROWER THAN 'FOR EVERY INPUT', by the rows' own cells (each row's printed sentence says how): PlanMakes: laid · PlanKeeps: laid · PlanApart: laid · PlanTotal: laid · PlanRight: laid.
  DERIVED. THE GIVEN ROWS OF THIS SEAT. 5 by the template 'for every input the law returns true; each argument reads behind the call as it read before'; 0 by the template 'total and deterministic' (their statements: YtdhpmegbmjoekaaGreatDoorTotals.lean).
  GIVEN WITH THE SEED: the statements are not yours to turn. If you find one false, say at which input.
  Laid BY PROGRAM, IN A SANDBOX (cutbox-rows.mjs): the forced cells as the released guide's own fill.sh prints them over the translation 5a8e55839020556d… (all of the seat's roots in one cut). By AI agents, Wed Nov 11 2026. No macro, syntax, notation, axiom, sorry.
-/
import Derived.Test.YtdhpmegbmjoekaaGreatDoorChecked
import GoSem.Claim
import GoSem.ClaimJoined
import GoSem.ClaimMapViews
import Derived.JoinedTies
import Derived.KernelRfl
namespace Go.Proofs.YtdhpmegbmjoekaaGreatDoor
/- THE CELL 'sum', in the pinned program and in every row, IS THE sha256 OF THE DUMP (.gsa) THAT YtdhpmegbmjoekaaGreatDoorProg.lean LOADS. Nothing in Lean hashes anything: it is a label: what it is worth is what the hold of that sum in a sandbox is worth. -/
noncomputable def Tryz.pinned : Pinned := { name := "ytdhpmegbmjoekaagreatdoor", sum := "5a8e55839020556d3d01a58b0681ad29e01c783a6f9a4d58b9df1b380542bfb5", checked := Tryz.checked }
namespace Rows
def none {H : Type} : Left H := { results := [], args := [] }

/- WHAT THE LISTED PACKAGE-LEVEL VARIABLES READ AS WHEN THE CALL BEGINS. Each datum BY PROGRAM (the guide's laid-datum.mjs) off the statement by which the dump's own 'gosem.cut.vars' lays the variable. In a bare row this is a premise. The card (YtdhpmegbmjoekaaGreatDoorCards.lean) ties it to the program's text. -/
def laid_earshot_kind_kinds {H : Type} : DataW H := .agg [.lit (.int .i64 0), .lit (.int .i64 7), .lit (.int .i64 5), .lit (.int .i64 1), .lit (.int .i64 1), .lit (.int .i64 0), .lit (.int .i64 6), .lit (.int .i64 8), .lit (.int .i64 8), .lit (.int .i64 32), .lit (.int .i64 64), .lit (.int .i64 0), .lit (.int .i64 16)]

/-- 'earshotlaw22.PlanMakes': WHATEVER THE INPUT: true; the input reads as it did. -/
def planMakesSpec : ChangeSpec := { name := "planMakes", fn := fun _ => fun
  | [d1, d2, d3] => { results := [.lit (.bool true)], args := [d1, d2, d3] }
  | _ => none }
def planMakesRow : OpenClaim := { program := "ytdhpmegbmjoekaagreatdoor", sum := "5a8e55839020556d3d01a58b0681ad29e01c783a6f9a4d58b9df1b380542bfb5", func := "earshot/earshotlaw22.PlanMakes", spec := "planMakes", unfollowed := true, recurses := true, named := ["earshot/kind.kinds"], apart := false, laid := [("earshot/kind.kinds", laid_earshot_kind_kinds)] }
def PlanMakesSaid : Prop := planMakesRow.holds Tryz.pinned (OpenSpec.ofChange planMakesSpec)

/-- ITS FALSE NEIGHBOUR: 'it returns false'. Refute it at one input. -/
def planMakesWrong : ChangeSpec := { name := "planMakes", fn := fun _ => fun
  | [d1, d2, d3] => { results := [.lit (.bool false)], args := [d1, d2, d3] }
  | _ => none }
def PlanMakesWrongFalsely : Prop := planMakesRow.holds Tryz.pinned (OpenSpec.ofChange planMakesWrong)

/-- 'earshotlaw22.PlanKeeps': WHATEVER THE INPUT: true; the input reads as it did. -/
def planKeepsSpec : ChangeSpec := { name := "planKeeps", fn := fun _ => fun
  | [d1, d2, d3] => { results := [.lit (.bool true)], args := [d1, d2, d3] }
  | _ => none }
def planKeepsRow : OpenClaim := { program := "ytdhpmegbmjoekaagreatdoor", sum := "5a8e55839020556d3d01a58b0681ad29e01c783a6f9a4d58b9df1b380542bfb5", func := "earshot/earshotlaw22.PlanKeeps", spec := "planKeeps", unfollowed := true, recurses := true, named := ["earshot/kind.kinds"], apart := false, laid := [("earshot/kind.kinds", laid_earshot_kind_kinds)] }
def PlanKeepsSaid : Prop := planKeepsRow.holds Tryz.pinned (OpenSpec.ofChange planKeepsSpec)

/-- ITS FALSE NEIGHBOUR: 'it returns false'. Refute it at one input. -/
def planKeepsWrong : ChangeSpec := { name := "planKeeps", fn := fun _ => fun
  | [d1, d2, d3] => { results := [.lit (.bool false)], args := [d1, d2, d3] }
  | _ => none }
def PlanKeepsWrongFalsely : Prop := planKeepsRow.holds Tryz.pinned (OpenSpec.ofChange planKeepsWrong)

/-- 'earshotlaw22.PlanApart': WHATEVER THE INPUT: true; the input reads as it did. -/
def planApartSpec : ChangeSpec := { name := "planApart", fn := fun _ => fun
  | [d1, d2] => { results := [.lit (.bool true)], args := [d1, d2] }
  | _ => none }
def planApartRow : OpenClaim := { program := "ytdhpmegbmjoekaagreatdoor", sum := "5a8e55839020556d3d01a58b0681ad29e01c783a6f9a4d58b9df1b380542bfb5", func := "earshot/earshotlaw22.PlanApart", spec := "planApart", unfollowed := true, recurses := true, named := ["earshot/kind.kinds"], apart := false, laid := [("earshot/kind.kinds", laid_earshot_kind_kinds)] }
def PlanApartSaid : Prop := planApartRow.holds Tryz.pinned (OpenSpec.ofChange planApartSpec)

/-- ITS FALSE NEIGHBOUR: 'it returns false'. Refute it at one input. -/
def planApartWrong : ChangeSpec := { name := "planApart", fn := fun _ => fun
  | [d1, d2] => { results := [.lit (.bool false)], args := [d1, d2] }
  | _ => none }
def PlanApartWrongFalsely : Prop := planApartRow.holds Tryz.pinned (OpenSpec.ofChange planApartWrong)

/-- 'earshotlaw22.PlanTotal': WHATEVER THE INPUT: true; the input reads as it did. -/
def planTotalSpec : ChangeSpec := { name := "planTotal", fn := fun _ => fun
  | [d1, d2, d3] => { results := [.lit (.bool true)], args := [d1, d2, d3] }
  | _ => none }
def planTotalRow : OpenClaim := { program := "ytdhpmegbmjoekaagreatdoor", sum := "5a8e55839020556d3d01a58b0681ad29e01c783a6f9a4d58b9df1b380542bfb5", func := "earshot/earshotlaw22.PlanTotal", spec := "planTotal", unfollowed := true, recurses := true, named := ["earshot/kind.kinds"], apart := false, laid := [("earshot/kind.kinds", laid_earshot_kind_kinds)] }
def PlanTotalSaid : Prop := planTotalRow.holds Tryz.pinned (OpenSpec.ofChange planTotalSpec)

/-- ITS FALSE NEIGHBOUR: 'it returns false'. Refute it at one input. -/
def planTotalWrong : ChangeSpec := { name := "planTotal", fn := fun _ => fun
  | [d1, d2, d3] => { results := [.lit (.bool false)], args := [d1, d2, d3] }
  | _ => none }
def PlanTotalWrongFalsely : Prop := planTotalRow.holds Tryz.pinned (OpenSpec.ofChange planTotalWrong)

/-- 'earshotlaw22.PlanRight': WHATEVER THE INPUT: true; the input reads as it did. -/
def planRightSpec : ChangeSpec := { name := "planRight", fn := fun _ => fun
  | [d1, d2, d3] => { results := [.lit (.bool true)], args := [d1, d2, d3] }
  | _ => none }
def planRightRow : OpenClaim := { program := "ytdhpmegbmjoekaagreatdoor", sum := "5a8e55839020556d3d01a58b0681ad29e01c783a6f9a4d58b9df1b380542bfb5", func := "earshot/earshotlaw22.PlanRight", spec := "planRight", unfollowed := true, recurses := true, named := ["earshot/kind.kinds"], apart := false, laid := [("earshot/kind.kinds", laid_earshot_kind_kinds)] }
def PlanRightSaid : Prop := planRightRow.holds Tryz.pinned (OpenSpec.ofChange planRightSpec)

/-- ITS FALSE NEIGHBOUR: 'it returns false'. Refute it at one input. -/
def planRightWrong : ChangeSpec := { name := "planRight", fn := fun _ => fun
  | [d1, d2, d3] => { results := [.lit (.bool false)], args := [d1, d2, d3] }
  | _ => none }
def PlanRightWrongFalsely : Prop := planRightRow.holds Tryz.pinned (OpenSpec.ofChange planRightWrong)

/- THE SECOND FORM. 'bulk': how many values and letters a reading holds, each counted each time it is reached (what is shared counts as often as it is met; a slice's spare places count too). A statement '..UptoSaid' is the law's where the arguments, and the package variables that the reading takes, are together of bulk at most 1048576: NARROWER than '..Said'. Prove '..Said' where nothing that the law and all that it calls make is longer than what came in: it says more and counts as full. Else prove '..UptoSaid'. A law counts once. -/
mutual
def uptoBulk {H : Type} : DataW H → Nat
  | .lit (.string bytes) => bytes.length + 1
  | .lit _ => 1
  | .nil => 1
  | .ptr d => uptoBulk d + 1
  | .slice elems spare => uptoBulkAll elems + uptoBulkAll spare + 1
  | .agg parts => uptoBulkAll parts + 1
  | .iface _ d => uptoBulk d + 1
  | .map entries => uptoBulkEntries entries + 1
  | .held _ => 1
def uptoBulkAll {H : Type} : List (DataW H) → Nat
  | [] => 0
  | d :: r => uptoBulk d + uptoBulkAll r
def uptoBulkEntries {H : Type} : List (Lit × DataW H) → Nat
  | [] => 0
  | x :: r => uptoBulkEntry x + uptoBulkEntries r
def uptoBulkEntry {H : Type} : Lit × DataW H → Nat
  | (.string bytes, d) => bytes.length + uptoBulk d + 1
  | (_, d) => uptoBulk d + 1
 end
def uptoSmall : (H : Type) → List (DataW H) → Bool := fun _ ds => decide (uptoBulkAll ds ≤ 1048576)
def OpenSpec.upto (s : _root_.Go.ChangeSpec) : _root_.Go.OpenSpec := { _root_.Go.OpenSpec.ofChange s with cond := some uptoSmall }

/-- 'earshotlaw22.PlanMakes', WHERE WHAT IT READS IS OF BULK AT MOST 1048576: true; the input reads as it did. -/
def planMakesUptoRow : OpenClaim := { program := "ytdhpmegbmjoekaagreatdoor", sum := "5a8e55839020556d3d01a58b0681ad29e01c783a6f9a4d58b9df1b380542bfb5", func := "earshot/earshotlaw22.PlanMakes", spec := "planMakes", unfollowed := true, recurses := true, named := ["earshot/kind.kinds"], apart := false, laid := [("earshot/kind.kinds", laid_earshot_kind_kinds)], narrowed := true }
def PlanMakesUptoSaid : Prop := planMakesUptoRow.holds Tryz.pinned (OpenSpec.upto planMakesSpec)

/-- 'earshotlaw22.PlanKeeps', WHERE WHAT IT READS IS OF BULK AT MOST 1048576: true; the input reads as it did. -/
def planKeepsUptoRow : OpenClaim := { program := "ytdhpmegbmjoekaagreatdoor", sum := "5a8e55839020556d3d01a58b0681ad29e01c783a6f9a4d58b9df1b380542bfb5", func := "earshot/earshotlaw22.PlanKeeps", spec := "planKeeps", unfollowed := true, recurses := true, named := ["earshot/kind.kinds"], apart := false, laid := [("earshot/kind.kinds", laid_earshot_kind_kinds)], narrowed := true }
def PlanKeepsUptoSaid : Prop := planKeepsUptoRow.holds Tryz.pinned (OpenSpec.upto planKeepsSpec)

/-- 'earshotlaw22.PlanApart', WHERE WHAT IT READS IS OF BULK AT MOST 1048576: true; the input reads as it did. -/
def planApartUptoRow : OpenClaim := { program := "ytdhpmegbmjoekaagreatdoor", sum := "5a8e55839020556d3d01a58b0681ad29e01c783a6f9a4d58b9df1b380542bfb5", func := "earshot/earshotlaw22.PlanApart", spec := "planApart", unfollowed := true, recurses := true, named := ["earshot/kind.kinds"], apart := false, laid := [("earshot/kind.kinds", laid_earshot_kind_kinds)], narrowed := true }
def PlanApartUptoSaid : Prop := planApartUptoRow.holds Tryz.pinned (OpenSpec.upto planApartSpec)

/-- 'earshotlaw22.PlanTotal', WHERE WHAT IT READS IS OF BULK AT MOST 1048576: true; the input reads as it did. -/
def planTotalUptoRow : OpenClaim := { program := "ytdhpmegbmjoekaagreatdoor", sum := "5a8e55839020556d3d01a58b0681ad29e01c783a6f9a4d58b9df1b380542bfb5", func := "earshot/earshotlaw22.PlanTotal", spec := "planTotal", unfollowed := true, recurses := true, named := ["earshot/kind.kinds"], apart := false, laid := [("earshot/kind.kinds", laid_earshot_kind_kinds)], narrowed := true }
def PlanTotalUptoSaid : Prop := planTotalUptoRow.holds Tryz.pinned (OpenSpec.upto planTotalSpec)

/-- 'earshotlaw22.PlanRight', WHERE WHAT IT READS IS OF BULK AT MOST 1048576: true; the input reads as it did. -/
def planRightUptoRow : OpenClaim := { program := "ytdhpmegbmjoekaagreatdoor", sum := "5a8e55839020556d3d01a58b0681ad29e01c783a6f9a4d58b9df1b380542bfb5", func := "earshot/earshotlaw22.PlanRight", spec := "planRight", unfollowed := true, recurses := true, named := ["earshot/kind.kinds"], apart := false, laid := [("earshot/kind.kinds", laid_earshot_kind_kinds)], narrowed := true }
def PlanRightUptoSaid : Prop := planRightUptoRow.holds Tryz.pinned (OpenSpec.upto planRightSpec)

end Rows
end Go.Proofs.YtdhpmegbmjoekaaGreatDoor
