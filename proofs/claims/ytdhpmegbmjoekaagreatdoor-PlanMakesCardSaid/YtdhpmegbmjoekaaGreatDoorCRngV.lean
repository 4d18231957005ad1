/- Plain: numbers' ranges, node by node; they fit along the fusing. -/
import Derived.Test.YtdhpmegbmjoekaaGreatDoorCKeep12
import Derived.Test.YtdhpmegbmjoekaaGreatDoorCFld2
namespace Go.Proofs.YtdhpmegbmjoekaaGreatDoor.G
open Go Go.Sh
set_option linter.unusedVariables false
set_option linter.unusedSimpArgs false
def Rg.in_(r:Rg):Prop:= ¬(r.alo< -68719476736∨r.ahi>68719476736)
instance (r:Rg):Decidable r.in_:=by unfold Rg.in_;infer_instance
structure VJ (g:Gr) (W:Int→Int) (V:Int→Rg):Prop where
 z:V 0=dN g.low g.high
 n: ∀(i:Nat)(n:Nd),g.nodes[i]? =some n→V ((i:Int)+1)=i3 n (W (n.inn.getD 0 0)) (n.inn.map V)
theorem rv(x m s:Int): -2147483648≤dK x m s∧dK x m s≤2147483647:=by
 unfold dK;split
 ·split
  ·exact iJ _
  ·split<;>decide
 ·decide
