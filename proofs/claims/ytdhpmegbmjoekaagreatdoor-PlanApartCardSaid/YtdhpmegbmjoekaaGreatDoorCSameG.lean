/- Contracts: nodes and graphs that are the same (earshotref14, earshotref15). -/
import Derived.Test.YtdhpmegbmjoekaaGreatDoorCKind14d
namespace Go.Proofs.YtdhpmegbmjoekaaGreatDoor.G
open Go Go.Sh
set_option linter.unusedVariables false
set_option linter.unusedSimpArgs false
section
variable {h:Heap}
def Nv.sls (n:Nv):List Sl:=[n.inn,n.weights,n.bias]
def Nd.sls (n:Nd):List (List Int):=[n.inn,n.weights,n.bias]
def Nv.small (n:Nv):Prop:=n.inn.l<2 ^ 62∧n.weights.l<2 ^ 62∧n.bias.l<2 ^ 62
end
end Go.Proofs.YtdhpmegbmjoekaaGreatDoor.G
