/- Contracts: earshotref04.Same. -/
import Derived.Test.YtdhpmegbmjoekaaGreatDoorGen
import Derived.Test.YtdhpmegbmjoekaaGreatDoorShL
namespace Go.Proofs.YtdhpmegbmjoekaaGreatDoor.G
open Go Go.Sh
set_option linter.unusedVariables false
end Go.Proofs.YtdhpmegbmjoekaaGreatDoor.G
