/- The plain laws of Verb: awake, by the kernel. -/
import Derived.Test.YtflmncjhonmmhaaDoorVcC
import Derived.WalkKit
namespace Go.Proofs.YtflmncjhonmmhaaDoor.Vc.Pure
open Go
set_option maxRecDepth 100000
theorem awake : echelonlaw07_awake = some true := echelonlaw07_awake_c.le (k := 12) _ (by kernel_rfl)
end Go.Proofs.YtflmncjhonmmhaaDoor.Vc.Pure
