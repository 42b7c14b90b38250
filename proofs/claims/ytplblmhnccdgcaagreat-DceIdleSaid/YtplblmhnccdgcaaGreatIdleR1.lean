/- The abstract machine's runs of DceIdle, where the first rest is 1. No condition. -/
import Derived.Test.YtplblmhnccdgcaaGreatIdle0
set_option maxRecDepth 1000000
namespace Go.Proofs.YtplblmhnccdgcaaGreat.AM
theorem runI10 : runI 1 0 = true := by kernel_rfl
theorem runI11 : runI 1 1 = true := by kernel_rfl
theorem runI12 : runI 1 2 = true := by kernel_rfl
theorem runI13 : runI 1 3 = true := by kernel_rfl
theorem runI14 : runI 1 4 = true := by kernel_rfl
end Go.Proofs.YtplblmhnccdgcaaGreat.AM
