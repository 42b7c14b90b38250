/- The abstract machine's runs of DceIdle, where the first rest is 0. No condition. -/
import Derived.Test.YtplblmhnccdgcaaGreatIdle0
set_option maxRecDepth 1000000
namespace Go.Proofs.YtplblmhnccdgcaaGreat.AM
theorem runI00 : runI 0 0 = true := by kernel_rfl
theorem runI01 : runI 0 1 = true := by kernel_rfl
theorem runI02 : runI 0 2 = true := by kernel_rfl
theorem runI03 : runI 0 3 = true := by kernel_rfl
theorem runI04 : runI 0 4 = true := by kernel_rfl
end Go.Proofs.YtplblmhnccdgcaaGreat.AM
