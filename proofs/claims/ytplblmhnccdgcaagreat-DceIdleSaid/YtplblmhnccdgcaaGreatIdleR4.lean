/- The abstract machine's runs of DceIdle, where the first rest is 4. No condition. -/
import Derived.Test.YtplblmhnccdgcaaGreatIdle0
set_option maxRecDepth 1000000
namespace Go.Proofs.YtplblmhnccdgcaaGreat.AM
theorem runI40 : runI 4 0 = true := by kernel_rfl
theorem runI41 : runI 4 1 = true := by kernel_rfl
theorem runI42 : runI 4 2 = true := by kernel_rfl
theorem runI43 : runI 4 3 = true := by kernel_rfl
theorem runI44 : runI 4 4 = true := by kernel_rfl
end Go.Proofs.YtplblmhnccdgcaaGreat.AM
