/- The abstract machine's runs of DceIdle, where the first rest is 2. No condition. -/
import Derived.Test.YtplblmhnccdgcaaGreatIdle0
set_option maxRecDepth 1000000
namespace Go.Proofs.YtplblmhnccdgcaaGreat.AM
theorem runI20 : runI 2 0 = true := by kernel_rfl
theorem runI21 : runI 2 1 = true := by kernel_rfl
theorem runI22 : runI 2 2 = true := by kernel_rfl
theorem runI23 : runI 2 3 = true := by kernel_rfl
theorem runI24 : runI 2 4 = true := by kernel_rfl
end Go.Proofs.YtplblmhnccdgcaaGreat.AM
