/- The abstract machine's runs of DceIdle, where the first rest is 3. No condition. -/
import Derived.Test.YtplblmhnccdgcaaGreatIdle0
set_option maxRecDepth 1000000
namespace Go.Proofs.YtplblmhnccdgcaaGreat.AM
theorem runI30 : runI 3 0 = true := by kernel_rfl
theorem runI31 : runI 3 1 = true := by kernel_rfl
theorem runI32 : runI 3 2 = true := by kernel_rfl
theorem runI33 : runI 3 3 = true := by kernel_rfl
theorem runI34 : runI 3 4 = true := by kernel_rfl
end Go.Proofs.YtplblmhnccdgcaaGreat.AM
