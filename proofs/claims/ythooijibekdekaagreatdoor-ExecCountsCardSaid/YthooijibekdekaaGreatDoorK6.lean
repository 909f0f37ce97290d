/- A run, carried out by the kernel. -/
import Derived.Test.YthooijibekdekaaGreatDoorX2
set_option linter.unusedSimpArgs false
set_option linter.unusedVariables false
namespace Go.Jq
set_option maxRecDepth 100000 in
theorem ks6 : okEnd (uRun [lH] p3c) = true := by decide +kernel
end Go.Jq
