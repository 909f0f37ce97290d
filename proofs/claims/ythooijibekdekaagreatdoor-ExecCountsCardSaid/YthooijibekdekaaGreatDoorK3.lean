/- A run, carried out by the kernel. -/
import Derived.Test.YthooijibekdekaaGreatDoorX2
set_option linter.unusedSimpArgs false
set_option linter.unusedVariables false
namespace Go.Jq
set_option maxRecDepth 100000 in
theorem ks3 : segOk p3a (uRun [lA, lB, lC, lD] p3) = true := by decide +kernel
end Go.Jq
