/- A run, carried out by the kernel. -/
import Derived.Test.YthooijibekdekaaGreatDoorX2
set_option linter.unusedSimpArgs false
set_option linter.unusedVariables false
namespace Go.Jq
set_option maxRecDepth 100000 in
theorem ks5 : segOk p3c (uRun [lG] p3b) = true := by decide +kernel
end Go.Jq
