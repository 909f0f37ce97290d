/- A run, carried out by the kernel. -/
import Derived.Test.YthooijibekdekaaGreatDoorX2
set_option linter.unusedSimpArgs false
set_option linter.unusedVariables false
namespace Go.Jq
set_option maxRecDepth 100000 in
theorem ks4 : segOk p3b (uRun [lE, lF] p3a) = true := by decide +kernel
end Go.Jq
