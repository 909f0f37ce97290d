/- One run, carried out by the kernel. -/
import Derived.Test.YtmaemogjdnlcoaaGreatDoorX2
set_option linter.unusedSimpArgs false
set_option linter.unusedVariables false
namespace Go.Jq
theorem kr1 : okAll 3 3589 (runSB 1) = true := by decide +kernel
end Go.Jq

