/- One run, carried out by the kernel. -/
import Derived.Test.YtmaemogjdnlcoaaGreatDoorX2
set_option linter.unusedSimpArgs false
set_option linter.unusedVariables false
namespace Go.Jq
theorem kr6 : okAll 4 7743 (runMP 3 3867) = true := by decide +kernel
end Go.Jq

