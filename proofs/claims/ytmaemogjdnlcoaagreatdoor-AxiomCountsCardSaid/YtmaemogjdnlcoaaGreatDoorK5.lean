/- One run, carried out by the kernel. -/
import Derived.Test.YtmaemogjdnlcoaaGreatDoorX2
set_option linter.unusedSimpArgs false
set_option linter.unusedVariables false
namespace Go.Jq
theorem kr5 : okAll 3 7716 (runMP 2 3867) = true := by decide +kernel
end Go.Jq

