/- One run, carried out by the kernel. -/
import Derived.Test.YtmaemogjdnlcoaaGreatDoorX2
set_option linter.unusedSimpArgs false
set_option linter.unusedVariables false
namespace Go.Jq
theorem kr4 : okAll 3 7193 (runMP 1 3596) = true := by decide +kernel
end Go.Jq

