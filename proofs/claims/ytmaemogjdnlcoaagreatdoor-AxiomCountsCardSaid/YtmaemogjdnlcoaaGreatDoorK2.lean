/- One run, carried out by the kernel. -/
import Derived.Test.YtmaemogjdnlcoaaGreatDoorX2
set_option linter.unusedSimpArgs false
set_option linter.unusedVariables false
namespace Go.Jq
theorem kr2 : okAll 4 3860 (runSB 2) = true := by decide +kernel
end Go.Jq

