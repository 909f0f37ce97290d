/- One run, carried out by the kernel. -/
import Derived.Test.YtnojkhkbnjcghaaGreatDoorOR
set_option linter.unusedSimpArgs false
set_option linter.unusedVariables false
namespace Go.Jq
theorem kw1:okAll 3 (runSB 1)=true:=by decide +kernel
end Go.Jq
