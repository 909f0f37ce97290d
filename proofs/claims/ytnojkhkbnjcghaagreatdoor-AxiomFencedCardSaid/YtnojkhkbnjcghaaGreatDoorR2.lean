/- One run, carried out by the kernel. -/
import Derived.Test.YtnojkhkbnjcghaaGreatDoorOR
set_option linter.unusedSimpArgs false
set_option linter.unusedVariables false
namespace Go.Jq
theorem kw2:okAll 4 (runSB 2)=true:=by decide +kernel
end Go.Jq
