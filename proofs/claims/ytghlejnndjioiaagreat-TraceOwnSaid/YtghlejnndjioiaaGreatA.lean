/- The law's own check of what the document fixes, carried out. -/
import Derived.Test.YtghlejnndjioiaaGreatY
set_option linter.unusedSimpArgs false
set_option linter.unusedVariables false
namespace Go.Jq
theorem aw19_run : okTrue ((machR Y_T 60).call 269 [] ⟨0, .leaf⟩) = true := by kernel_rfl
theorem aw19_spec {G : Nat → SFunc} (g : ∀ x ∈ Y_L, G x.1 = rconv x.2) {h : AH} {R : Value → AH → Prop} (k : ∀ h1, Ext h h1 → R (.bool true) h1) : WC G 269 [] h R :=
  carriedR_true Y_TL (by kernel_rfl) g aw19_run rfl k
end Go.Jq
