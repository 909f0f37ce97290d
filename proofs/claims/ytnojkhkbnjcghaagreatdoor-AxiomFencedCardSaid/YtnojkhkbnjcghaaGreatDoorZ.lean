/- TrailingZeros64, by the library's contract. -/
import Derived.Shelf.Spec.TrailingZeros
import Derived.Test.YtnojkhkbnjcghaaGreatDoorChecked
import Derived.KernelRfl
set_option linter.unusedSimpArgs false
set_option linter.unusedVariables false
namespace Go.Proofs
open Go.Shelf
def Tryz.tzRen:Ren:=⟨fun _=>133,fun x=>match x with | 0=>0 | 3=>3 | 4=>4 | 5=>5 | 22=>67 | 25=>83 | 54=>202 | _=>0,fun _=>0⟩
theorem Tryz.tzLays:Lays7.n29 Tryz.prog Tryz.tzRen where
  mixed:=by kernel_rfl
  f29:=by kernel_rfl
  t0:=by kernel_rfl
  a0:=fun _=>by kernel_rfl
  z0:=fun _=>by kernel_rfl
  v0:=fun _=>by kernel_rfl
  i0:=by kernel_rfl
  t3:=by kernel_rfl
  a3:=fun _=>by kernel_rfl
  z3:=fun _=>by kernel_rfl
  v3:=fun _=>by kernel_rfl
  i3:=by kernel_rfl
  t4:=by kernel_rfl
  a4:=fun _=>by kernel_rfl
  z4:=fun _=>by kernel_rfl
  v4:=fun _=>by kernel_rfl
  i4:=by kernel_rfl
  t5:=by kernel_rfl
  a5:=fun _=>by kernel_rfl
  z5:=fun _=>by kernel_rfl
  v5:=fun _=>by kernel_rfl
  i5:=by kernel_rfl
  t22:=by kernel_rfl
  a22:=fun _=>by kernel_rfl
  z22:=fun _=>by kernel_rfl
  v22:=fun _=>by kernel_rfl
  i22:=by kernel_rfl
  t25:=by kernel_rfl
  a25:=fun _=>by kernel_rfl
  z25:=fun _=>by kernel_rfl
  v25:=fun _=>by kernel_rfl
  i25:=by kernel_rfl
  t54:=by kernel_rfl
  a54:=fun _=>by kernel_rfl
  z54:=fun _=>by kernel_rfl
  g1:=by kernel_rfl
end Go.Proofs
