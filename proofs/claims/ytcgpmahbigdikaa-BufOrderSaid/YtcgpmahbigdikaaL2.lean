/- What was put comes out in its order, whatever the input: the statement BufOrder, with no condition. -/
import Derived.Test.YtcgpmahbigdikaaS0
import Derived.Test.YtcgpmahbigdikaaB12
import Derived.Test.YtcgpmahbigdikaaB9
import Derived.WalkKit
import Derived.ProofKit
import Derived.OpenShut
set_option linter.unusedSimpArgs false
set_option linter.unusedVariables false
namespace Go.Proofs.Ytcgpmahbigdikaa
open Go.ChangeShapes Go.WideShapes Go.ChangeAt Go.RowKit Go.Jq

theorem ownO : ownKnob Try.prog.godebug = none := by kernel_rfl
theorem laidOutO : laidOutB Try.prog = true := by kernel_rfl

theorem bufLO : BufL seatG := { g0 := rfl, g1 := rfl, g2 := rfl, g3 := rfl, g4 := rfl, g5 := rfl, g6 := rfl, g7 := rfl, g8 := rfl, g9 := rfl, g10 := rfl, g11 := rfl, g12 := rfl, g13 := rfl, g14 := rfl, g15 := rfl }

set_option maxRecDepth 100000 in
theorem order_lifted (os : Os) (started : os.Started) (H : Type) (enc : TypeId × Value → H) :
    ReturnsInHanded {} Try.checked os 5 .any (Rows.bufOrderSpec.pre6 enc Try.prog Try.f5 Rows.bufOrderRow.domain false) (Rows.bufOrderSpec.post enc Try.prog Try.f5 false true false false) := by
  refine returnsInHanded_of_change (C := Try.checked) ownO started (by kernel_rfl) Try.func5
    (ChangeSpec.witness6 (enc := enc) (C := Try.checked) false ⟨#[], #[.slice none 0 0], []⟩ 8 (by kernel_rfl) (by kernel_rfl) (by kernel_rfl) (by kernel_rfl)) ?_
  intro W base args ds gs before hval0 hW hcnd _
  have hval : ∀ (j : Nat) t v, Try.f5.params[j]? = some t → args[j]? = some v → Value.okWide Try.prog W .any base t v := hval0
  have hW' := hW
  obtain ⟨p, q, hA0, hV, rfl, hfz, hnd⟩ := hW
  have hA : DataW.TrodAll enc Try.prog W 0 (fun _ => true) true Try.f5.params.toList args.toList ds p := hA0
  rw [Try.params5] at hA hval
  obtain ⟨v1, vs1, d1, ds1, p1, q1, hargs, rfl, rfl, h1, r1⟩ := trodAll_cons hA
  obtain ⟨rfl, rfl, rfl⟩ := trodAll_nil r1
  obtain rfl : args = #[v1] := by cases args; simp_all
  obtain ⟨rfl, rfl⟩ := trodVars_none hV
  have k1 := h1
  have lt1 : ∀ x ∈ p1, x.block < W.heap.size := by obtain ⟨m, hm⟩ := k1; exact DataW.trod_lt m _ _ _ hm
  have op := open_ops Try.underlying34 Try.underlying36 (by kernel_rfl) rfl rfl rfl Try.underlying3 Try.underlying3 Try.underlying2 (by kernel_rfl) (by kernel_rfl) (by kernel_rfl) (hval 0 34 v1 rfl rfl) h1
  clear hA0 hval0
  obtain ⟨hh, γ, u, l, b1, b2, b3, b4⟩ := start_ops (C := seatKnown.ctx W) rfl op
  refine (law_true (C := seatKnown.ctx W) (seatKnown.tab W) (f := 2) rfl (BufOrder_spec bufLO b3 b4) b1 (args' := #[v1]) (.cons b2 .nil)).mono fun e W' ⟨he, bel⟩ => ?_
  subst he
  exact ⟨_, rfl, _, _, _, [], _, [], hW', trodAll_mk1 (shut_bool Try.underlying4 _), (trodAll_cons_mk (Below.trod laidOutO (by kernel_rfl) (of_decide_eq_true (by kernel_rfl)) k1 bel lt1) trodAll_mk0), rfl, bel.frame _, fun h => by cases h⟩

theorem order_proved : Rows.BufOrderSaid :=
  OpenClaim.holds_of_wide 5 Try.f5 rfl rfl rfl rfl rfl rfl rfl ⟨rfl, rfl, rfl, rfl, rfl⟩ rfl rfl rfl rfl rfl (by kernel_rfl) Try.func5 (by kernel_rfl)
    (of_decide_eq_true (by kernel_rfl)) (by unfold Func.isWrapper; first | (rw [if_pos (by decide +kernel)]; kernel_rfl) | (rw [if_neg (by decide +kernel)]; exact ⟨rfl, rfl⟩))
    (fun os started H enc _ => order_lifted os started H enc)
#print axioms order_proved
end Go.Proofs.Ytcgpmahbigdikaa
