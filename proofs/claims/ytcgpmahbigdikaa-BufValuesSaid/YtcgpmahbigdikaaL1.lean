/- A Buf is a value: what is put or dropped makes another one, whatever the input: the statement BufValues, with no condition. -/
import Derived.Test.YtcgpmahbigdikaaS0
import Derived.Test.YtcgpmahbigdikaaB8
import Derived.Test.YtcgpmahbigdikaaB9
import Derived.WalkKit
import Derived.ProofKit
import Derived.OpenShut
set_option linter.unusedSimpArgs false
set_option linter.unusedVariables false
namespace Go.Proofs.Ytcgpmahbigdikaa
open Go.ChangeShapes Go.WideShapes Go.ChangeAt Go.RowKit Go.Jq

theorem ownV : ownKnob Try.prog.godebug = none := by kernel_rfl
theorem laidOutV : laidOutB Try.prog = true := by kernel_rfl

theorem bufLV : BufL seatG := { g0 := rfl, g1 := rfl, g2 := rfl, g3 := rfl, g4 := rfl, g5 := rfl, g6 := rfl, g7 := rfl, g8 := rfl, g9 := rfl, g10 := rfl, g11 := rfl, g12 := rfl, g13 := rfl, g14 := rfl, g15 := rfl }

set_option maxRecDepth 100000 in
theorem values_lifted (os : Os) (started : os.Started) (H : Type) (enc : TypeId × Value → H) :
    ReturnsInHanded {} Try.checked os 4 .any (Rows.bufValuesSpec.pre6 enc Try.prog Try.f4 Rows.bufValuesRow.domain false) (Rows.bufValuesSpec.post enc Try.prog Try.f4 false true false false) := by
  refine returnsInHanded_of_change (C := Try.checked) ownV started (by kernel_rfl) Try.func4
    (ChangeSpec.witness6 (enc := enc) (C := Try.checked) false ⟨#[], #[.int .i64 0, .slice none 0 0], []⟩ 8 (by kernel_rfl) (by kernel_rfl) (by kernel_rfl) (by kernel_rfl)) ?_
  intro W base args ds gs before hval0 hW hcnd _
  have hval : ∀ (j : Nat) t v, Try.f4.params[j]? = some t → args[j]? = some v → Value.okWide Try.prog W .any base t v := hval0
  have hW' := hW
  obtain ⟨p, q, hA0, hV, rfl, hfz, hnd⟩ := hW
  have hA : DataW.TrodAll enc Try.prog W 0 (fun _ => true) true Try.f4.params.toList args.toList ds p := hA0
  rw [Try.params4] at hA hval
  obtain ⟨v0, vs0, d0, ds0, p0, q0, hargs, rfl, rfl, h0, r0⟩ := trodAll_cons hA
  obtain ⟨v1, vs1, d1, ds1, p1, q1, rfl, rfl, rfl, h1, r1⟩ := trodAll_cons r0
  obtain ⟨rfl, rfl, rfl⟩ := trodAll_nil r1
  obtain rfl : args = #[v0, v1] := by cases args; simp_all
  obtain ⟨rfl, rfl⟩ := trodVars_none hV
  obtain ⟨a0, rfl, rfl, rfl, w0⟩ := open_int Try.underlying3 (hval 0 3 v0 rfl rfl) h0
  have k1 := h1
  have lt1 : ∀ x ∈ p1, x.block < W.heap.size := by obtain ⟨m, hm⟩ := k1; exact DataW.trod_lt m _ _ _ hm
  have op := open_ops Try.underlying34 Try.underlying36 (by kernel_rfl) rfl rfl rfl Try.underlying3 Try.underlying3 Try.underlying2 (by kernel_rfl) (by kernel_rfl) (by kernel_rfl) (hval 1 34 v1 rfl rfl) h1
  clear hA0 hval0
  obtain ⟨hh, γ, u, l, b1, b2, b3, b4⟩ := start_ops (C := seatKnown.ctx W) rfl op
  refine (law_true (C := seatKnown.ctx W) (seatKnown.tab W) (f := 1) rfl (BufValues_spec bufLV (m := a0) b3 b4) b1 (args' := #[.int .i64 a0, v1]) (.cons .int (.cons b2 .nil))).mono fun e W' ⟨he, bel⟩ => ?_
  subst he
  exact ⟨_, rfl, _, _, _, [], _, [], hW', trodAll_mk1 (shut_bool Try.underlying4 _), (trodAll_cons_mk (shut_int Try.underlying3 w0) (trodAll_cons_mk (Below.trod laidOutV (by kernel_rfl) (of_decide_eq_true (by kernel_rfl)) k1 bel lt1) trodAll_mk0)), rfl, bel.frame _, fun h => by cases h⟩

theorem values_proved : Rows.BufValuesSaid :=
  OpenClaim.holds_of_wide 4 Try.f4 rfl rfl rfl rfl rfl rfl rfl ⟨rfl, rfl, rfl, rfl, rfl⟩ rfl rfl rfl rfl rfl (by kernel_rfl) Try.func4 (by kernel_rfl)
    (of_decide_eq_true (by kernel_rfl)) (by unfold Func.isWrapper; first | (rw [if_pos (by decide +kernel)]; kernel_rfl) | (rw [if_neg (by decide +kernel)]; exact ⟨rfl, rfl⟩))
    (fun os started H enc _ => values_lifted os started H enc)
#print axioms values_proved
end Go.Proofs.Ytcgpmahbigdikaa
