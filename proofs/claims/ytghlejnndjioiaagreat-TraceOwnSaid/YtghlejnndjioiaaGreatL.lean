/- Steps of one pick stand in their order, a store ahead of its flush, and nothing ahead of itself, whatever the input: the statement TraceOwn, with no condition. -/
import Derived.Test.YtghlejnndjioiaaGreatS
import Derived.Test.YtghlejnndjioiaaGreatV
import Derived.Test.YtghlejnndjioiaaGreatA
import Derived.Test.YtghlejnndjioiaaGreatH
import Derived.WalkKit
import Derived.ProofKit
import Derived.OpenShut
set_option linter.unusedSimpArgs false
set_option linter.unusedVariables false
namespace Go.Proofs.YtghlejnndjioiaaGreat
open Go.ChangeShapes Go.WideShapes Go.ChangeAt Go.RowKit Go.Jq
theorem ownT : ownKnob Tryz.prog.godebug = none := by kernel_rfl
theorem laidOutT : laidOutB Tryz.prog = true := by kernel_rfl
theorem ownLaw : OwnG ownG := { vm := { g300 := rfl, g298 := rfl, g299 := rfl, g301 := rfl, g291 := rfl, g295 := rfl, g297 := rfl, g296 := rfl, g288 := rfl, g294 := rfl, g293 := rfl, g292 := rfl, g290 := rfl, g289 := rfl, g286 := rfl, g287 := rfl }, comp := { g280 := rfl, g275 := rfl, g282 := rfl, g281 := rfl, g274 := rfl, g270 := rfl }, hb := { g103 := rfl, g58 := rfl, g102 := rfl, g38 := rfl, g137 := rfl, g98 := rfl, g139 := rfl, g56 := rfl, g57 := rfl, g164 := rfl, g165 := rfl, g166 := rfl, g244 := rfl, g245 := rfl, g213 := rfl, g167 := rfl, g91 := rfl }, g30 := rfl, g285 := rfl }
theorem ownRun : ∀ x ∈ Y_L, ownG x.1 = rconv x.2 := by
  intro x hx
  simp only [Y_L, List.mem_cons, List.not_mem_nil, or_false] at hx
  rcases hx with rfl | rfl | rfl | rfl | rfl | rfl | rfl | rfl | rfl | rfl | rfl | rfl | rfl | rfl | rfl | rfl | rfl | rfl | rfl | rfl | rfl | rfl | rfl | rfl | rfl | rfl | rfl | rfl | rfl | rfl | rfl | rfl | rfl | rfl | rfl | rfl | rfl | rfl | rfl | rfl | rfl | rfl | rfl | rfl | rfl | rfl | rfl | rfl | rfl | rfl | rfl | rfl | rfl | rfl | rfl | rfl | rfl | rfl | rfl | rfl | rfl | rfl
  · exact q4
  · exact q11
  · exact q14
  · exact q15
  · exact q20
  · exact q46
  · exact q58
  · exact q59
  · exact q60
  · exact q79
  · exact q88
  · exact q92
  · exact q101
  · exact q102
  · exact q103
  · exact q104
  · exact q105
  · exact q106
  · exact q107
  · exact q108
  · exact q109
  · exact q110
  · exact q111
  · exact q112
  · exact q113
  · exact q114
  · exact q116
  · exact q142
  · exact q143
  · exact q144
  · exact q145
  · exact q146
  · exact q147
  · exact q158
  · exact q159
  · exact q161
  · exact q164
  · exact q166
  · exact q171
  · exact q172
  · exact q173
  · exact q174
  · exact q176
  · exact q180
  · exact q197
  · exact q198
  · exact q208
  · exact q209
  · exact q210
  · exact q211
  · exact q223
  · exact q229
  · exact q230
  · exact q250
  · exact q269
  · exact q272
  · exact q273
  · exact q277
  · exact q278
  · exact q279
  · exact q283
  · exact q284
theorem natsT {w : World} : ∀ x ∈ ownNames, ∀ n, (ownG x.1).body = .native n → NatOk (ownKnown.ctx w) n x.2 := by
  intro x hx n hn
  simp only [ownNames, List.mem_cons, List.not_mem_nil, or_false] at hx
  rcases hx with rfl | rfl | rfl | rfl | rfl | rfl | rfl | rfl | rfl | rfl | rfl | rfl | rfl | rfl | rfl | rfl | rfl | rfl | rfl | rfl | rfl | rfl | rfl | rfl | rfl | rfl | rfl | rfl | rfl | rfl | rfl | rfl | rfl | rfl | rfl | rfl | rfl | rfl | rfl | rfl | rfl | rfl | rfl | rfl | rfl | rfl | rfl | rfl | rfl | rfl | rfl | rfl | rfl | rfl | rfl | rfl | rfl | rfl | rfl | rfl | rfl | rfl | rfl | rfl | rfl | rfl | rfl | rfl | rfl | rfl | rfl | rfl | rfl | rfl | rfl | rfl | rfl | rfl | rfl | rfl | rfl | rfl | rfl | rfl | rfl | rfl | rfl | rfl | rfl | rfl | rfl | rfl | rfl | rfl | rfl | rfl | rfl | rfl | rfl | rfl | rfl | rfl | rfl | rfl | rfl
  all_goals (cases hn; done)
set_option maxRecDepth 100000 in
theorem own_lifted (os : Os) (started : os.Started) (H : Type) (enc : TypeId × Value → H) :
    ReturnsInHanded {} Tryz.checked os 3 .any (Rows.traceOwnSpec.pre6 enc Tryz.prog Tryz.f3 Rows.traceOwnRow.domain false) (Rows.traceOwnSpec.post enc Tryz.prog Tryz.f3 false true false false) := by
  refine returnsInHanded_of_change (C := Tryz.checked) ownT started (by kernel_rfl) Tryz.func3
    (ChangeSpec.witness6 (enc := enc) (C := Tryz.checked) false ⟨#[], #[.slice none 0 0, .int .i64 0, .slice none 0 0], []⟩ 8 (by kernel_rfl) (by kernel_rfl) (by kernel_rfl) (by kernel_rfl)) ?_
  intro W base args ds gs before hval0 hW hcnd _
  have hval : ∀ (j : Nat) t v, Tryz.f3.params[j]? = some t → args[j]? = some v → Value.okWide Tryz.prog W .any base t v := hval0
  have hW' := hW
  obtain ⟨p, q, hA0, hV, rfl, hfz, hnd⟩ := hW
  have hA : DataW.TrodAll enc Tryz.prog W 0 (fun _ => true) true Tryz.f3.params.toList args.toList ds p := hA0
  rw [Tryz.params3] at hA hval
  obtain ⟨v0, vs0, d0, ds0, p0, q0, hargs, rfl, rfl, h0, r0⟩ := trodAll_cons hA
  obtain ⟨v1, vs1, d1, ds1, p1, q1, rfl, rfl, rfl, h1, r1⟩ := trodAll_cons r0
  obtain ⟨v2, vs2, d2, ds2, p2, q2, rfl, rfl, rfl, h2, r2⟩ := trodAll_cons r1
  obtain ⟨rfl, rfl, rfl⟩ := trodAll_nil r2
  obtain rfl : args = #[v0, v1, v2] := by cases args; simp_all
  obtain ⟨rfl, rfl⟩ := trodVars_none hV
  obtain ⟨a1, rfl, rfl, rfl, w1⟩ := open_int Tryz.underlying3 (hval 1 3 v1 rfl rfl) h1
  have k0 := h0
  have k2 := h2
  have lt0 : ∀ x ∈ p0, x.block < W.heap.size := by obtain ⟨m, hm⟩ := k0; exact DataW.trod_lt m _ _ _ hm
  have lt2 : ∀ x ∈ p2, x.block < W.heap.size := by obtain ⟨m, hm⟩ := k2; exact DataW.trod_lt m _ _ _ hm
  have o0 := open_ints Tryz.underlying22 Tryz.underlying3 (by kernel_rfl) (hval 0 22 v0 rfl rfl) h0
  have o2 := open_ints Tryz.underlying22 Tryz.underlying3 (by kernel_rfl) (hval 2 22 v2 rfl rfl) h2
  clear hA0 hval0
  obtain ⟨hh, γ, u0, l0, b1, _, _, b2, b3, b4⟩ := more_ints (C := ownKnown.ctx W) (HR.start rfl) rfl o0
  obtain ⟨hk, γ', u2, l2, c1, c2, c3, c4, c5, c6⟩ := more_ints (C := ownKnown.ctx W) b1 rfl o2
  refine (law_true (C := ownKnown.ctx W) (ownKnown.tabN W natsT) (f := 285) rfl (TraceOwn_spec ownLaw (fun h R k => aw19_spec ownRun k) (m0 := a1) (b4.ext c3) (Nat.le_trans b3 (by decide)) c6 fun _ _ => rfl) c1 (args' := #[v0, .int .i64 a1, v2]) (.cons (b2.mono c2) (.cons .int (.cons c4 .nil)))).mono fun e W' ⟨he, bel⟩ => ?_
  subst he
  exact ⟨_, rfl, _, _, _, [], _, [], hW', trodAll_mk1 (shut_bool Tryz.underlying4 _), (trodAll_cons_mk (Below.trod laidOutT (by kernel_rfl) (of_decide_eq_true (by kernel_rfl)) k0 bel lt0) (trodAll_cons_mk (shut_int Tryz.underlying3 w1) (trodAll_cons_mk (Below.trod laidOutT (by kernel_rfl) (of_decide_eq_true (by kernel_rfl)) k2 bel lt2) trodAll_mk0))), rfl, bel.frame _, fun h => by cases h⟩
theorem own_proved : Rows.TraceOwnSaid :=
  OpenClaim.holds_of_wide 3 Tryz.f3 rfl rfl rfl rfl rfl rfl rfl ⟨rfl, rfl, rfl, rfl, rfl⟩ rfl rfl rfl rfl rfl (by kernel_rfl) Tryz.func3 (by kernel_rfl)
    (of_decide_eq_true (by kernel_rfl)) (by unfold Func.isWrapper; first | (rw [if_pos (by decide +kernel)]; kernel_rfl) | (rw [if_neg (by decide +kernel)]; exact ⟨rfl, rfl⟩))
    (fun os started H enc _ => own_lifted os started H enc)
#print axioms own_proved
end Go.Proofs.YtghlejnndjioiaaGreat
