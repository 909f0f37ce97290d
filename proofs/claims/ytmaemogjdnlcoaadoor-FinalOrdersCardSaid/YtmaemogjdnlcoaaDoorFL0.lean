/- Ends stand in one order, of two one is less or they are the same, of three the order is one, whatever the three ends: the statement FinalOrders, with no condition beside what the card ties. -/
import Derived.Test.YtmaemogjdnlcoaaDoorFS0
import Derived.Test.YtmaemogjdnlcoaaDoorN0
import Derived.Test.YtmaemogjdnlcoaaDoorO0
import Derived.Test.YtmaemogjdnlcoaaDoorC4
import Derived.Test.YtmaemogjdnlcoaaDoorJoin
import Derived.Test.YtmaemogjdnlcoaaDoorCards
import Derived.Test.YtmaemogjdnlcoaaDoorTie
import Derived.SevenTiedAt
import Derived.WalkKit
import Derived.ProofKit
import Derived.OpenShut
import Derived.LaidMore
import Derived.Stop.Joined
set_option linter.unusedSimpArgs false
set_option linter.unusedVariables false
namespace Go.Proofs.YtmaemogjdnlcoaaDoor
open Go.ChangeShapes Go.WideShapes Go.ChangeAt Go.WideMaps Go.WideElems Go.RowKit Go.Jq

theorem ownF : ownKnob Tryd.prog.godebug = none := by kernel_rfl
theorem laidOutF : laidOutB Tryd.prog = true := by kernel_rfl

theorem finG_ok : FinG finG := by
  intro x hx
  simp only [Fin_list, List.mem_cons, List.not_mem_nil, or_false] at hx
  rcases hx with rfl | rfl | rfl | rfl | rfl | rfl | rfl | rfl | rfl | rfl | rfl | rfl | rfl | rfl | rfl | rfl | rfl | rfl | rfl | rfl | rfl | rfl | rfl | rfl | rfl | rfl | rfl | rfl <;> rfl

theorem natsF (w : World) : ∀ x ∈ finNames, ∀ n, (finG x.1).body = .native n → NatOk (finKnown.ctx w) n x.2 := by
  intro x hx n hn
  simp only [finNames, List.mem_cons, List.not_mem_nil, or_false] at hx
  rcases hx with rfl | rfl | rfl | rfl | rfl | rfl | rfl | rfl | rfl | rfl | rfl | rfl | rfl | rfl | rfl | rfl | rfl | rfl | rfl | rfl | rfl | rfl | rfl | rfl | rfl | rfl | rfl | rfl
  all_goals first
    | (cases hn; done)
    | (cases hn
       exact natOk_join fun bk o c xs sep w h1 h2 h3 h4 h5 => Tryd.strings_Join bk o c xs sep w h1 h2 h3 h4 h5)

def laidF {H : Type} : List (String × DataW H) := [("math/bits.deBruijn32tab", Rows.laid_math_bits_deBruijn32tab), ("math/bits.deBruijn64tab", Rows.laid_math_bits_deBruijn64tab), ("internal/strconv.uint64pow10", Rows.laid_internal_strconv_uint64pow10)]
theorem door_metF (os : Os) (args : Array Value) : laidMetH Tryd.prog laidF ((World.doorLaid Tryd.prog 2000 os).forCall (fun _ _ => 0) ⟨#[], args, []⟩).memory :=
  laidMetH_of_parts3 (fuel := 8) (laidMet_of_run' 8 (by kernel_rfl) (by kernel_rfl)) (by kernel_rfl) (by kernel_rfl)

theorem VR_fin {C : Ctx} {γ : Gm} (A : List Int) : VR C γ (.agg (finC A).toArray) (.agg (finC A).toArray) := by
  refine .agg (plains_VR ?_) fun x hx => ?_
  · rw [List.all_eq_true]
    intro x hx
    simp only [finC, List.mem_map] at hx
    obtain ⟨a, _, rfl⟩ := hx
    rfl
  · simp only [finC, List.mem_map] at hx
    obtain ⟨a, _, rfl⟩ := hx
    rfl

set_option maxRecDepth 100000 in
theorem orders_lifted (os : Os) (started : os.Started) (H : Type) (enc : TypeId × Value → H) :
    ReturnsInHanded {} Tryd.checked os 3 .any (fun w args => (Rows.finalOrdersSpec.pre enc Tryd.prog Tryd.f3 [] false w args ∧ laidMetH Tryd.prog laidF w) ∧ sizedMet enc Tryd.prog Tryd.f3 (OpenSpec.ofChange Rows.finalOrdersSpec) false w args)
      (Rows.finalOrdersSpec.post enc Tryd.prog Tryd.f3 false true false false) := by
  refine returnsInHanded_of_change_and (C := Tryd.checked) (X := fun w _ => laidMetH Tryd.prog laidF w) (fun _ _ _ hh h => h.of_heap hh) ownF started (by kernel_rfl) Tryd.func3
    (ChangeSpec.witness_shaped (enc := enc) (C := Tryd.checked) (os := os) (X := fun w _ => laidMetH Tryd.prog laidF w) false (World.doorLaid Tryd.prog 2000 os) #[.agg (Array.replicate 20 (.int .i64 0)), .agg (Array.replicate 20 (.int .i64 0)), .agg (Array.replicate 20 (.int .i64 0))] 8 rfl (World.shaped_of_RefB (by kernel_rfl) (by kernel_rfl)) (by kernel_rfl) (by kernel_rfl) (by kernel_rfl) (door_metF os _)) ?_
  intro W base args ds gs before hval0 hW _ _ hL _
  have hval : ∀ (j : Nat) t v, Tryd.f3.params[j]? = some t → args[j]? = some v → Value.okWide Tryd.prog W .any base t v := hval0
  have hW' := hW
  obtain ⟨p, q, hA0, hV, rfl, hfz, hnd⟩ := hW
  have hA : DataW.TrodAll enc Tryd.prog W 0 (fun _ => true) true Tryd.f3.params.toList args.toList ds p := hA0
  rw [Tryd.params3] at hA hval
  obtain ⟨v0, vs0, d0, ds0, p0, q0, hargs, rfl, rfl, h0, r0⟩ := trodAll_cons hA
  obtain ⟨v1, vs1, d1, ds1, p1, q1, rfl, rfl, rfl, h1, r1⟩ := trodAll_cons r0
  obtain ⟨v2, vs2, d2, ds2, p2, q2, rfl, rfl, rfl, h2, r2⟩ := trodAll_cons r1
  obtain ⟨rfl, rfl, rfl⟩ := trodAll_nil r2
  obtain rfl : args = #[v0, v1, v2] := by cases args; simp_all
  obtain ⟨rfl, rfl⟩ := trodVars_none hV
  have lt0 : ∀ x ∈ p0, x.block < W.heap.size := by obtain ⟨m, hm⟩ := h0; exact DataW.trod_lt m _ _ _ hm
  have lt1 : ∀ x ∈ p1, x.block < W.heap.size := by obtain ⟨m, hm⟩ := h1; exact DataW.trod_lt m _ _ _ hm
  have lt2 : ∀ x ∈ p2, x.block < W.heap.size := by obtain ⟨m, hm⟩ := h2; exact DataW.trod_lt m _ _ _ hm
  have op : ∀ {v d ps}, Value.okWide Tryd.prog W .any base 25 v → DataW.Trod enc Tryd.prog W 0 (fun _ => true) true 25 v d ps → ∃ A : List Int, v = .agg (finC A).toArray ∧ A.length = 20 := fun hv hd =>
    open_final Tryd.underlying25 Tryd.underlying23 Tryd.underlying22 Tryd.underlying22 Tryd.underlying2 (by kernel_rfl) (by kernel_rfl) (by kernel_rfl) (by kernel_rfl) (by kernel_rfl) rfl rfl hv hd
  obtain ⟨A, rfl, lA⟩ := op (hval 0 25 v0 rfl rfl) h0
  obtain ⟨B, rfl, lB⟩ := op (hval 1 25 v1 rfl rfl) h1
  obtain ⟨C, rfl, lC⟩ := op (hval 2 25 v2 rfl rfl) h2
  clear hA0 hval0
  refine (law_true (C := finKnown.ctx W) (finKnown.tabN W (natsF W)) (f := 258) rfl (FinalOrders_spec finG_ok lA lB lC) (HR.start rfl) (args' := #[.agg (finC A).toArray, .agg (finC B).toArray, .agg (finC C).toArray]) (.cons (VR_fin A) (.cons (VR_fin B) (.cons (VR_fin C) .nil)))).mono fun e W' ⟨he, bel⟩ => ?_
  subst he
  exact ⟨_, rfl, _, _, _, [], _, [], hW', trodAll_mk1 (shut_bool Tryd.underlying4 _),
    (trodAll_cons_mk (Below.trod laidOutF (by kernel_rfl) (of_decide_eq_true (by kernel_rfl)) h0 bel lt0) (trodAll_cons_mk (Below.trod laidOutF (by kernel_rfl) (of_decide_eq_true (by kernel_rfl)) h1 bel lt1) (trodAll_cons_mk (Below.trod laidOutF (by kernel_rfl) (of_decide_eq_true (by kernel_rfl)) h2 bel lt2) trodAll_mk0))), rfl, bel.frame _, fun h => by cases h⟩

theorem orders_row : Rows.FinalOrdersSaid :=
  OpenClaim.holds_of_wide 3 Tryd.f3 rfl rfl rfl rfl rfl rfl rfl ⟨rfl, rfl, rfl, rfl, rfl⟩ rfl rfl rfl rfl rfl (by kernel_rfl) Tryd.func3 (by kernel_rfl)
    (of_decide_eq_true (by kernel_rfl)) (by unfold Func.isWrapper; first | (rw [if_pos (by decide +kernel)]; kernel_rfl) | (rw [if_neg (by decide +kernel)]; exact ⟨rfl, rfl⟩))
    (fun os started H enc _ => orders_lifted os started H enc)

theorem orders_proved : Rows.FinalOrdersCardSaid :=
  Claim7.holds_tied_plain_at .later [] [.data, .data, .data] true (true, "f34fcd80d71eea40d881984f161630f914a1cd5c9384752b3768f44204a0392f") false
    orders_row (fun _ h => by cases h) (by kernel_rfl) (fun _ h => by cases h) finalOrders_row_tie rfl ⟨rfl, rfl⟩ (by kernel_rfl) rfl
    (fun f fn hf hfn => by
      obtain rfl : f = 3 := Option.some.inj ((show Tryd.prog.funcNamed "jacquard/jacquardlaw13.FinalOrders" = some 3 by kernel_rfl).symm.trans hf) |>.symm
      obtain rfl : fn = Tryd.f3 := (Option.some.inj (Tryd.func3.symm.trans hfn)).symm
      exact ⟨by kernel_rfl, fun j t ht => by
        rw [Tryd.params3] at ht
        have hm : t ∈ [25] := by simpa using Array.mem_of_getElem? ht
        have hall : ([25].all fun u => !Tryd.prog.wantsStandIn u) = true := by kernel_rfl
        exact (show Tryd.prog.wantsStandIn t = false by simpa using List.all_eq_true.1 hall t hm)⟩)
    (by kernel_rfl)
#print axioms orders_proved
end Go.Proofs.YtmaemogjdnlcoaaDoor
