/- A row of too many steps has no relation, none has none, whatever the two numbers: the statement TraceMany, with no condition beside what the card ties. -/
import Derived.Test.YtghlejnndjioiaaDoorS
import Derived.Test.YtghlejnndjioiaaDoorH
import Derived.Test.YtghlejnndjioiaaDoorA
import Derived.Test.YtghlejnndjioiaaDoorN
import Derived.Test.YtghlejnndjioiaaDoorZ
import Derived.Test.YtghlejnndjioiaaDoorCards
import Derived.Test.YtghlejnndjioiaaDoorTie
import Derived.SevenTiedAt
import Derived.WalkKit
import Derived.ProofKit
import Derived.OpenShut
import Derived.LaidMore
set_option linter.unusedSimpArgs false
set_option linter.unusedVariables false
namespace Go.Proofs.YtghlejnndjioiaaDoor
open Go.ChangeShapes Go.WideShapes Go.ChangeAt Go.WideMaps Go.WideElems Go.RowKit Go.Jq Go.Lib

theorem ownM : ownKnob Tryd.prog.godebug = none := by kernel_rfl
theorem laidOutM : laidOutB Tryd.prog = true := by kernel_rfl

theorem manyLaw : ManyG manyG := { g103 := rfl, g58 := rfl, g102 := rfl, g38 := rfl, g137 := rfl, g98 := rfl, g139 := rfl, g56 := rfl, g57 := rfl, g164 := rfl, g165 := rfl, g166 := rfl, g244 := rfl, g245 := rfl, g213 := rfl, g167 := rfl, g91 := rfl, g170 := rfl, g99 := rfl, g54 := rfl, g138 := rfl, g267 := rfl }
theorem manyRun : ∀ x ∈ Y_L, manyG x.1 = rconv x.2 := by
  intro x hx
  simp only [Y_L, List.mem_cons, List.not_mem_nil, or_false] at hx
  rcases hx with rfl | rfl | rfl | rfl | rfl | rfl | rfl | rfl | rfl | rfl | rfl | rfl | rfl | rfl | rfl | rfl | rfl | rfl | rfl | rfl | rfl | rfl | rfl | rfl | rfl | rfl | rfl | rfl | rfl | rfl | rfl | rfl | rfl | rfl | rfl | rfl | rfl | rfl | rfl | rfl | rfl | rfl | rfl | rfl | rfl | rfl | rfl | rfl | rfl | rfl | rfl | rfl | rfl | rfl | rfl | rfl | rfl | rfl | rfl | rfl | rfl | rfl
  · exact q4
  · exact q11
  · exact q14
  · exact q15
  · exact q20
  · exact q46
  · exact q58
  · exact q59
  · exact q60
  · exact q79
  · exact q88
  · exact q92
  · exact q101
  · exact q102
  · exact q103
  · exact q104
  · exact q105
  · exact q106
  · exact q107
  · exact q108
  · exact q109
  · exact q110
  · exact q111
  · exact q112
  · exact q113
  · exact q114
  · exact q116
  · exact q142
  · exact q143
  · exact q144
  · exact q145
  · exact q146
  · exact q147
  · exact q158
  · exact q159
  · exact q161
  · exact q164
  · exact q166
  · exact q171
  · exact q172
  · exact q173
  · exact q174
  · exact q176
  · exact q180
  · exact q197
  · exact q198
  · exact q208
  · exact q209
  · exact q210
  · exact q211
  · exact q223
  · exact q229
  · exact q230
  · exact q250
  · exact q269
  · exact q272
  · exact q273
  · exact q277
  · exact q278
  · exact q279
  · exact q283
  · exact q284

def laidM {H : Type} : List (String × DataW H) := [("math/bits.deBruijn64tab", Rows.laid_math_bits_deBruijn64tab)]
theorem tabM {W : World} (h : laidMetH Tryd.prog laidM W) : Go.Proofs.TabAt 0 deBruijn64tab W := by
  rw [MakeChecks.laidMetH_plain _ _ _ (by kernel_rfl)] at h
  exact tab_reads (t := 154) (e := 5) (by kernel_rfl) (by kernel_rfl) (by kernel_rfl) (by kernel_rfl) (by kernel_rfl) (by kernel_rfl) (Go.Lib.laidMet.reads h (d := tzData) (by
    have e : (tzData : DataW Unit) = Rows.laid_math_bits_deBruijn64tab := by kernel_rfl
    rw [e]; exact List.mem_cons_self))
theorem natsM {w : World} (hs : 0 < w.heap.size) (hT : Go.Proofs.TabAt 0 deBruijn64tab w) : ∀ x ∈ manyNames, ∀ n, (manyG x.1).body = .native n → NatOk (manyKnown.ctx w) n x.2 := by
  intro x hx n hn
  simp only [manyNames, List.mem_cons, List.not_mem_nil, or_false] at hx
  rcases hx with rfl | rfl | rfl | rfl | rfl | rfl | rfl | rfl | rfl | rfl | rfl | rfl | rfl | rfl | rfl | rfl | rfl | rfl | rfl | rfl | rfl | rfl | rfl | rfl | rfl | rfl | rfl | rfl | rfl | rfl | rfl | rfl | rfl | rfl | rfl | rfl | rfl | rfl | rfl | rfl | rfl | rfl | rfl | rfl | rfl | rfl | rfl | rfl | rfl | rfl | rfl | rfl | rfl | rfl | rfl | rfl | rfl | rfl | rfl | rfl | rfl | rfl | rfl | rfl | rfl | rfl | rfl | rfl | rfl | rfl | rfl | rfl | rfl | rfl | rfl | rfl | rfl | rfl | rfl | rfl | rfl | rfl | rfl | rfl | rfl | rfl
  all_goals first
    | (cases hn; done)
    | (cases hn
       exact natOk_tz (g := 0) hs hT fun x h1 w' h2 => Any7.bits_TrailingZeros64 Tryd.tzLays x h1 w' h2)
theorem door_metM (os : Os) (args : Array Value) : laidMetH Tryd.prog laidM ((World.doorLaid Tryd.prog 2000 os).forCall (fun _ _ => 0) ⟨#[], args, []⟩).memory :=
  laidMetH_of_parts3 (fuel := 8) (laidMet_of_run' 8 (by kernel_rfl) (by kernel_rfl)) (by kernel_rfl) (by kernel_rfl)

set_option maxRecDepth 100000 in
theorem many_lifted (os : Os) (started : os.Started) (H : Type) (enc : TypeId × Value → H) :
    ReturnsInHanded {} Tryd.checked os 3 .any (fun w args => (Rows.traceManySpec.pre enc Tryd.prog Tryd.f3 [] false w args ∧ laidMetH Tryd.prog laidM w) ∧ sizedMet enc Tryd.prog Tryd.f3 (OpenSpec.ofChange Rows.traceManySpec) false w args)
      (Rows.traceManySpec.post enc Tryd.prog Tryd.f3 false true false false) := by
  refine returnsInHanded_of_change_and (C := Tryd.checked) (X := fun w _ => laidMetH Tryd.prog laidM w) (fun _ _ _ hh h => h.of_heap hh) ownM started (by kernel_rfl) Tryd.func3
    (ChangeSpec.witness_shaped (enc := enc) (C := Tryd.checked) (os := os) (X := fun w _ => laidMetH Tryd.prog laidM w) false (World.doorLaid Tryd.prog 2000 os) #[.int .i64 0, .int .i64 0] 8 rfl (World.shaped_of_RefB (by kernel_rfl) (by kernel_rfl)) (by kernel_rfl) (by kernel_rfl) (by kernel_rfl) (door_metM os _)) ?_
  intro W base args ds gs before hval0 hW _ _ hL _
  have hval : ∀ (j : Nat) t v, Tryd.f3.params[j]? = some t → args[j]? = some v → Value.okWide Tryd.prog W .any base t v := hval0
  have hW' := hW
  obtain ⟨p, q, hA0, hV, rfl, hfz, hnd⟩ := hW
  have hA : DataW.TrodAll enc Tryd.prog W 0 (fun _ => true) true Tryd.f3.params.toList args.toList ds p := hA0
  rw [Tryd.params3] at hA hval
  obtain ⟨v0, vs0, d0, ds0, p0, q0, hargs, rfl, rfl, h0, r0⟩ := trodAll_cons hA
  obtain ⟨v1, vs1, d1, ds1, p1, q1, rfl, rfl, rfl, h1, r1⟩ := trodAll_cons r0
  obtain ⟨rfl, rfl, rfl⟩ := trodAll_nil r1
  obtain rfl : args = #[v0, v1] := by cases args; simp_all
  obtain ⟨rfl, rfl⟩ := trodVars_none hV
  obtain ⟨a0, rfl, rfl, rfl, w0⟩ := open_int Tryd.underlying3 (hval 0 3 v0 rfl rfl) h0
  obtain ⟨a1, rfl, rfl, rfl, w1⟩ := open_int Tryd.underlying3 (hval 1 3 v1 rfl rfl) h1
  clear hA0 hval0
  have hT := tabM hL
  have hs : 0 < W.heap.size := by
    have := hT 0 (by decide)
    unfold World.cell? at this
    split at this
    · rename_i e0; exact (Array.getElem?_eq_some_iff.1 e0).1
    · simp at this
  refine (manyKnown.plain W (natsM hs hT) (f := 267) rfl (args := [.int .i64 a0, .int .i64 a1]) (TraceMany_spec manyLaw (fun h R k => aw19_spec manyRun k) fun _ _ => rfl) rfl).mono fun e W' ⟨he, bel⟩ => ?_
  subst he
  exact ⟨_, rfl, _, _, _, [], _, [], hW', trodAll_mk1 (shut_bool Tryd.underlying4 _), (trodAll_cons_mk (shut_int Tryd.underlying3 w0) (trodAll_cons_mk (shut_int Tryd.underlying3 w1) trodAll_mk0)), rfl, bel.frame _, fun h => by cases h⟩

theorem many_row : Rows.TraceManySaid :=
  OpenClaim.holds_of_wide 3 Tryd.f3 rfl rfl rfl rfl rfl rfl rfl ⟨rfl, rfl, rfl, rfl, rfl⟩ rfl rfl rfl rfl rfl (by kernel_rfl) Tryd.func3 (by kernel_rfl)
    (of_decide_eq_true (by kernel_rfl)) (by unfold Func.isWrapper; first | (rw [if_pos (by decide +kernel)]; kernel_rfl) | (rw [if_neg (by decide +kernel)]; exact ⟨rfl, rfl⟩))
    (fun os started H enc _ => many_lifted os started H enc)

theorem many_proved : Rows.TraceManyCardSaid :=
  Claim7.holds_tied_plain_at .later [] [.data] true (true, "0a01d6e995d34b7e7f97ca4454c04b3a95eef9d628c8751e4a302d75b7dab32e") false
    many_row (fun _ h => by cases h) (by kernel_rfl) (fun _ h => by cases h) traceMany_row_tie rfl ⟨rfl, rfl⟩ (by kernel_rfl) rfl
    (fun f fn hf hfn => by
      obtain rfl : f = 3 := Option.some.inj ((show Tryd.prog.funcNamed "jacquard/jacquardlaw19.TraceMany" = some 3 by kernel_rfl).symm.trans hf) |>.symm
      obtain rfl : fn = Tryd.f3 := (Option.some.inj (Tryd.func3.symm.trans hfn)).symm
      exact ⟨by kernel_rfl, fun j t ht => by
        rw [Tryd.params3] at ht
        have hm : t ∈ [3] := by simpa using Array.mem_of_getElem? ht
        have hall : ([3].all fun u => !Tryd.prog.wantsStandIn u) = true := by kernel_rfl
        exact (show Tryd.prog.wantsStandIn t = false by simpa using List.all_eq_true.1 hall t hm)⟩)
    (by kernel_rfl)
#print axioms many_proved
end Go.Proofs.YtghlejnndjioiaaDoor

