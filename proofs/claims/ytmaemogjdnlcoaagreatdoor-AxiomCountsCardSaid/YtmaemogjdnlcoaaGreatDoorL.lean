/- Two known shapes have as counts consistent executions as can be reckoned by hand, by each model, whatever the number: the statement AxiomCounts, with no condition beside what the card ties. -/
import Derived.Test.YtmaemogjdnlcoaaGreatDoorS
import Derived.Test.YtmaemogjdnlcoaaGreatDoorQ
import Derived.Test.YtmaemogjdnlcoaaGreatDoorN
import Derived.Test.YtmaemogjdnlcoaaGreatDoorZ
import Derived.Test.YtmaemogjdnlcoaaGreatDoorCards
import Derived.Test.YtmaemogjdnlcoaaGreatDoorTie
import Derived.SevenTiedAt
import Derived.WalkKit
import Derived.ProofKit
import Derived.OpenShut
import Derived.LaidMore
set_option linter.unusedSimpArgs false
set_option linter.unusedVariables false
namespace Go.Proofs.YtmaemogjdnlcoaaGreatDoor
open Go.ChangeShapes Go.WideShapes Go.ChangeAt Go.WideMaps Go.WideElems Go.RowKit Go.Jq Go.Lib

theorem ownM : ownKnob Tryz.prog.godebug = none := by kernel_rfl
theorem laidOutM : laidOutB Tryz.prog = true := by kernel_rfl

theorem countsRun : ∀ x ∈ X_L, countsG x.1 = rconv x.2 := by
  intro x hx
  simp only [X_L, List.mem_cons, List.not_mem_nil, or_false] at hx
  rcases hx with rfl | rfl | rfl | rfl | rfl | rfl | rfl | rfl | rfl | rfl | rfl | rfl | rfl | rfl | rfl | rfl | rfl | rfl | rfl | rfl | rfl | rfl | rfl | rfl | rfl | rfl | rfl | rfl | rfl | rfl | rfl | rfl | rfl | rfl | rfl | rfl | rfl | rfl | rfl | rfl | rfl | rfl | rfl | rfl | rfl | rfl | rfl | rfl | rfl | rfl | rfl | rfl | rfl | rfl | rfl | rfl | rfl | rfl | rfl | rfl | rfl | rfl | rfl | rfl | rfl | rfl | rfl | rfl | rfl | rfl | rfl | rfl | rfl | rfl | rfl | rfl | rfl | rfl | rfl | rfl | rfl | rfl | rfl | rfl | rfl | rfl | rfl | rfl | rfl | rfl | rfl | rfl | rfl | rfl | rfl | rfl | rfl | rfl | rfl | rfl | rfl | rfl | rfl | rfl | rfl | rfl | rfl | rfl | rfl | rfl | rfl | rfl | rfl | rfl | rfl
  · exact q19
  · exact q20
  · exact q28
  · exact q29
  · exact q30
  · exact q31
  · exact q32
  · exact q33
  · exact q34
  · exact q35
  · exact q36
  · exact q38
  · exact q51
  · exact q52
  · exact q53
  · exact q54
  · exact q55
  · exact q56
  · exact q57
  · exact q58
  · exact q59
  · exact q60
  · exact q61
  · exact q62
  · exact q63
  · exact q64
  · exact q65
  · exact q66
  · exact q67
  · exact q68
  · exact q69
  · exact q70
  · exact q71
  · exact q72
  · exact q73
  · exact q74
  · exact q75
  · exact q76
  · exact q77
  · exact q78
  · exact q79
  · exact q98
  · exact q99
  · exact q100
  · exact q101
  · exact q102
  · exact q103
  · exact q104
  · exact q105
  · exact q106
  · exact q107
  · exact q108
  · exact q109
  · exact q110
  · exact q111
  · exact q112
  · exact q113
  · exact q114
  · exact q115
  · exact q116
  · exact q117
  · exact q118
  · exact q119
  · exact q120
  · exact q121
  · exact q122
  · exact q123
  · exact q124
  · exact q125
  · exact q126
  · exact q127
  · exact q128
  · exact q129
  · exact q130
  · exact q131
  · exact q132
  · exact q133
  · exact q134
  · exact q135
  · exact q136
  · exact q137
  · exact q138
  · exact q139
  · exact q140
  · exact q141
  · exact q142
  · exact q143
  · exact q144
  · exact q145
  · exact q146
  · exact q147
  · exact q170
  · exact q171
  · exact q172
  · exact q173
  · exact q174
  · exact q176
  · exact q177
  · exact q178
  · exact q179
  · exact q180
  · exact q181
  · exact q182
  · exact q183
  · exact q184
  · exact q185
  · exact q186
  · exact q187
  · exact q196
  · exact q197
  · exact q198
  · exact q223
  · exact q229
  · exact q230
  · exact q250

def laidM {H : Type} : List (String × DataW H) := [("math/bits.deBruijn64tab", Rows.laid_math_bits_deBruijn64tab)]
theorem tabM {W : World} (h : laidMetH Tryz.prog laidM W) : Go.Proofs.TabAt 0 deBruijn64tab W := by
  rw [MakeChecks.laidMetH_plain _ _ _ (by kernel_rfl)] at h
  exact tab_reads (t := 269) (e := 5) (by kernel_rfl) (by kernel_rfl) (by kernel_rfl) (by kernel_rfl) (by kernel_rfl) (by kernel_rfl) (Go.Lib.laidMet.reads h (d := tzData) (by
    have e : (tzData : DataW Unit) = Rows.laid_math_bits_deBruijn64tab := by kernel_rfl
    rw [e]; exact List.mem_cons_self))
theorem natsM {w : World} (hs : 0 < w.heap.size) (hT : Go.Proofs.TabAt 0 deBruijn64tab w) : ∀ x ∈ countsNames, ∀ n, (countsG x.1).body = .native n → NatOk (countsKnown.ctx w) n x.2 := by
  intro x hx n hn
  simp only [countsNames, List.mem_cons, List.not_mem_nil, or_false] at hx
  rcases hx with rfl | rfl | rfl | rfl | rfl | rfl | rfl | rfl | rfl | rfl | rfl | rfl | rfl | rfl | rfl | rfl | rfl | rfl | rfl | rfl | rfl | rfl | rfl | rfl | rfl | rfl | rfl | rfl | rfl | rfl | rfl | rfl | rfl | rfl | rfl | rfl | rfl | rfl | rfl | rfl | rfl | rfl | rfl | rfl | rfl | rfl | rfl | rfl | rfl | rfl | rfl | rfl | rfl | rfl | rfl | rfl | rfl | rfl | rfl | rfl | rfl | rfl | rfl | rfl | rfl | rfl | rfl | rfl | rfl | rfl | rfl | rfl | rfl | rfl | rfl | rfl | rfl | rfl | rfl | rfl | rfl | rfl | rfl | rfl | rfl | rfl | rfl | rfl | rfl | rfl | rfl | rfl | rfl | rfl | rfl | rfl | rfl | rfl | rfl | rfl | rfl | rfl | rfl | rfl | rfl | rfl | rfl | rfl | rfl | rfl | rfl | rfl | rfl | rfl | rfl | rfl | rfl | rfl | rfl | rfl | rfl | rfl | rfl | rfl | rfl | rfl | rfl | rfl | rfl | rfl | rfl | rfl | rfl | rfl
  all_goals first
    | (cases hn; done)
    | (cases hn
       exact natOk_tz (g := 0) hs hT fun x h1 w' h2 => Any7.bits_TrailingZeros64 Tryz.tzLays x h1 w' h2)
theorem door_metM (os : Os) (args : Array Value) : laidMetH Tryz.prog laidM ((World.doorLaid Tryz.prog 2000 os).forCall (fun _ _ => 0) ⟨#[], args, []⟩).memory :=
  laidMetH_of_parts3 (fuel := 8) (laidMet_of_run' 8 (by kernel_rfl) (by kernel_rfl)) (by kernel_rfl) (by kernel_rfl)

set_option maxRecDepth 100000 in
theorem counts_lifted (os : Os) (started : os.Started) (H : Type) (enc : TypeId × Value → H) :
    ReturnsInHanded {} Tryz.checked os 3 .any (fun w args => (Rows.axiomCountsSpec.pre enc Tryz.prog Tryz.f3 [] false w args ∧ laidMetH Tryz.prog laidM w) ∧ sizedMet enc Tryz.prog Tryz.f3 (OpenSpec.ofChange Rows.axiomCountsSpec) false w args)
      (Rows.axiomCountsSpec.post enc Tryz.prog Tryz.f3 false true false false) := by
  refine returnsInHanded_of_change_and (C := Tryz.checked) (X := fun w _ => laidMetH Tryz.prog laidM w) (fun _ _ _ hh h => h.of_heap hh) ownM started (by kernel_rfl) Tryz.func3
    (ChangeSpec.witness_shaped (enc := enc) (C := Tryz.checked) (os := os) (X := fun w _ => laidMetH Tryz.prog laidM w) false (World.doorLaid Tryz.prog 2000 os) #[.int .i64 0] 8 rfl (World.shaped_of_RefB (by kernel_rfl) (by kernel_rfl)) (by kernel_rfl) (by kernel_rfl) (by kernel_rfl) (door_metM os _)) ?_
  intro W base args ds gs before hval0 hW _ _ hL _
  have hval : ∀ (j : Nat) t v, Tryz.f3.params[j]? = some t → args[j]? = some v → Value.okWide Tryz.prog W .any base t v := hval0
  have hW' := hW
  obtain ⟨p, q, hA0, hV, rfl, hfz, hnd⟩ := hW
  have hA : DataW.TrodAll enc Tryz.prog W 0 (fun _ => true) true Tryz.f3.params.toList args.toList ds p := hA0
  rw [Tryz.params3] at hA hval
  obtain ⟨v0, vs0, d0, ds0, p0, q0, hargs, rfl, rfl, h0, r0⟩ := trodAll_cons hA
  obtain ⟨rfl, rfl, rfl⟩ := trodAll_nil r0
  obtain rfl : args = #[v0] := by cases args; simp_all
  obtain ⟨rfl, rfl⟩ := trodVars_none hV
  obtain ⟨a0, rfl, rfl, rfl, w0⟩ := open_int Tryz.underlying3 (hval 0 3 v0 rfl rfl) h0
  clear hA0 hval0
  have hT := tabM hL
  have hs : 0 < W.heap.size := by
    have := hT 0 (by decide)
    unfold World.cell? at this
    split at this
    · rename_i e0; exact (Array.getElem?_eq_some_iff.1 e0).1
    · simp at this
  refine (countsKnown.plain W (natsM hs hT) (f := 16) rfl (args := [.int .i64 a0]) (AxiomCounts_spec countsRun rfl rfl fun _ => rfl) rfl).mono fun e W' ⟨he, bel⟩ => ?_
  subst he
  exact ⟨_, rfl, _, _, _, [], _, [], hW', trodAll_mk1 (shut_bool Tryz.underlying4 _), (trodAll_cons_mk (shut_int Tryz.underlying3 w0) trodAll_mk0), rfl, bel.frame _, fun h => by cases h⟩

set_option maxRecDepth 100000 in
theorem counts_row : Rows.AxiomCountsSaid :=
  OpenClaim.holds_of_wide 3 Tryz.f3 rfl rfl rfl rfl rfl rfl rfl ⟨rfl, rfl, rfl, rfl, rfl⟩ rfl rfl rfl rfl rfl (by kernel_rfl) Tryz.func3 (by kernel_rfl)
    (of_decide_eq_true (by kernel_rfl)) (by unfold Func.isWrapper; first | (rw [if_pos (by decide +kernel)]; kernel_rfl) | (rw [if_neg (by decide +kernel)]; exact ⟨rfl, rfl⟩))
    (fun os started H enc _ => counts_lifted os started H enc)

set_option maxRecDepth 100000 in
theorem counts_proved : Rows.AxiomCountsCardSaid :=
  Claim7.holds_tied_plain_at .later [] [.data] true (true, "bbb50214bbd0de5c672c4356273bef62b275cac9e593ec2118d9d1d52ffdf9da") false
    counts_row (fun _ h => by cases h) (by kernel_rfl) (fun _ h => by cases h) axiomCounts_row_tie rfl ⟨rfl, rfl⟩ (by kernel_rfl) rfl
    (fun f fn hf hfn => by
      obtain rfl : f = 3 := Option.some.inj ((show Tryz.prog.funcNamed "jacquard/jacquardlaw12.AxiomCounts" = some 3 by kernel_rfl).symm.trans hf) |>.symm
      obtain rfl : fn = Tryz.f3 := (Option.some.inj (Tryz.func3.symm.trans hfn)).symm
      exact ⟨by kernel_rfl, fun j t ht => by
        rw [Tryz.params3] at ht
        have hm : t ∈ [3] := by simpa using Array.mem_of_getElem? ht
        have hall : ([3].all fun u => !Tryz.prog.wantsStandIn u) = true := by kernel_rfl
        exact (show Tryz.prog.wantsStandIn t = false by simpa using List.all_eq_true.1 hall t hm)⟩)
    (by kernel_rfl)
#print axioms counts_proved
end Go.Proofs.YtmaemogjdnlcoaaGreatDoor

