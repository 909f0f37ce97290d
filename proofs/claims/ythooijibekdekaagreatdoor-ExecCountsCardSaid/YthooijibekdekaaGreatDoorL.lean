/- Stores of one location have as many candidates as they have orders, and one more load as many choices as there are stores and the beginning: the statement ExecCounts, with no condition beside what the card ties. -/
import Derived.Test.YthooijibekdekaaGreatDoorS
import Derived.Test.YthooijibekdekaaGreatDoorQ
import Derived.Test.YthooijibekdekaaGreatDoorN
import Derived.Test.YthooijibekdekaaGreatDoorZ
import Derived.Test.YthooijibekdekaaGreatDoorW
import Derived.Test.YthooijibekdekaaGreatDoorShelf
import Derived.Test.YthooijibekdekaaGreatDoorCards
import Derived.Test.YthooijibekdekaaGreatDoorTie
import Derived.SevenTiedAt
import Derived.WalkKit
import Derived.ProofKit
import Derived.OpenShut
import Derived.LaidMore
import Derived.Lib.LaidTab
import Derived.Lib.LaidU8
import Derived.Lib.AppendIntMem
set_option linter.unusedSimpArgs false
set_option linter.unusedVariables false
namespace Go.Proofs.YthooijibekdekaaGreatDoor
open Go.ChangeShapes Go.WideShapes Go.ChangeAt Go.WideMaps Go.WideElems Go.RowKit Go.Jq Go.Lib
theorem ownE : ownKnob Tryz.prog.godebug = none := by kernel_rfl
theorem laidOutE : laidOutB Tryz.prog = true := by kernel_rfl
theorem ecRun : ∀ x ∈ U_L, ecG x.1 = rconv x.2 := by
  intro x hx
  simp only [U_L, List.mem_cons, List.not_mem_nil, or_false] at hx
  rcases hx with rfl | rfl | rfl | rfl | rfl | rfl | rfl | rfl | rfl | rfl | rfl | rfl | rfl | rfl | rfl | rfl | rfl | rfl | rfl | rfl | rfl | rfl | rfl | rfl | rfl | rfl | rfl | rfl | rfl | rfl | rfl | rfl | rfl | rfl | rfl | rfl | rfl | rfl | rfl | rfl | rfl | rfl | rfl | rfl | rfl | rfl | rfl | rfl | rfl | rfl | rfl | rfl | rfl | rfl | rfl | rfl | rfl | rfl | rfl | rfl | rfl | rfl | rfl | rfl | rfl | rfl | rfl | rfl | rfl | rfl | rfl | rfl | rfl | rfl | rfl | rfl | rfl | rfl | rfl | rfl | rfl | rfl | rfl | rfl | rfl | rfl | rfl | rfl | rfl | rfl | rfl | rfl | rfl | rfl | rfl | rfl | rfl | rfl | rfl | rfl | rfl | rfl | rfl | rfl
  · exact q17
  · exact q22
  · exact q23
  · exact q30
  · exact q31
  · exact q33
  · exact q36
  · exact q37
  · exact q38
  · exact q39
  · exact q40
  · exact q41
  · exact q52
  · exact q53
  · exact q56
  · exact q57
  · exact q58
  · exact q59
  · exact q60
  · exact q61
  · exact q62
  · exact q63
  · exact q64
  · exact q65
  · exact q66
  · exact q67
  · exact q68
  · exact q69
  · exact q70
  · exact q78
  · exact q79
  · exact q80
  · exact q81
  · exact q82
  · exact q83
  · exact q84
  · exact q85
  · exact q86
  · exact q87
  · exact q98
  · exact q100
  · exact q101
  · exact q102
  · exact q103
  · exact q104
  · exact q105
  · exact q106
  · exact q107
  · exact q108
  · exact q109
  · exact q110
  · exact q111
  · exact q112
  · exact q113
  · exact q114
  · exact q115
  · exact q116
  · exact q117
  · exact q118
  · exact q119
  · exact q120
  · exact q121
  · exact q122
  · exact q123
  · exact q124
  · exact q140
  · exact q141
  · exact q142
  · exact q143
  · exact q144
  · exact q145
  · exact q146
  · exact q147
  · exact q148
  · exact q149
  · exact q150
  · exact q151
  · exact q153
  · exact q154
  · exact q171
  · exact q172
  · exact q173
  · exact q174
  · exact q176
  · exact q177
  · exact q178
  · exact q179
  · exact q180
  · exact q187
  · exact q190
  · exact q192
  · exact q196
  · exact q197
  · exact q198
  · exact q199
  · exact q200
  · exact q201
  · exact q223
  · exact q228
  · exact q229
  · exact q230
  · exact q231
  · exact q250
  · exact q251
def laidE {H : Type} : List (String × DataW H) := [("math/bits.deBruijn32tab", Rows.laid_math_bits_deBruijn32tab), ("math/bits.deBruijn64tab", Rows.laid_math_bits_deBruijn64tab), ("internal/strconv.uint64pow10", Rows.laid_internal_strconv_uint64pow10)]
theorem tabD {W : World} (h : laidMetH Tryz.prog laidE W) : Go.Proofs.TabAt 0 deBruijn64tab W := by
  rw [MakeChecks.laidMetH_plain _ _ _ (by kernel_rfl)] at h
  exact tab_reads (t := 172) (e := 5) (by kernel_rfl) (by kernel_rfl) (by kernel_rfl) (by kernel_rfl) (by kernel_rfl) (by kernel_rfl) (Go.Lib.laidMet.reads h (d := tzData) (by
    have e : (tzData : DataW Unit) = Rows.laid_math_bits_deBruijn64tab := by kernel_rfl
    rw [e]; exact List.mem_cons_of_mem _ List.mem_cons_self))
theorem tabIs_reads {P : Program} {w : World} {name : String} {k : IntKind} {zs : List Int} {g t e n : Nat} (hg : P.globalNamed name = some g) (hty : (P.globals[g]?).map (·.type) = some t) (ht : P.underlying t = some (.array n e)) (he : P.underlying e = some (.int k)) (hce : P.cellsOf e = 1) (hct : P.cellsOf t = n) (h : VarReads P w name (tabData k zs)) : TabIs P w name k zs := by
  obtain ⟨g', t', cs, fuel, p, hg', ht', hvar, hd⟩ := h
  obtain rfl := Option.some.inj (hg.symm.trans hg')
  obtain rfl := Option.some.inj (hty.symm.trans ht')
  unfold TabIs
  rw [hvar, ← cells_of_tab ht he hce hct hd]
theorem tabP {W : World} (h : laidMetH Tryz.prog laidE W) : TabIs Tryz.prog W "internal/strconv.uint64pow10" .u64 pow10Tab := by
  rw [MakeChecks.laidMetH_plain _ _ _ (by kernel_rfl)] at h
  exact tabIs_reads (g := 1) (n := 20) (t := 187) (e := 41) (by kernel_rfl) (by kernel_rfl) (by kernel_rfl) (by kernel_rfl) (by kernel_rfl) (by kernel_rfl) (Go.Lib.laidMet.reads h (d := tabData .u64 pow10Tab) (by
    have e : (tabData .u64 pow10Tab : DataW Unit) = Rows.laid_internal_strconv_uint64pow10 := by kernel_rfl
    rw [e]; exact List.mem_cons_of_mem _ (List.mem_cons_of_mem _ List.mem_cons_self)))
theorem natsE {w : World} (hs : 0 < w.heap.size) (hD : Go.Proofs.TabAt 0 deBruijn64tab w) (hT : TabIs Tryz.prog w "internal/strconv.uint64pow10" .u64 pow10Tab) : ∀ x ∈ ecNames, ∀ n, (ecG x.1).body = .native n → NatOk (ecKnown.ctx w) n x.2 := by
  intro x hx n hn
  simp only [ecNames, List.mem_cons, List.not_mem_nil, or_false] at hx
  rcases hx with rfl | rfl | rfl | rfl | rfl | rfl | rfl | rfl | rfl | rfl | rfl | rfl | rfl | rfl | rfl | rfl | rfl | rfl | rfl | rfl | rfl | rfl | rfl | rfl | rfl | rfl | rfl | rfl | rfl | rfl | rfl | rfl | rfl | rfl | rfl | rfl | rfl | rfl | rfl | rfl | rfl | rfl | rfl | rfl | rfl | rfl | rfl | rfl | rfl | rfl | rfl | rfl | rfl | rfl | rfl | rfl | rfl | rfl | rfl | rfl | rfl | rfl | rfl | rfl | rfl | rfl | rfl | rfl | rfl | rfl | rfl | rfl | rfl | rfl | rfl | rfl | rfl | rfl | rfl | rfl | rfl | rfl | rfl | rfl | rfl | rfl | rfl | rfl | rfl | rfl | rfl | rfl | rfl | rfl | rfl | rfl | rfl | rfl | rfl | rfl | rfl | rfl | rfl | rfl | rfl | rfl | rfl | rfl | rfl | rfl | rfl | rfl | rfl | rfl | rfl | rfl | rfl | rfl | rfl | rfl | rfl | rfl | rfl | rfl | rfl | rfl | rfl | rfl | rfl | rfl | rfl | rfl | rfl
  all_goals first
    | (cases hn; done)
    | (cases hn
       exact natOk_tz (g := 0) hs hD fun x h1 w' h2 => Any7.bits_TrailingZeros64 Tryz.tzLays x h1 w' h2)
    | (cases hn
       exact natOk_join fun bk o c xs sep w h1 h2 h3 h4 h5 => Tryz.strings_Join bk o c xs sep w h1 h2 h3 h4 h5)
    | (cases hn
       exact natOk_itoa fun w' hb i h0 h1 => (Tryz.strconv_FormatInt_10 i h0 h1 w' (tabBelow_of_tabIs hT w' hb)).mono fun e v ⟨h1, k, os, h2⟩ => ⟨h1, by rw [h2]; exact below_grow _ _ (Nat.le_refl _) k os⟩)
    | (cases hn
       exact natOk_itoa fun w' hb i h0 h1 => (Tryz.internal_strconv_FormatInt_10 i h0 h1 w' (tabBelow_of_tabIs hT w' hb)).mono fun e v ⟨h1, k, os, h2⟩ => ⟨h1, by rw [h2]; exact below_grow _ _ (Nat.le_refl _) k os⟩)
    | (cases hn
       exact natOk_seq (V := 79) (E := 3) rfl fun Bs s0 b off cap x w' h1 h2 h3 h4 => Tryz.appendSeq1 Bs s0 b off cap x w' h1 h2 h3 h4)
theorem door_metE (os : Os) (args : Array Value) : laidMetH Tryz.prog laidE ((World.doorLaid Tryz.prog 2000 os).forCall (fun _ _ => 0) ⟨#[], args, []⟩).memory :=
  laidMetH_of_parts3 (fuel := 8) (laidMet_of_run' 8 (by kernel_rfl) (by kernel_rfl)) (by kernel_rfl) (by kernel_rfl)
set_option maxRecDepth 100000 in
theorem ecs_lifted (os : Os) (started : os.Started) (H : Type) (enc : TypeId × Value → H) :
    ReturnsInHanded {} Tryz.checked os 3 .any (fun w args => (Rows.execCountsSpec.pre enc Tryz.prog Tryz.f3 [] false w args ∧ laidMetH Tryz.prog laidE w) ∧ sizedMet enc Tryz.prog Tryz.f3 (OpenSpec.ofChange Rows.execCountsSpec) false w args)
      (Rows.execCountsSpec.post enc Tryz.prog Tryz.f3 false true false false) := by
  refine returnsInHanded_of_change_and (C := Tryz.checked) (X := fun w _ => laidMetH Tryz.prog laidE w) (fun _ _ _ hh h => h.of_heap hh) ownE started (by kernel_rfl) Tryz.func3
    (ChangeSpec.witness_shaped (enc := enc) (C := Tryz.checked) (os := os) (X := fun w _ => laidMetH Tryz.prog laidE w) false (World.doorLaid Tryz.prog 2000 os) #[.int .i64 0] 8 rfl (World.shaped_of_RefB (by kernel_rfl) (by kernel_rfl)) (by kernel_rfl) (by kernel_rfl) (by kernel_rfl) (door_metE os _)) ?_
  intro W base args ds gs before hval0 hW _ _ hL _
  have hval : ∀ (j : Nat) t v, Tryz.f3.params[j]? = some t → args[j]? = some v → Value.okWide Tryz.prog W .any base t v := hval0
  have hW' := hW
  obtain ⟨p, q, hA0, hV, rfl, hfz, hnd⟩ := hW
  have hA : DataW.TrodAll enc Tryz.prog W 0 (fun _ => true) true Tryz.f3.params.toList args.toList ds p := hA0
  rw [Tryz.params3] at hA hval
  obtain ⟨v0, vs0, d0, ds0, p0, q0, hargs, rfl, rfl, h0, r0⟩ := trodAll_cons hA
  obtain ⟨rfl, rfl, rfl⟩ := trodAll_nil r0
  obtain rfl : args = #[v0] := by cases args; simp_all
  obtain ⟨rfl, rfl⟩ := trodVars_none hV
  obtain ⟨a0, rfl, rfl, rfl, w0⟩ := open_int Tryz.underlying3 (hval 0 3 v0 rfl rfl) h0
  clear hA0 hval0
  have hT := tabD hL
  have hs : 0 < W.heap.size := by
    have := hT 0 (by decide)
    unfold World.cell? at this
    split at this
    · rename_i e0; exact (Array.getElem?_eq_some_iff.1 e0).1
    · simp at this
  refine (ecKnown.plain W (natsE hs hT (tabP hL)) (f := 17) rfl (args := [.int .i64 a0]) (ExecCounts_spec ecRun rfl fun _ => rfl) rfl).mono fun e W' ⟨he, bel⟩ => ?_
  subst he
  exact ⟨_, rfl, _, _, _, [], _, [], hW', trodAll_mk1 (shut_bool Tryz.underlying4 _), (trodAll_cons_mk (shut_int Tryz.underlying3 w0) trodAll_mk0), rfl, bel.frame _, fun h => by cases h⟩
set_option maxRecDepth 100000 in
theorem ecs_row : Rows.ExecCountsSaid :=
  OpenClaim.holds_of_wide 3 Tryz.f3 rfl rfl rfl rfl rfl rfl rfl ⟨rfl, rfl, rfl, rfl, rfl⟩ rfl rfl rfl rfl rfl (by kernel_rfl) Tryz.func3 (by kernel_rfl)
    (of_decide_eq_true (by kernel_rfl)) (by unfold Func.isWrapper; first | (rw [if_pos (by decide +kernel)]; kernel_rfl) | (rw [if_neg (by decide +kernel)]; exact ⟨rfl, rfl⟩))
    (fun os started H enc _ => ecs_lifted os started H enc)
set_option maxRecDepth 100000 in
theorem ecs_proved : Rows.ExecCountsCardSaid :=
  Claim7.holds_tied_plain_at .later [] [.data, .data, .data] true (true, "b9c05d12d5dea04eca0dbb5f327e90b02e4c3b0cd2bfe451925bd385223a4995") false
    ecs_row (fun _ h => by cases h) (by kernel_rfl) (fun _ h => by cases h) execCounts_row_tie rfl ⟨rfl, rfl⟩ (by kernel_rfl) rfl
    (fun f fn hf hfn => by
      obtain rfl : f = 3 := Option.some.inj ((show Tryz.prog.funcNamed "jacquard/jacquardlaw11.ExecCounts" = some 3 by kernel_rfl).symm.trans hf) |>.symm
      obtain rfl : fn = Tryz.f3 := (Option.some.inj (Tryz.func3.symm.trans hfn)).symm
      exact ⟨by kernel_rfl, fun j t ht => by
        rw [Tryz.params3] at ht
        have hm : t ∈ [3] := by simpa using Array.mem_of_getElem? ht
        have hall : ([3].all fun u => !Tryz.prog.wantsStandIn u) = true := by kernel_rfl
        exact (show Tryz.prog.wantsStandIn t = false by simpa using List.all_eq_true.1 hall t hm)⟩)
    (by kernel_rfl)
#print axioms ecs_proved
end Go.Proofs.YthooijibekdekaaGreatDoor
