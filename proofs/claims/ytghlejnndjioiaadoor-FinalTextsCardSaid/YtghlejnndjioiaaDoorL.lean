/- Unlike ends have unlike texts, whatever the test and whatever the two ends: the statement FinalTexts, with no condition beside what the card ties. -/
import Derived.Test.YtghlejnndjioiaaDoorS
import Derived.Test.YtghlejnndjioiaaDoorT
import Derived.Test.YtghlejnndjioiaaDoorO
import Derived.Test.YtghlejnndjioiaaDoorI
import Derived.Test.YtghlejnndjioiaaDoorShelf
import Derived.Test.YtghlejnndjioiaaDoorCards
import Derived.Test.YtghlejnndjioiaaDoorTie
import Derived.SevenTiedAt
import Derived.WalkKit
import Derived.ProofKit
import Derived.OpenShut
import Derived.LaidMore
import Derived.Lib.LaidTab
import Derived.Lib.LaidU8
import Derived.Lib.AppendIntMem
set_option linter.unusedSimpArgs false
set_option linter.unusedVariables false
namespace Go.Proofs.YtghlejnndjioiaaDoor
open Go.ChangeShapes Go.WideShapes Go.ChangeAt Go.WideMaps Go.WideElems Go.RowKit Go.Jq Go.Lib
theorem ownF : ownKnob Tryd.prog.godebug = none := by kernel_rfl
theorem laidOutF : laidOutB Tryd.prog = true := by kernel_rfl
theorem ftRun : ∀ x ∈ FT_list, ftG x.1 = x.2 := by
  intro x hx
  simp only [FT_list, List.mem_cons, List.not_mem_nil, or_false] at hx
  rcases hx with rfl | rfl | rfl | rfl | rfl | rfl | rfl | rfl | rfl | rfl | rfl | rfl | rfl | rfl | rfl | rfl | rfl | rfl | rfl | rfl | rfl | rfl | rfl | rfl | rfl | rfl | rfl | rfl | rfl | rfl | rfl | rfl | rfl | rfl | rfl | rfl <;> rfl
theorem ftLaw : EtG ftG := { txt := { g276 := rfl, g264 := rfl, g262 := rfl, g271 := rfl, n86 := rfl, n87 := rfl }, comp := { g280 := rfl, g275 := rfl, g282 := rfl, g281 := rfl, g274 := rfl, g270 := rfl }, g268 := rfl, aw := ftRun }
def laidF {H : Type} : List (String × DataW H) := [("math/bits.deBruijn32tab", Rows.laid_math_bits_deBruijn32tab), ("math/bits.deBruijn64tab", Rows.laid_math_bits_deBruijn64tab), ("internal/strconv.uint64pow10", Rows.laid_internal_strconv_uint64pow10)]
theorem tabIs_reads {P : Program} {w : World} {name : String} {k : IntKind} {zs : List Int} {g t e n : Nat} (hg : P.globalNamed name = some g) (hty : (P.globals[g]?).map (·.type) = some t) (ht : P.underlying t = some (.array n e)) (he : P.underlying e = some (.int k)) (hce : P.cellsOf e = 1) (hct : P.cellsOf t = n) (h : VarReads P w name (tabData k zs)) : TabIs P w name k zs := by
  obtain ⟨g', t', cs, fuel, p, hg', ht', hvar, hd⟩ := h
  obtain rfl := Option.some.inj (hg.symm.trans hg')
  obtain rfl := Option.some.inj (hty.symm.trans ht')
  unfold TabIs
  rw [hvar, ← cells_of_tab ht he hce hct hd]
theorem tabF {W : World} (h : laidMetH Tryd.prog laidF W) : TabIs Tryd.prog W "internal/strconv.uint64pow10" .u64 pow10Tab := by
  rw [MakeChecks.laidMetH_plain _ _ _ (by kernel_rfl)] at h
  exact tabIs_reads (g := 1) (n := 20) (t := 191) (e := 25) (by kernel_rfl) (by kernel_rfl) (by kernel_rfl) (by kernel_rfl) (by kernel_rfl) (by kernel_rfl) (Go.Lib.laidMet.reads h (d := tabData .u64 pow10Tab) (by
    have e : (tabData .u64 pow10Tab : DataW Unit) = Rows.laid_internal_strconv_uint64pow10 := by kernel_rfl
    rw [e]; exact List.mem_cons_of_mem _ (List.mem_cons_of_mem _ List.mem_cons_self)))
theorem natsF {w : World} (hT : TabIs Tryd.prog w "internal/strconv.uint64pow10" .u64 pow10Tab) : ∀ x ∈ ftNames, ∀ n, (ftG x.1).body = .native n → NatOk (ftKnown.ctx w) n x.2 := by
  intro x hx n hn
  simp only [ftNames, List.mem_cons, List.not_mem_nil, or_false] at hx
  rcases hx with rfl | rfl | rfl | rfl | rfl | rfl | rfl | rfl | rfl | rfl | rfl | rfl | rfl | rfl | rfl | rfl | rfl | rfl | rfl | rfl | rfl | rfl | rfl | rfl | rfl | rfl | rfl | rfl | rfl | rfl | rfl | rfl | rfl | rfl | rfl | rfl | rfl | rfl | rfl | rfl | rfl | rfl | rfl | rfl | rfl
  all_goals first
    | (cases hn; done)
    | (cases hn
       exact natOk_join fun bk o c xs sep w h1 h2 h3 h4 h5 => Tryd.strings_Join bk o c xs sep w h1 h2 h3 h4 h5)
    | (cases hn
       exact natOk_itoa fun w' hb i hi => (Tryd.strconv_FormatInt_10 i hi.1 (by have := hi.2; omega) w' (tabBelow_of_tabIs hT w' hb)).mono fun e v ⟨h1, k, os, h2⟩ => ⟨h1, by rw [h2]; exact below_grow _ _ (Nat.le_refl _) k os⟩)
theorem door_metF (os : Os) (args : Array Value) : laidMetH Tryd.prog laidF ((World.doorLaid Tryd.prog 2000 os).forCall (fun _ _ => 0) ⟨#[], args, []⟩).memory :=
  laidMetH_of_parts3 (fuel := 8) (laidMet_of_run' 8 (by kernel_rfl) (by kernel_rfl)) (by kernel_rfl) (by kernel_rfl)
theorem VR_end {C : Ctx} {γ : Gm} (A : List Int) : VR C γ (.agg (endC A).toArray) (.agg (endC A).toArray) := by
  refine .agg (plains_VR ?_) fun x hx => ?_
  · rw [List.all_eq_true]
    intro x hx
    simp only [endC, List.mem_map] at hx
    obtain ⟨a, _, rfl⟩ := hx
    rfl
  · simp only [endC, List.mem_map] at hx
    obtain ⟨a, _, rfl⟩ := hx
    rfl
set_option maxRecDepth 100000 in
theorem texts_lifted (os : Os) (started : os.Started) (H : Type) (enc : TypeId × Value → H) :
    ReturnsInHanded {} Tryd.checked os 4 .any (fun w args => (Rows.finalTextsSpec.pre enc Tryd.prog Tryd.f4 [] false w args ∧ laidMetH Tryd.prog laidF w) ∧ sizedMet enc Tryd.prog Tryd.f4 (OpenSpec.ofChange Rows.finalTextsSpec) false w args)
      (Rows.finalTextsSpec.post enc Tryd.prog Tryd.f4 false true false false) := by
  refine returnsInHanded_of_change_and (C := Tryd.checked) (X := fun w _ => laidMetH Tryd.prog laidF w) (fun _ _ _ hh h => h.of_heap hh) ownF started (by kernel_rfl) Tryd.func4
    (ChangeSpec.witness_shaped (enc := enc) (C := Tryd.checked) (os := os) (X := fun w _ => laidMetH Tryd.prog laidF w) false (World.doorLaid Tryd.prog 2000 os) #[.slice none 0 0, .agg (Array.replicate 20 (.int .i64 0)), .agg (Array.replicate 20 (.int .i64 0))] 8 rfl (World.shaped_of_RefB (by kernel_rfl) (by kernel_rfl)) (by kernel_rfl) (by kernel_rfl) (by kernel_rfl) (door_metF os _)) ?_
  intro W base args ds gs before hval0 hW _ _ hL _
  have hval : ∀ (j : Nat) t v, Tryd.f4.params[j]? = some t → args[j]? = some v → Value.okWide Tryd.prog W .any base t v := hval0
  have hW' := hW
  obtain ⟨p, q, hA0, hV, rfl, hfz, hnd⟩ := hW
  have hA : DataW.TrodAll enc Tryd.prog W 0 (fun _ => true) true Tryd.f4.params.toList args.toList ds p := hA0
  rw [Tryd.params4] at hA hval
  obtain ⟨v0, vs0, d0, ds0, p0, q0, hargs, rfl, rfl, h0, r0⟩ := trodAll_cons hA
  obtain ⟨v1, vs1, d1, ds1, p1, q1, rfl, rfl, rfl, h1, r1⟩ := trodAll_cons r0
  obtain ⟨v2, vs2, d2, ds2, p2, q2, rfl, rfl, rfl, h2, r2⟩ := trodAll_cons r1
  obtain ⟨rfl, rfl, rfl⟩ := trodAll_nil r2
  obtain rfl : args = #[v0, v1, v2] := by cases args; simp_all
  obtain ⟨rfl, rfl⟩ := trodVars_none hV
  have lt0 : ∀ x ∈ p0, x.block < W.heap.size := by obtain ⟨m, hm⟩ := h0; exact DataW.trod_lt m _ _ _ hm
  have lt1 : ∀ x ∈ p1, x.block < W.heap.size := by obtain ⟨m, hm⟩ := h1; exact DataW.trod_lt m _ _ _ hm
  have lt2 : ∀ x ∈ p2, x.block < W.heap.size := by obtain ⟨m, hm⟩ := h2; exact DataW.trod_lt m _ _ _ hm
  have o0 := open_ints Tryd.underlying36 Tryd.underlying3 (by kernel_rfl) (hval 0 36 v0 rfl rfl) h0
  have op : ∀ {v d ps}, Value.okWide Tryd.prog W .any base 40 v → DataW.Trod enc Tryd.prog W 0 (fun _ => true) true 40 v d ps → ∃ A : List Int, v = .agg (endC A).toArray ∧ EndOk A := fun hv hd =>
    open_end Tryd.underlying40 Tryd.underlying38 Tryd.underlying37 Tryd.underlying37 Tryd.underlying2 (by kernel_rfl) (by kernel_rfl) (by kernel_rfl) (by kernel_rfl) (by kernel_rfl) rfl rfl hv hd
  obtain ⟨A, rfl, EA⟩ := op (hval 1 40 v1 rfl rfl) h1
  obtain ⟨B, rfl, EB⟩ := op (hval 2 40 v2 rfl rfl) h2
  clear hA0 hval0
  have hT := tabF hL
  obtain ⟨hh, γ, u0, l0, b1, _, _, b2, b3, b4⟩ := more_ints (C := ftKnown.ctx W) (HR.start rfl) rfl o0
  refine (law_true (C := ftKnown.ctx W) (ftKnown.tabN W (natsF hT)) (f := 268) rfl (FinalTexts_spec ftLaw b4 (Nat.le_trans b3 (by decide)) EA EB fun _ _ => rfl) b1 (args' := #[v0, .agg (endC A).toArray, .agg (endC B).toArray]) (.cons b2 (.cons (VR_end A) (.cons (VR_end B) .nil)))).mono fun e W' ⟨he, bel⟩ => ?_
  subst he
  exact ⟨_, rfl, _, _, _, [], _, [], hW', trodAll_mk1 (shut_bool Tryd.underlying4 _),
    (trodAll_cons_mk (Below.trod laidOutF (by kernel_rfl) (of_decide_eq_true (by kernel_rfl)) h0 bel lt0) (trodAll_cons_mk (Below.trod laidOutF (by kernel_rfl) (of_decide_eq_true (by kernel_rfl)) h1 bel lt1) (trodAll_cons_mk (Below.trod laidOutF (by kernel_rfl) (of_decide_eq_true (by kernel_rfl)) h2 bel lt2) trodAll_mk0))), rfl, bel.frame _, fun h => by cases h⟩
theorem texts_row : Rows.FinalTextsSaid :=
  OpenClaim.holds_of_wide 4 Tryd.f4 rfl rfl rfl rfl rfl rfl rfl ⟨rfl, rfl, rfl, rfl, rfl⟩ rfl rfl rfl rfl rfl (by kernel_rfl) Tryd.func4 (by kernel_rfl)
    (of_decide_eq_true (by kernel_rfl)) (by unfold Func.isWrapper; first | (rw [if_pos (by decide +kernel)]; kernel_rfl) | (rw [if_neg (by decide +kernel)]; exact ⟨rfl, rfl⟩))
    (fun os started H enc _ => texts_lifted os started H enc)
theorem texts_proved : Rows.FinalTextsCardSaid :=
  Claim7.holds_tied_plain_at .later [] [.data, .data, .data] true (true, "0a01d6e995d34b7e7f97ca4454c04b3a95eef9d628c8751e4a302d75b7dab32e") false
    texts_row (fun _ h => by cases h) (by kernel_rfl) (fun _ h => by cases h) finalTexts_row_tie rfl ⟨rfl, rfl⟩ (by kernel_rfl) rfl
    (fun f fn hf hfn => by
      obtain rfl : f = 4 := Option.some.inj ((show Tryd.prog.funcNamed "jacquard/jacquardlaw13.FinalTexts" = some 4 by kernel_rfl).symm.trans hf) |>.symm
      obtain rfl : fn = Tryd.f4 := (Option.some.inj (Tryd.func4.symm.trans hfn)).symm
      exact ⟨by kernel_rfl, fun j t ht => by
        rw [Tryd.params4] at ht
        have hm : t ∈ [36, 40, 40] := by simpa using Array.mem_of_getElem? ht
        have hall : ([36, 40, 40].all fun u => !Tryd.prog.wantsStandIn u) = true := by kernel_rfl
        exact (show Tryd.prog.wantsStandIn t = false by simpa using List.all_eq_true.1 hall t hm)⟩)
    (by kernel_rfl)
#print axioms texts_proved
end Go.Proofs.YtghlejnndjioiaaDoor
