/- With a fence between any two instructions a program is consistent by each model as by the strongest, whatever the numbers: the statement AxiomFenced, with no condition beside what the card ties. -/
import Derived.Test.YtnojkhkbnjcghaaGreatDoorS
import Derived.Test.YtnojkhkbnjcghaaGreatDoorO
import Derived.Test.YtnojkhkbnjcghaaGreatDoorI
import Derived.Test.YtnojkhkbnjcghaaGreatDoorZ
import Derived.KernelRfl
import Derived.Test.YtnojkhkbnjcghaaGreatDoorCards
import Derived.Test.YtnojkhkbnjcghaaGreatDoorTie
import Derived.SevenTiedAt
import Derived.WalkKit
import Derived.ProofKit
import Derived.OpenShut
import Derived.LaidMore
set_option linter.unusedSimpArgs false
set_option linter.unusedVariables false
namespace Go.Proofs.YtnojkhkbnjcghaaGreatDoor
open Go.ChangeShapes Go.WideShapes Go.ChangeAt Go.WideMaps Go.WideElems Go.RowKit Go.Jq Go.Lib
theorem ownM:ownKnob Tryz.prog.godebug=none:=by kernel_rfl
theorem laidOutM:laidOutB Tryz.prog=true:=by kernel_rfl
def laidM {H : Type} : List (String × DataW H) := [("math/bits.deBruijn64tab", Rows.laid_math_bits_deBruijn64tab)]
theorem tabM {W:World} (h:laidMetH Tryz.prog laidM W):Go.Proofs.TabAt 0 deBruijn64tab W:=by
  rw [MakeChecks.laidMetH_plain _ _ _ (by kernel_rfl)] at h
  exact tab_reads (t:=202) (e:=5) (by kernel_rfl) (by kernel_rfl) (by kernel_rfl) (by kernel_rfl) (by kernel_rfl) (by kernel_rfl) (Go.Lib.laidMet.reads h (d:=tzData) (by
    have e:(tzData:DataW Unit)=Rows.laid_math_bits_deBruijn64tab:=by kernel_rfl
    rw [e];exact List.mem_cons_self))
theorem afNats:(afNames.all fun x=>match natOf? (afG x.1).body with
    | none=>true
    | some k=>Nat.beq x.1 170 && (Nat.beq x.2 133 && Nat.beq k 0))=true:=by kernel_rfl
theorem natsM {w:World} (hs:0 < w.heap.size) (hT:Go.Proofs.TabAt 0 deBruijn64tab w):∀ x ∈ afNames,∀ n,(afG x.1).body=.native n→NatOk (afKnown.ctx w) n x.2:=by
  intro x hx n hn
  have h:=List.all_eq_true.1 afNats x hx
  simp only [hn,natOf?,Bool.and_eq_true] at h
  obtain ⟨a,b⟩:=x
  obtain rfl:a=170:=Nat.eq_of_beq_eq_true h.1
  obtain rfl:b=133:=Nat.eq_of_beq_eq_true h.2.1
  obtain rfl:n=0:=Nat.eq_of_beq_eq_true h.2.2
  exact natOk_tz (g:=0) hs hT fun x h1 w' h2=>Any7.bits_TrailingZeros64 Tryz.tzLays x h1 w' h2
theorem door_metM (os:Os) (args:Array Value):laidMetH Tryz.prog laidM ((World.doorLaid Tryz.prog 2000 os).forCall (fun _ _=>0) ⟨#[],args,[]⟩).memory :=
  laidMetH_of_parts3 (fuel:=8) (laidMet_of_run' 8 (by kernel_rfl) (by kernel_rfl)) (by kernel_rfl) (by kernel_rfl)
set_option maxRecDepth 100000 in
theorem fenced_lifted (os:Os) (started:os.Started) (H:Type) (enc:TypeId×Value→H) :
    ReturnsInHanded {} Tryz.checked os 3 .any (fun w args=>(Rows.axiomFencedSpec.pre enc Tryz.prog Tryz.f3 [] false w args∧laidMetH Tryz.prog laidM w)∧sizedMet enc Tryz.prog Tryz.f3 (OpenSpec.ofChange Rows.axiomFencedSpec) false w args)
      (Rows.axiomFencedSpec.post enc Tryz.prog Tryz.f3 false true false false):=by
  refine returnsInHanded_of_change_and (C:=Tryz.checked) (X:=fun w _=>laidMetH Tryz.prog laidM w) (fun _ _ _ hh h=>h.of_heap hh) ownM started (by kernel_rfl) Tryz.func3
    (ChangeSpec.witness_shaped (enc:=enc) (C:=Tryz.checked) (os:=os) (X:=fun w _=>laidMetH Tryz.prog laidM w) false (World.doorLaid Tryz.prog 2000 os) #[.slice none 0 0] 8 rfl (World.shaped_of_RefB (by kernel_rfl) (by kernel_rfl)) (by kernel_rfl) (by kernel_rfl) (by kernel_rfl) (door_metM os _)) ?_
  intro W base args ds gs before hval0 hW _ _ hL _
  have hval:∀ (j:Nat) t v,Tryz.f3.params[j]?=some t→args[j]?=some v→Value.okWide Tryz.prog W .any base t v:=hval0
  have hW':=hW
  obtain ⟨p,q,hA0,hV,rfl,hfz,hnd⟩:=hW
  have hA:DataW.TrodAll enc Tryz.prog W 0 (fun _=>true) true Tryz.f3.params.toList args.toList ds p:=hA0
  rw [Tryz.params3] at hA hval
  obtain ⟨v0,vs0,d0,ds0,p0,q0,hargs,rfl,rfl,h0,r0⟩:=trodAll_cons hA
  obtain ⟨rfl,rfl,rfl⟩:=trodAll_nil r0
  obtain rfl:args=#[v0]:=by cases args;simp_all
  obtain ⟨rfl,rfl⟩:=trodVars_none hV
  have lt0:∀ x ∈ p0,x.block < W.heap.size:=by obtain ⟨m,hm⟩:=h0;exact DataW.trod_lt m _ _ _ hm
  have o0:=open_ints Tryz.underlying22 Tryz.underlying3 (by kernel_rfl) (hval 0 22 v0 rfl rfl) h0
  clear hA0 hval0
  have hT:=tabM hL
  have hs:0 < W.heap.size:=by
    have:=hT 0 (by decide)
    unfold World.cell? at this
    split at this
    · rename_i e0;exact (Array.getElem?_eq_some_iff.1 e0).1
    · simp at this
  obtain ⟨hh,γ,u0,l0,b1,_,_,b2,b3,b4⟩:=more_ints (C:=afKnown.ctx W) (HR.start rfl) rfl o0
  refine (law_true (C:=afKnown.ctx W) (afKnown.tabN W (natsM hs hT)) (f:=361) rfl (AxiomFenced_spec afLaw b4 (Nat.le_trans b3 (by decide)) fun _=>rfl) b1 (args':=#[v0]) (.cons b2 .nil)).mono fun e W' ⟨he,bel⟩=>?_
  subst he
  exact ⟨_,rfl,_,_,_,[],_,[],hW',trodAll_mk1 (shut_bool Tryz.underlying4 _),
    (trodAll_cons_mk (Below.trod laidOutM (by kernel_rfl) (of_decide_eq_true (by kernel_rfl)) h0 bel lt0) trodAll_mk0),rfl,bel.frame _,fun h=>by cases h⟩
theorem fenced_row:Rows.AxiomFencedSaid :=
  OpenClaim.holds_of_wide 3 Tryz.f3 rfl rfl rfl rfl rfl rfl rfl ⟨rfl,rfl,rfl,rfl,rfl⟩ rfl rfl rfl rfl rfl (by kernel_rfl) Tryz.func3 (by kernel_rfl)
    (of_decide_eq_true (by kernel_rfl)) (by unfold Func.isWrapper;first | (rw [if_pos (by decide +kernel)];kernel_rfl) | (rw [if_neg (by decide +kernel)];exact ⟨rfl,rfl⟩))
    (fun os started H enc _=>fenced_lifted os started H enc)
theorem fenced_proved:Rows.AxiomFencedCardSaid :=
  Claim7.holds_tied_plain_at .later [] [.data] true (true, "41a8fcca53370f362fab9da835479e5f0877ddb89a2ce742ed4bf1889ddfb4bf") false
    fenced_row (fun _ h=>by cases h) (by kernel_rfl) (fun _ h=>by cases h) axiomFenced_row_tie rfl ⟨rfl,rfl⟩ (by kernel_rfl) rfl
    (fun f fn hf hfn=>by
      obtain rfl : f = 3 := Option.some.inj ((show Tryz.prog.funcNamed "jacquard/jacquardlaw12.AxiomFenced" = some 3 by kernel_rfl).symm.trans hf) |>.symm
      obtain rfl:fn=Tryz.f3:=(Option.some.inj (Tryz.func3.symm.trans hfn)).symm
      exact ⟨by kernel_rfl,fun j t ht=>by
        rw [Tryz.params3] at ht
        have hm:t ∈ [22]:=by simpa using Array.mem_of_getElem? ht
        have hall:([22].all fun u=>!Tryz.prog.wantsStandIn u)=true:=by kernel_rfl
        exact (show Tryz.prog.wantsStandIn t=false by simpa using List.all_eq_true.1 hall t hm)⟩)
    (by kernel_rfl)
#print axioms fenced_proved
end Go.Proofs.YtnojkhkbnjcghaaGreatDoor
