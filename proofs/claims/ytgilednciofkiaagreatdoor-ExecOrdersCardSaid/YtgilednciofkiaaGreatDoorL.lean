/- Candidates have one order: of two one is less, or they are the same; of three the order is one; unlike ones have unlike texts; whatever the numbers: the statement ExecOrders, with no condition beside what the card ties. -/
import Derived.Test.YtgilednciofkiaaGreatDoorS
import Derived.Test.YtgilednciofkiaaGreatDoorO
import Derived.Test.YtgilednciofkiaaGreatDoorW
import Derived.Test.YtgilednciofkiaaGreatDoorI
import Derived.Test.YtgilednciofkiaaGreatDoorShelf
import Derived.KernelRfl
import Derived.Test.YtgilednciofkiaaGreatDoorCards
import Derived.Test.YtgilednciofkiaaGreatDoorTie
import Derived.SevenTiedAt
import Derived.WalkKit
import Derived.ProofKit
import Derived.OpenShut
import Derived.LaidMore
import Derived.Lib.LaidTab
import Derived.Lib.LaidU8
import Derived.Lib.AppendIntMem
set_option linter.unusedSimpArgs false
set_option linter.unusedVariables false
namespace Go.Proofs.YtgilednciofkiaaGreatDoor
open Go.ChangeShapes Go.WideShapes Go.ChangeAt Go.WideMaps Go.WideElems Go.RowKit Go.Jq Go.Lib
theorem ownF:ownKnob Tryz.prog.godebug=none:=by kernel_rfl
theorem laidOutF:laidOutB Tryz.prog=true:=by kernel_rfl
def laidF {H : Type} : List (String × DataW H) := [("math/bits.deBruijn32tab", Rows.laid_math_bits_deBruijn32tab), ("math/bits.deBruijn64tab", Rows.laid_math_bits_deBruijn64tab), ("internal/strconv.uint64pow10", Rows.laid_internal_strconv_uint64pow10)]
theorem tabIs_reads {P:Program} {w:World} {name:String} {k:IntKind} {zs:List Int} {g t e n:Nat} (hg:P.globalNamed name=some g) (hty:(P.globals[g]?).map (·.type)=some t) (ht:P.underlying t=some (.array n e)) (he:P.underlying e=some (.int k)) (hce:P.cellsOf e=1) (hct:P.cellsOf t=n) (h:VarReads P w name (tabData k zs)):TabIs P w name k zs:=by
  obtain ⟨g',t',cs,fuel,p,hg',ht',hvar,hd⟩:=h
  obtain rfl:=Option.some.inj (hg.symm.trans hg')
  obtain rfl:=Option.some.inj (hty.symm.trans ht')
  unfold TabIs
  rw [hvar,← cells_of_tab ht he hce hct hd]
theorem tabF {W : World} (h : laidMetH Tryz.prog laidF W) : TabIs Tryz.prog W "internal/strconv.uint64pow10" .u64 pow10Tab := by
  rw [MakeChecks.laidMetH_plain _ _ _ (by kernel_rfl)] at h
  exact tabIs_reads (g:=0) (n:=20) (t:=238) (e:=49) (by kernel_rfl) (by kernel_rfl) (by kernel_rfl) (by kernel_rfl) (by kernel_rfl) (by kernel_rfl) (Go.Lib.laidMet.reads h (d:=tabData .u64 pow10Tab) (by
    have e:(tabData .u64 pow10Tab:DataW Unit)=Rows.laid_internal_strconv_uint64pow10:=by kernel_rfl
    rw [e];exact List.mem_cons_of_mem _ (List.mem_cons_of_mem _ List.mem_cons_self)))
theorem eoNats:(eoNames.all fun x=>match natOf? (eoG x.1).body with
    | none=>true
    | some k=>(Nat.beq x.1 86 && (Nat.beq x.2 37 && Nat.beq k 3)) || ((Nat.beq x.1 154 && (Nat.beq x.2 82 && Nat.beq k 3)) || ((Nat.beq x.1 87 && (Nat.beq x.2 38 && Nat.beq k 2)) || (Nat.beq x.1 200 && (Nat.beq x.2 197 && Nat.beq k 4)))))=true:=by kernel_rfl
theorem natsF {w : World} (hT : TabIs Tryz.prog w "internal/strconv.uint64pow10" .u64 pow10Tab) : ∀ x ∈ eoNames, ∀ n, (eoG x.1).body = .native n → NatOk (eoKnown.ctx w) n x.2 := by
  intro x hx n hn
  have h:=List.all_eq_true.1 eoNats x hx
  simp only [hn,natOf?,Bool.and_eq_true,Bool.or_eq_true] at h
  obtain ⟨a,b⟩:=x
  rcases h with ⟨h1,h2,h3⟩ | ⟨h1,h2,h3⟩ | ⟨h1,h2,h3⟩ | ⟨h1,h2,h3⟩
  · obtain rfl:a=86:=Nat.eq_of_beq_eq_true h1
    obtain rfl:b=37:=Nat.eq_of_beq_eq_true h2
    obtain rfl:n=3:=Nat.eq_of_beq_eq_true h3
    exact natOk_itoa fun w' hb i hi=>(Tryz.strconv_FormatInt_10 i hi.1 (by have:=hi.2;omega) w' (tabBelow_of_tabIs hT w' hb)).mono fun e v ⟨h1,k,os,h2⟩=>⟨h1,by rw [h2];exact below_grow _ _ (Nat.le_refl _) k os⟩
  · obtain rfl:a=154:=Nat.eq_of_beq_eq_true h1
    obtain rfl:b=82:=Nat.eq_of_beq_eq_true h2
    obtain rfl:n=3:=Nat.eq_of_beq_eq_true h3
    exact natOk_itoa fun w' hb i hi=>(Tryz.internal_strconv_FormatInt_10 i hi.1 (by have:=hi.2;omega) w' (tabBelow_of_tabIs hT w' hb)).mono fun e v ⟨h1,k,os,h2⟩=>⟨h1,by rw [h2];exact below_grow _ _ (Nat.le_refl _) k os⟩
  · obtain rfl:a=87:=Nat.eq_of_beq_eq_true h1
    obtain rfl:b=38:=Nat.eq_of_beq_eq_true h2
    obtain rfl:n=2:=Nat.eq_of_beq_eq_true h3
    exact natOk_join (fun a c sep w=>Tryz.strings_Join_none a c sep w) fun bk o c xs sep w h1 h2 h3 h4 h5=>Tryz.strings_Join bk o c xs sep w h1 h2 h3 h4 h5
  · obtain rfl:a=200:=Nat.eq_of_beq_eq_true h1
    obtain rfl:b=197:=Nat.eq_of_beq_eq_true h2
    obtain rfl:n=4:=Nat.eq_of_beq_eq_true h3
    exact natOk_seq (V:=150) (E:=3) rfl fun Bs s0 b off cap x w' h1 h2 h3 h4=>Tryz.appendSeq1 Bs s0 b off cap x w' h1 h2 h3 h4
theorem door_metF (os:Os) (args:Array Value):laidMetH Tryz.prog laidF ((World.doorLaid Tryz.prog 2000 os).forCall (fun _ _=>0) ⟨#[],args,[]⟩).memory :=
  laidMetH_of_parts3 (fuel:=8) (laidMet_of_run' 8 (by kernel_rfl) (by kernel_rfl)) (by kernel_rfl) (by kernel_rfl)
set_option maxRecDepth 100000 in
theorem orders_lifted (os:Os) (started:os.Started) (H:Type) (enc:TypeId×Value→H) :
    ReturnsInHanded {} Tryz.checked os 3 .any (fun w args=>(Rows.execOrdersSpec.pre enc Tryz.prog Tryz.f3 [] false w args∧laidMetH Tryz.prog laidF w)∧sizedMet enc Tryz.prog Tryz.f3 (OpenSpec.ofChange Rows.execOrdersSpec) false w args)
      (Rows.execOrdersSpec.post enc Tryz.prog Tryz.f3 false true false false):=by
  refine returnsInHanded_of_change_and (C:=Tryz.checked) (X:=fun w _=>laidMetH Tryz.prog laidF w) (fun _ _ _ hh h=>h.of_heap hh) ownF started (by kernel_rfl) Tryz.func3
    (ChangeSpec.witness_shaped (enc:=enc) (C:=Tryz.checked) (os:=os) (X:=fun w _=>laidMetH Tryz.prog laidF w) false (World.doorLaid Tryz.prog 2000 os) #[.slice none 0 0,.int .i64 0,.int .i64 0,.int .i64 0] 8 rfl (World.shaped_of_RefB (by kernel_rfl) (by kernel_rfl)) (by kernel_rfl) (by kernel_rfl) (by kernel_rfl) (door_metF os _)) ?_
  intro W base args ds gs before hval0 hW _ _ hL _
  have hval:∀ (j:Nat) t v,Tryz.f3.params[j]?=some t→args[j]?=some v→Value.okWide Tryz.prog W .any base t v:=hval0
  have hW':=hW
  obtain ⟨p,q,hA0,hV,rfl,hfz,hnd⟩:=hW
  have hA:DataW.TrodAll enc Tryz.prog W 0 (fun _=>true) true Tryz.f3.params.toList args.toList ds p:=hA0
  rw [Tryz.params3] at hA hval
  obtain ⟨v0,vs0,d0,ds0,p0,q0,hargs,rfl,rfl,h0,r0⟩:=trodAll_cons hA
  obtain ⟨v1,vs1,d1,ds1,p1,q1,rfl,rfl,rfl,h1,r1⟩:=trodAll_cons r0
  obtain ⟨v2,vs2,d2,ds2,p2,q2,rfl,rfl,rfl,h2,r2⟩:=trodAll_cons r1
  obtain ⟨v3,vs3,d3,ds3,p3,q3,rfl,rfl,rfl,h3,r3⟩:=trodAll_cons r2
  obtain ⟨rfl,rfl,rfl⟩:=trodAll_nil r3
  obtain rfl:args=#[v0,v1,v2,v3]:=by cases args;simp_all
  obtain ⟨rfl,rfl⟩:=trodVars_none hV
  obtain ⟨a1,rfl,rfl,rfl,w1⟩:=open_int Tryz.underlying3 (hval 1 3 v1 rfl rfl) h1
  obtain ⟨a2,rfl,rfl,rfl,w2⟩:=open_int Tryz.underlying3 (hval 2 3 v2 rfl rfl) h2
  obtain ⟨a3,rfl,rfl,rfl,w3⟩:=open_int Tryz.underlying3 (hval 3 3 v3 rfl rfl) h3
  have lt0:∀ x ∈ p0,x.block < W.heap.size:=by obtain ⟨m,hm⟩:=h0;exact DataW.trod_lt m _ _ _ hm
  have o0:=open_ints Tryz.underlying22 Tryz.underlying3 (by kernel_rfl) (hval 0 22 v0 rfl rfl) h0
  clear hA0 hval0
  have hT:=tabF hL
  obtain ⟨hh,γ,u0,l0,b1,_,_,b2,b3,b4⟩:=more_ints (C:=eoKnown.ctx W) (HR.start rfl) rfl o0
  refine (law_true (C:=eoKnown.ctx W) (eoKnown.tabN W (natsF hT)) (f:=334) rfl (ExecOrders_spec eoLaw b4 (Nat.le_trans b3 (by decide)) fun _=>rfl) b1 (args':=#[v0,.int .i64 a1,.int .i64 a2,.int .i64 a3]) (.cons b2 (.cons .int (.cons .int (.cons .int .nil))))).mono fun e W' ⟨he,bel⟩=>?_
  subst he
  exact ⟨_,rfl,_,_,_,[],_,[],hW',trodAll_mk1 (shut_bool Tryz.underlying4 _),
    (trodAll_cons_mk (Below.trod laidOutF (by kernel_rfl) (of_decide_eq_true (by kernel_rfl)) h0 bel lt0) (trodAll_cons_mk (shut_int Tryz.underlying3 w1) (trodAll_cons_mk (shut_int Tryz.underlying3 w2) (trodAll_cons_mk (shut_int Tryz.underlying3 w3) trodAll_mk0)))),rfl,bel.frame _,fun h=>by cases h⟩
theorem orders_row:Rows.ExecOrdersSaid :=
  OpenClaim.holds_of_wide 3 Tryz.f3 rfl rfl rfl rfl rfl rfl rfl ⟨rfl,rfl,rfl,rfl,rfl⟩ rfl rfl rfl rfl rfl (by kernel_rfl) Tryz.func3 (by kernel_rfl)
    (of_decide_eq_true (by kernel_rfl)) (by unfold Func.isWrapper;first | (rw [if_pos (by decide +kernel)];kernel_rfl) | (rw [if_neg (by decide +kernel)];exact ⟨rfl,rfl⟩))
    (fun os started H enc _=>orders_lifted os started H enc)
theorem orders_proved:Rows.ExecOrdersCardSaid :=
  Claim7.holds_tied_plain_at .later [] [.data, .data, .data] true (true, "87077f0eef6328d6fe836c3f067290dcd6c3e2e7c0fc7d84025f7d5d0783352f") false
    orders_row (fun _ h=>by cases h) (by kernel_rfl) (fun _ h=>by cases h) execOrders_row_tie rfl ⟨rfl,rfl⟩ (by kernel_rfl) rfl
    (fun f fn hf hfn=>by
      obtain rfl : f = 3 := Option.some.inj ((show Tryz.prog.funcNamed "jacquard/jacquardlaw11.ExecOrders" = some 3 by kernel_rfl).symm.trans hf) |>.symm
      obtain rfl:fn=Tryz.f3:=(Option.some.inj (Tryz.func3.symm.trans hfn)).symm
      exact ⟨by kernel_rfl,fun j t ht=>by
        rw [Tryz.params3] at ht
        have hm:t ∈ [22,3,3,3]:=by simpa using Array.mem_of_getElem? ht
        have hall:([22,3,3,3].all fun u=>!Tryz.prog.wantsStandIn u)=true:=by kernel_rfl
        exact (show Tryz.prog.wantsStandIn t=false by simpa using List.all_eq_true.1 hall t hm)⟩)
    (by kernel_rfl)
#print axioms orders_proved
end Go.Proofs.YtgilednciofkiaaGreatDoor
