/- Nothing is read that nobody wrote: of each candidate each value that is read is its source's, and sources and each thread's order lead nobody back to itself; whatever the numbers: the statement ExecNowhere, with no condition beside what the card ties. -/
import Derived.Test.YteobailpkkljpaaGreatDoorS
import Derived.Test.YteobailpkkljpaaGreatDoorO
import Derived.Test.YteobailpkkljpaaGreatDoorT
import Derived.Test.YteobailpkkljpaaGreatDoorShelf
import Derived.Test.YteobailpkkljpaaGreatDoorCards
import Derived.Test.YteobailpkkljpaaGreatDoorTie
import Derived.SevenTiedAt
import Derived.LaidMore
import Derived.Lib.LaidTab
import Derived.Lib.AppendIntMem
set_option linter.unusedSimpArgs false
set_option linter.unusedVariables false
set_option maxRecDepth 100000
namespace Go.Proofs.YteobailpkkljpaaGreatDoor
open Go.ChangeShapes Go.WideShapes Go.ChangeAt Go.WideMaps Go.WideElems Go.RowKit Go.Jq Go.Lib
theorem ownF:ownKnob Tryz.prog.godebug=none:=by kernel_rfl
theorem laidOutF:laidOutB Tryz.prog=true:=by kernel_rfl
def laidF {H : Type} : List (String × DataW H) := [("math/bits.deBruijn32tab", Rows.laid_math_bits_deBruijn32tab), ("math/bits.deBruijn64tab", Rows.laid_math_bits_deBruijn64tab), ("internal/strconv.uint64pow10", Rows.laid_internal_strconv_uint64pow10)]
theorem tabIs_reads{P:Program}{w:World}{name:String}{k:IntKind}{zs:List Int}{g t e n:Nat}(hg:P.globalNamed name=some g)(hty:(P.globals[g]?).map (·.type)=some t)(ht:P.underlying t=some (.array n e))(he:P.underlying e=some (.int k))(hce:P.cellsOf e=1)(hct:P.cellsOf t=n)(h:VarReads P w name (tabData k zs)):TabIs P w name k zs:=by
 obtain⟨g',t',cs,fuel,p,hg',ht',hvar,hd⟩:=h
 obtain rfl:=Option.some.inj (hg.symm.trans hg')
 obtain rfl:=Option.some.inj (hty.symm.trans ht')
 unfold TabIs
 rw[hvar,←cells_of_tab ht he hce hct hd]
theorem tabF {W : World} (h : laidMetH Tryz.prog laidF W) : TabIs Tryz.prog W "internal/strconv.uint64pow10" .u64 pow10Tab := by
 rw[MakeChecks.laidMetH_plain _ _ _ (by kernel_rfl)]at h
 exact tabIs_reads (g:=1) (n:=20) (t:=256) (e:=36) (by kernel_rfl) (by kernel_rfl) (by kernel_rfl) (by kernel_rfl) (by kernel_rfl) (by kernel_rfl) (Go.Lib.laidMet.reads h (d:=tabData .u64 pow10Tab) (by
  have e:(tabData .u64 pow10Tab:DataW Unit)=Rows.laid_internal_strconv_uint64pow10:=by kernel_rfl
  rw[e];exact List.mem_cons_of_mem _ (List.mem_cons_of_mem _ List.mem_cons_self)))
theorem tabZ{W:World}(h:laidMetH Tryz.prog laidF W):Go.Proofs.TabAt 0 deBruijn64tab W:=by
 rw[MakeChecks.laidMetH_plain _ _ _ (by kernel_rfl)]at h
 exact tab_reads (t:=247) (e:=5) (by kernel_rfl) (by kernel_rfl) (by kernel_rfl) (by kernel_rfl) (by kernel_rfl) (by kernel_rfl) (Go.Lib.laidMet.reads h (d:=tzData) (by
  have e:(tzData:DataW Unit)=Rows.laid_math_bits_deBruijn64tab:=by kernel_rfl
  rw[e];exact List.mem_cons_of_mem _ List.mem_cons_self))
theorem enNats:(enNames.all fun x=>match natOf? (enG x.1).body with
  | none=>true
  | some k=>(Nat.beq x.1 86&&(Nat.beq x.2 87&&Nat.beq k 3))||((Nat.beq x.1 154&&(Nat.beq x.2 153&&Nat.beq k 3))||((Nat.beq x.1 87&&(Nat.beq x.2 88&&Nat.beq k 2))||((Nat.beq x.1 200&&(Nat.beq x.2 166&&Nat.beq k 4))||(Nat.beq x.1 170&&(Nat.beq x.2 184&&Nat.beq k 0))))))=true:=by kernel_rfl
theorem natsF {w : World} (hs : 0 < w.heap.size) (hZ : Go.Proofs.TabAt 0 deBruijn64tab w) (hT : TabIs Tryz.prog w "internal/strconv.uint64pow10" .u64 pow10Tab) : ∀ x ∈ enNames, ∀ n, (enG x.1).body = .native n → NatOk (enKnown.ctx w) n x.2 := by
 intro x hx n hn
 have h:=List.all_eq_true.1 enNats x hx
 simp only[hn,natOf?,Bool.and_eq_true,Bool.or_eq_true]at h
 obtain⟨a,b⟩:=x
 rcases h with⟨h1,h2,h3⟩|⟨h1,h2,h3⟩|⟨h1,h2,h3⟩|⟨h1,h2,h3⟩|⟨h1,h2,h3⟩
 ·obtain rfl:a=86:=Nat.eq_of_beq_eq_true h1
  obtain rfl:b=87:=Nat.eq_of_beq_eq_true h2
  obtain rfl:n=3:=Nat.eq_of_beq_eq_true h3
  exact natOk_itoa fun w' hb i hi=>(Tryz.strconv_FormatInt_10 i hi.1 (by have:=hi.2;omega) w' (tabBelow_of_tabIs hT w' hb)).mono fun e v ⟨h1,k,os,h2⟩=>⟨h1,by rw[h2];exact below_grow _ _ (Nat.le_refl _) k os⟩
 ·obtain rfl:a=154:=Nat.eq_of_beq_eq_true h1
  obtain rfl:b=153:=Nat.eq_of_beq_eq_true h2
  obtain rfl:n=3:=Nat.eq_of_beq_eq_true h3
  exact natOk_itoa fun w' hb i hi=>(Tryz.internal_strconv_FormatInt_10 i hi.1 (by have:=hi.2;omega) w' (tabBelow_of_tabIs hT w' hb)).mono fun e v ⟨h1,k,os,h2⟩=>⟨h1,by rw[h2];exact below_grow _ _ (Nat.le_refl _) k os⟩
 ·obtain rfl:a=87:=Nat.eq_of_beq_eq_true h1
  obtain rfl:b=88:=Nat.eq_of_beq_eq_true h2
  obtain rfl:n=2:=Nat.eq_of_beq_eq_true h3
  exact natOk_join (fun a c sep w=>Tryz.strings_Join_none a c sep w) fun bk o c xs sep w h1 h2 h3 h4 h5=>Tryz.strings_Join bk o c xs sep w h1 h2 h3 h4 h5
 ·obtain rfl:a=200:=Nat.eq_of_beq_eq_true h1
  obtain rfl:b=166:=Nat.eq_of_beq_eq_true h2
  obtain rfl:n=4:=Nat.eq_of_beq_eq_true h3
  exact natOk_seq (V:=112) (E:=3) rfl fun Bs s0 b off cap x w' h1 h2 h3 h4=>Tryz.appendSeq1 Bs s0 b off cap x w' h1 h2 h3 h4
 ·obtain rfl:a=170:=Nat.eq_of_beq_eq_true h1
  obtain rfl:b=184:=Nat.eq_of_beq_eq_true h2
  obtain rfl:n=0:=Nat.eq_of_beq_eq_true h3
  exact natOk_tz (g:=0) hs hZ fun x h1 w' h2=>Any7.bits_TrailingZeros64 Tryz.tzLays x h1 w' h2
theorem door_metF(os:Os)(args:Array Value):laidMetH Tryz.prog laidF ((World.doorLaid Tryz.prog 2000 os).forCall (fun _ _=>0) ⟨#[],args,[]⟩).memory:=
 laidMetH_of_parts3 (fuel:=8) (laidMet_of_run' 8 (by kernel_rfl) (by kernel_rfl)) (by kernel_rfl) (by kernel_rfl)
theorem nowhere_lifted(os:Os)(started:os.Started)(H:Type)(enc:TypeId×Value→H):
  ReturnsInHanded {} Tryz.checked os 3 .any (fun w args=>(Rows.execNowhereSpec.pre enc Tryz.prog Tryz.f3 [] false w args∧laidMetH Tryz.prog laidF w)∧sizedMet enc Tryz.prog Tryz.f3 (OpenSpec.ofChange Rows.execNowhereSpec) false w args)
   (Rows.execNowhereSpec.post enc Tryz.prog Tryz.f3 false true false false):=by
 refine returnsInHanded_of_change_and (C:=Tryz.checked) (X:=fun w _=>laidMetH Tryz.prog laidF w) (fun _ _ _ hh h=>h.of_heap hh) ownF started (by kernel_rfl) Tryz.func3
  (ChangeSpec.witness_shaped (enc:=enc) (C:=Tryz.checked) (os:=os) (X:=fun w _=>laidMetH Tryz.prog laidF w) false (World.doorLaid Tryz.prog 2000 os) #[.slice none 0 0] 8 rfl (World.shaped_of_RefB (by kernel_rfl) (by kernel_rfl)) (by kernel_rfl) (by kernel_rfl) (by kernel_rfl) (door_metF os _)) ?_
 intro W base args ds gs before hval0 hW _ _ hL _
 have hval:∀(j:Nat) t v,Tryz.f3.params[j]?=some t→args[j]?=some v→Value.okWide Tryz.prog W .any base t v:=hval0
 have hW':=hW
 obtain⟨p,q,hA0,hV,rfl,hfz,hnd⟩:=hW
 have hA:DataW.TrodAll enc Tryz.prog W 0 (fun _=>true) true Tryz.f3.params.toList args.toList ds p:=hA0
 rw[Tryz.params3]at hA hval
 obtain⟨v0,vs0,d0,ds0,p0,q0,hargs,rfl,rfl,h0,r0⟩:=trodAll_cons hA
 obtain⟨rfl,rfl,rfl⟩:=trodAll_nil r0
 obtain rfl:args=#[v0]:=by cases args;simp_all
 obtain⟨rfl,rfl⟩:=trodVars_none hV
 have lt0:∀x∈p0,x.block<W.heap.size:=by obtain⟨m,hm⟩:=h0;exact DataW.trod_lt m _ _ _ hm
 have o0:=open_ints Tryz.underlying22 Tryz.underlying3 (by kernel_rfl) (hval 0 22 v0 rfl rfl) h0
 clear hA0 hval0
 have hT:=tabF hL
 have hZ:=tabZ hL
 have hs:0<W.heap.size:=by
  have:=hZ 0 (by decide)
  unfold World.cell? at this
  split at this
  ·rename_i e0;exact(Array.getElem?_eq_some_iff.1 e0).1
  ·simp at this
 obtain⟨hh,γ,u0,l0,b1,_,_,b2,b3,b4⟩:=more_ints (C:=enKnown.ctx W) (HR.start rfl) rfl o0
 refine(law_true (C:=enKnown.ctx W) (enKnown.tabN W (natsF hs hZ hT)) (f:=361) rfl (ExecNowhere_spec enLaw b4 (Nat.le_trans b3 (by decide)) fun _=>rfl) b1 (args':=#[v0]) (.cons b2 .nil)).mono fun e W' ⟨he,bel⟩=>?_
 subst he
 exact⟨_,rfl,_,_,_,[],_,[],hW',trodAll_mk1 (shut_bool Tryz.underlying4 _),
  (trodAll_cons_mk (Below.trod laidOutF (by kernel_rfl) (of_decide_eq_true (by kernel_rfl)) h0 bel lt0) trodAll_mk0),rfl,bel.frame _,fun h=>by cases h⟩
theorem nowhere_row:Rows.ExecNowhereSaid:=
 OpenClaim.holds_of_wide 3 Tryz.f3 rfl rfl rfl rfl rfl rfl rfl ⟨rfl,rfl,rfl,rfl,rfl⟩ rfl rfl rfl rfl rfl (by kernel_rfl) Tryz.func3 (by kernel_rfl)
  (of_decide_eq_true (by kernel_rfl)) (by unfold Func.isWrapper;first|(rw[if_pos (by decide +kernel)];kernel_rfl)|(rw[if_neg (by decide +kernel)];exact⟨rfl,rfl⟩))
  (fun os started H enc _=>nowhere_lifted os started H enc)
theorem nowhere_proved:Rows.ExecNowhereCardSaid:=
 Claim7.holds_tied_plain_at .later [] [.data, .data, .data] true (true, "6c36d505c4417e45506724b3e5b0458f07c3d4e89275cf9d9d7cea792f4238e7") false
  nowhere_row (fun _ h=>by cases h) (by kernel_rfl) (fun _ h=>by cases h) execNowhere_row_tie rfl ⟨rfl,rfl⟩ (by kernel_rfl) rfl
  (fun f fn hf hfn=>by
   obtain rfl : f = 3 := Option.some.inj ((show Tryz.prog.funcNamed "jacquard/jacquardlaw11.ExecNowhere" = some 3 by kernel_rfl).symm.trans hf) |>.symm
   obtain rfl:fn=Tryz.f3:=(Option.some.inj (Tryz.func3.symm.trans hfn)).symm
   exact⟨by kernel_rfl,fun j t ht=>by
    rw[Tryz.params3]at ht
    have hm:t∈[22]:=by simpa using Array.mem_of_getElem? ht
    have hall:([22].all fun u=>!Tryz.prog.wantsStandIn u)=true:=by kernel_rfl
    exact(show Tryz.prog.wantsStandIn t=false by simpa using List.all_eq_true.1 hall t hm)⟩)
  (by kernel_rfl)
#print axioms nowhere_proved
end Go.Proofs.YteobailpkkljpaaGreatDoor
