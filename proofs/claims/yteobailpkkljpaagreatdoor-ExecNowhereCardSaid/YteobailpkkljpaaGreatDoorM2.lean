/- Each operation beside its small form. -/
import Derived.Test.YteobailpkkljpaaGreatDoorM1
import Derived.Orders
import Derived.Tactics
set_option linter.unusedSimpArgs false
set_option linter.unusedVariables false
namespace Go.Jq
open Go.RowKit
structure Good(C:Ctx)(γ:Gm)(o:Oper)(a:Act)(ρ:SOpd→Option Value)(so:SOp):Prop where
 quiet:so.quiet=true→∀h out,sop so ρ h=some out→∃v,out=.val v h∧Qt C γ o a v
 float:so.float=true→∀h out,sop so ρ h=some out→∃v blk,out=.val v (h.alloc blk)∧Fl C γ o a v h.next blk
 still:so.still=true→∀h w,HR C γ h w→∀out,sop so ρ h=some out→∃v,out=.val v h∧∃v',(execOp a.eval o).run C.P w=.ok (.value v') w∧VR C γ v v'
 all:∀h w,HR C γ h w→∀out,sop so ρ h=some out→OutOk C γ h o a w out
section
variable {C:Ctx} {γ:Gm} {a:Act} {ρ:SOpd→Option Value} {o:Oper} {so:SOp}
theorem Good.ofQuiet(hf:so.float=false)(k:∀h out,sop so ρ h=some out→∃v,out=.val v h∧Qt C γ o a v):Good C γ o a ρ so:=
 ⟨fun _=>k,fun h=>by rw[hf]at h;simp at h,fun _ h w _ out hs=>by
  obtain⟨v,rfl,q⟩:=k h out hs
  obtain⟨v',q1,q2⟩:=q w
  exact⟨v,rfl,v',q1,q2⟩,fun h w H out hs=>by
  obtain⟨v,rfl,q⟩:=k h out hs
  obtain⟨v',q1,q2⟩:=q w
  exact⟨v',w,γ,q1,.same (Nat.le_refl _),H,q2⟩⟩
theorem Good.ofFloat(hq:so.quiet=false)(hst:so.still=false)(k:∀h out,sop so ρ h=some out→∃v blk,out=.val v (h.alloc blk)∧Fl C γ o a v h.next blk):Good C γ o a ρ so:=
 ⟨fun h=>by rw[hq]at h;simp at h,fun _=>k,fun h=>by rw[hst]at h;simp at h,fun h w H out hs=>by
  obtain⟨v,blk,rfl,fl⟩:=k h out hs
  obtain⟨v',obj,N,q1,q2⟩:=fl.go w H.size
  have hsub:=gset_sub (x:=(w.heap.size,0,N)) (H.dom _ (Nat.le_refl _))
  obtain⟨q3,q4⟩:=q2 _ hsub (by simp[gset])
  obtain⟨_,q5⟩:=H.alloc q4
  exact⟨v',_,_,q1,⟨hsub,fun b hb=>by unfold gset;rw[if_neg (by omega)],by rw[AH.alloc_next];omega⟩,q5,q3⟩⟩
theorem Good.ofStill(hq:so.quiet=false)(hf:so.float=false)(k:∀h w,HR C γ h w→∀out,sop so ρ h=some out→∃v,out=.val v h∧∃v',(execOp a.eval o).run C.P w=.ok (.value v') w∧VR C γ v v'):Good C γ o a ρ so:=
 ⟨fun h=>by rw[hq]at h;simp at h,fun h=>by rw[hf]at h;simp at h,fun _=>k,fun h w H out hs=>by
  obtain⟨v,rfl,v',q1,q2⟩:=k h w H out hs
  exact⟨v',w,γ,q1,.same (Nat.le_refl _),H,q2⟩⟩
theorem Good.ofAll(hq:so.quiet=false)(hf:so.float=false)(hst:so.still=false)(k:∀h w,HR C γ h w→∀out,sop so ρ h=some out→OutOk C γ h o a w out):Good C γ o a ρ so:=
 ⟨fun h=>by rw[hq]at h;simp at h,fun h=>by rw[hf]at h;simp at h,fun h=>by rw[hst]at h;simp at h,k⟩
theorem good_mov{x:Operand}{sx:SOpd}(ho:o.op=.move x∨o.op=.assign x)(hρ:OR C γ ρ a)(hx:cOpd C.ψ x=some sx):Good C γ o a ρ (.mov sx):=by
 refine .ofQuiet rfl fun h out hs=>?_
 simp only[sop]at hs
 split at hs
 ·rename_i v hv
  simp only[Option.some.injEq]at hs;subst hs
  exact⟨v,rfl,q_mov ho hρ hx hv⟩
 ·simp at hs
theorem good_pick{c x y:Operand}{sc sx sy:SOpd}(ho:o.op=.pick c x y)(hρ:OR C γ ρ a)(hc:cOpd C.ψ c=some sc)(hx:cOpd C.ψ x=some sx)(hy:cOpd C.ψ y=some sy):Good C γ o a ρ (.pick sc sx sy):=by
 refine .ofQuiet rfl fun h out hs=>?_
 simp only[sop]at hs
 split at hs
 ·rename_i t u v e1 e2 e3
  simp only[Option.some.injEq]at hs;subst hs
  refine⟨_,rfl,q_pick ho (hρ c sc _ hc e1) ?_⟩
  cases t
  ·exact hρ y sy _ hy e3
  ·exact hρ x sx _ hx e2
 ·rename_i u e1 e2 e3
  simp only[Option.some.injEq]at hs;subst hs
  exact⟨_,rfl,q_pick ho (hρ c sc _ hc e1) (hρ x sx _ hx e2)⟩
 ·rename_i u e1 e2 e3
  simp only[Option.some.injEq]at hs;subst hs
  exact⟨_,rfl,q_pick ho (hρ c sc _ hc e1) (hρ y sy _ hy e3)⟩
 ·simp at hs
theorem good_bin{op:BinOp}{t u:TypeId}{x y:Operand}{sx sy:SOpd}(ho:o.op=.binOp op t x y u)(hρ:OR C γ ρ a)(hx:cOpd C.ψ x=some sx)(hy:cOpd C.ψ y=some sy):Good C γ o a ρ (.bin op sx sy):=by
 refine .ofQuiet rfl fun h out hs=>?_
 simp only[sop]at hs
 split at hs
 ·rename_i p q e1 e2
  split at hs
  ·rename_i v hv
   simp only[Option.some.injEq]at hs;subst hs
   exact⟨v,rfl,q_bin ho (hρ x sx _ hx e1) (hρ y sy _ hy e2) hv⟩
  ·simp at hs
 ·simp at hs
theorem cOpd_nil{k:Nat}{y:Operand}(h:isNil k y=true):∃n,a.eval y=n∧snil k n=some true:=by
 unfold isNil at h
 split at h<;>first|exact⟨_,rfl,rfl⟩|simp at h
theorem good_cbin{op:BinOp}{t u:TypeId}{x y:Operand}(ho:o.op=.binOp op t x y u)(hρ:OR C γ ρ a)(hc:cBin C.P C.ψ op t x y=some so):Good C γ o a ρ so:=by
 simp only[cBin,bind,Option.bind_eq_some_iff]at hc
 obtain⟨sx,hx,sy,hy,hc⟩:=hc
 have eqs:(op=.eql∨op=.neq)→(match C.P.underlying t with
   | some (.int _)|some .string=>some (SOp.bin op sx sy)
   | some .bool=>some (.eqB (isNeq op) sx sy)
   | some (.struct _)|some (.array ..)=>
    match kindsT C.P 20 t with
    | some ks=>if C.P.eqGuardType C.P.depth t then none else some (.eqN (isNeq op) ks sx sy)
    | none=>none
   | some d=>match nilKind d with
    | some k=>if isNil k y then some (.isnil k (isNeq op) sx)else if isNil k x then some (.isnil k (isNeq op) sy)else none
    | none=>none
   | none=>none)=some so→Good C γ o a ρ so:=by
  intro hop hc
  have agg:∀d,C.P.underlying t=some d→aggD d=true→(match kindsT C.P 20 t with
    | some ks=>if C.P.eqGuardType C.P.depth t then none else some (.eqN (isNeq op) ks sx sy)
    | none=>none)=some so→Good C γ o a ρ so:=by
   intro d hu ha hc
   split at hc
   ·rename_i ks hk
    split at hc
    ·simp at hc
    ·rename_i hg
     simp only[Option.some.injEq]at hc;subst hc
     refine .ofQuiet rfl fun h out hs=>?_
     simp only[sop]at hs
     split at hs
     ·rename_i p q e1 e2
      split at hs
      ·rename_i r hr
       simp only[Option.some.injEq]at hs;subst hs
       exact⟨_,rfl,q_eqN ho hop hu ha hk (by simpa using hg) (hρ x sx _ hx e1) (hρ y sy _ hy e2) hr⟩
      ·simp at hs
     ·simp at hs
   ·simp at hc
  split at hc
  ·simp only[Option.some.injEq]at hc;subst hc;exact good_bin ho hρ hx hy
  ·simp only[Option.some.injEq]at hc;subst hc;exact good_bin ho hρ hx hy
  ·rename_i hu
   simp only[Option.some.injEq]at hc;subst hc
   refine .ofQuiet rfl fun h out hs=>?_
   simp only[sop]at hs
   split at hs
   ·rename_i p q e1 e2
    simp only[Option.some.injEq]at hs;subst hs
    exact⟨_,rfl,q_eqB ho hop hu (hρ x sx _ hx e1) (hρ y sy _ hy e2)⟩
   ·simp at hs
  ·rename_i fs hu;exact agg _ hu rfl hc
  ·rename_i n e hu;exact agg _ hu rfl hc
  ·rename_i d _ _ _ _ _ hu
   split at hc
   ·rename_i k hk
    have one:∀{z zz:Operand} {sz:SOpd},cOpd C.ψ z=some sz→((z=x∧zz=y)∨(z=y∧zz=x))→isNil k zz=true→Good C γ o a ρ (.isnil k (isNeq op) sz):=by
     intro z zz sz hz hzz hn
     refine .ofQuiet rfl fun h out hs=>?_
     simp only[sop]at hs
     split at hs
     ·rename_i r hr
      simp only[Option.some.injEq]at hs;subst hs
      simp only[Option.bind_eq_some_iff]at hr
      obtain⟨v,hv,hr⟩:=hr
      obtain⟨n,hn1,hn2⟩:=cOpd_nil (a:=a) hn
      have hV:=hρ z sz _ hz hv
      rcases hzz with⟨rfl,rfl⟩|⟨rfl,rfl⟩
      ·exact⟨_,rfl,q_isnil ho hop hu hk hr hn2 (.inl ⟨hV,hn1⟩)⟩
      ·exact⟨_,rfl,q_isnil ho hop hu hk hr hn2 (.inr ⟨hV,hn1⟩)⟩
     ·simp at hs
    split at hc
    ·rename_i hn
     simp only[Option.some.injEq]at hc;subst hc
     exact one hx (.inl ⟨rfl,rfl⟩) hn
    ·split at hc
     ·rename_i hn
      simp only[Option.some.injEq]at hc;subst hc
      exact one hy (.inr ⟨rfl,rfl⟩) hn
     ·simp at hc
   ·simp at hc
  ·simp at hc
 split at hc
 ·exact eqs (.inl rfl) hc
 ·exact eqs (.inr rfl) hc
 ·split at hc
  ·simp only[Option.some.injEq]at hc;subst hc;exact good_bin ho hρ hx hy
  ·simp only[Option.some.injEq]at hc;subst hc;exact good_bin ho hρ hx hy
  ·simp at hc
theorem bind_ptr{x:Operand}{sx:SOpd}{b off:Nat}(hρ:OR C γ ρ a)(hx:cOpd C.ψ x=some sx)(h:(ρ sx).bind ptr=some (b,off)):∃u,VR C γ u (a.eval x)∧ptr u=some (b,off):=by
 simp only[Option.bind_eq_some_iff]at h
 obtain⟨u,hu,hp⟩:=h
 exact⟨u,hρ x sx u hx hu,hp⟩
theorem good_build(hρ:OR C γ ρ a){t:TypeId}{ps:Array (Nat×Operand)}(ho:o.op=.build t ps)(hc:cOp C.P C.ψ o=some so):Good C γ o a ρ so:=by
 simp only[cOp,ho,bind,Option.bind_eq_some_iff]at hc
 obtain⟨zs,hz,hc⟩:=hc
 have ho':o.op=.build t ps.toList.toArray:=by rw[ho]
 split at hc
 ·rename_i fs hu
  simp only[Option.bind_eq_some_iff]at hc
  obtain⟨l,hl,hc⟩:=hc
  split at hc
  ·rename_i hall
   simp only[Option.some.injEq]at hc;subst hc
   refine .ofQuiet rfl fun h out hs=>?_
   simp only[sop]at hs
   split at hs
   ·rename_i l' hv
    split at hs
    ·rename_i cs hf
     simp only[Option.some.injEq]at hs;subst hs
     exact⟨_,rfl,q_build hρ ho' hz hl hv hf (.inl ⟨fs,hu,fun _=>rfl,List.all_eq_true.1 hall⟩)⟩
    ·simp at hs
   ·simp at hs
  ·simp at hc
 ·rename_i n e hu
  simp only[Option.bind_eq_some_iff,Option.some.injEq]at hc
  obtain⟨k,hk,l,hl,rfl⟩:=hc
  refine .ofQuiet rfl fun h out hs=>?_
  simp only[sop]at hs
  split at hs
  ·rename_i l' hv
   split at hs
   ·rename_i cs hf
    simp only[Option.some.injEq]at hs;subst hs
    exact⟨_,rfl,q_build hρ ho' hz hl hv hf (.inr ⟨n,e,k,hu,hk,fun _=>rfl⟩)⟩
   ·simp at hs
  ·simp at hs
 ·simp at hc
theorem good_buildSlice(hρ:OR C γ ρ a){t:TypeId}{len:Nat}{ps:Array (Nat×Operand)}(ho:o.op=.buildSlice t len ps)(hc:cOp C.P C.ψ o=some so):Good C γ o a ρ so:=by
 have ho':o.op=.buildSlice t len ps.toList.toArray:=by rw[ho]
 simp only[cOp,ho]at hc
 split at hc
 ·rename_i e hu
  simp only[bind,Option.bind_eq_some_iff]at hc
  obtain⟨n,hn,zs,hz,l,hl,hc⟩:=hc
  split at hc
  ·rename_i hle
   simp only[Option.some.injEq]at hc;subst hc
   refine .ofFloat rfl rfl fun h out hs=>?_
   simp only[sop]at hs
   split at hs
   ·rename_i l' hv
    split at hs
    ·rename_i cs hf
     simp only[Option.some.injEq]at hs;subst hs
     exact⟨_,_,rfl,fl_mkslice hρ ho' hu hn hz hl hle hv hf _⟩
    ·simp at hs
   ·simp at hs
  ·simp at hc
 ·simp at hc
theorem good_load(hρ:OR C γ ρ a){t:TypeId}{x:Operand}(ho:o.op=.load t x)(hc:cOp C.P C.ψ o=some so):Good C γ o a ρ so:=by
 simp only[cOp,ho,bind,Option.bind_eq_some_iff]at hc
 obtain⟨d,hu,n,hn,sx,hx,hc⟩:=hc
 split at hc
 ·rename_i ha
  simp only[Option.some.injEq]at hc;subst hc
  refine .ofStill rfl rfl fun h w H out hs=>?_
  simp only[sop]at hs
  split at hs
  ·rename_i b off hb
   split at hs
   ·rename_i cs hl
    simp only[Option.some.injEq]at hs;subst hs
    obtain⟨u,hV,hp⟩:=bind_ptr hρ hx hb
    exact⟨_,rfl,s_loadN ho hu ha hn H hV hp hl⟩
   ·simp at hs
  ·simp at hs
 ·rename_i ha
  simp only[Option.some.injEq]at hc;subst hc
  refine .ofStill rfl rfl fun h w H out hs=>?_
  simp only[sop]at hs
  split at hs
  ·rename_i b off hb
   split at hs
   ·rename_i v hl
    simp only[Option.some.injEq]at hs;subst hs
    obtain⟨u,hV,hp⟩:=bind_ptr hρ hx hb
    exact⟨_,rfl,s_load1 ho hu (by simpa using ha) H hV hp hl⟩
   ·simp at hs
  ·simp at hs
theorem good_store(hρ:OR C γ ρ a){t:TypeId}{x y:Operand}(ho:o.op=.store t x y)(hc:cOp C.P C.ψ o=some so):Good C γ o a ρ so:=by
 simp only[cOp,ho,bind,Option.bind_eq_some_iff]at hc
 obtain⟨n,hn,sx,hx,sy,hy,hc⟩:=hc
 split at hc
 ·rename_i h1
  subst h1
  simp only[Option.some.injEq]at hc;subst hc
  refine .ofAll rfl rfl rfl fun h w H out hs=>?_
  simp only[sop]at hs
  split at hs
  ·rename_i b off v hb hv
   split at hs
   ·rename_i u hu
    split at hs
    ·rename_i h' hst
     simp only[Option.some.injEq]at hs;subst hs
     obtain⟨p,hV,hp⟩:=bind_ptr hρ hx hb
     obtain⟨w',z1,z2⟩:=s_store ho hn H hV hp (hρ y sy _ hy hv) hu rfl (store_of_store1 hst)
     exact⟨w',z1,by rw[store_next (store_of_store1 hst)];exact Nat.le_refl _,z2⟩
    ·simp at hs
   ·simp at hs
  ·simp at hs
 ·simp only[Option.some.injEq]at hc;subst hc
  refine .ofAll rfl rfl rfl fun h w H out hs=>?_
  simp only[sop]at hs
  split at hs
  ·rename_i b off v hb hv
   split at hs
   ·rename_i cs hu
    split at hs
    ·rename_i hl
     split at hs
     ·rename_i h' hst
      simp only[Option.some.injEq]at hs;subst hs
      obtain⟨p,hV,hp⟩:=bind_ptr hρ hx hb
      obtain⟨w',z1,z2⟩:=s_store ho hn H hV hp (hρ y sy _ hy hv) hu hl hst
      exact⟨w',z1,by rw[store_next hst];exact Nat.le_refl _,z2⟩
     ·simp at hs
    ·simp at hs
   ·simp at hs
  ·simp at hs
theorem good_slice(hρ:OR C γ ρ a){t:TypeId}{x:Operand}{lo hi mx:Option Operand}(ho:o.op=.slice t x lo hi mx)(hc:cOp C.P C.ψ o=some so):Good C γ o a ρ so:=by
 simp only[cOp,ho,bind,Option.bind_eq_some_iff]at hc
 obtain⟨d,hu,sx,hx,sl,hl,sh,hh,sm,hm,hc⟩:=hc
 split at hc
 ·split at hc
  ·rename_i hmn
   simp only[Option.some.injEq]at hc;subst hc
   have hmx:mx=none:=by
    cases mx with
    | none=>rfl
    | some y=>simp[cOpt]at hm;obtain⟨z,_,rfl⟩:=hm;simp at hmn
   subst hmx
   refine .ofQuiet rfl fun h out hs=>?_
   simp only[sop]at hs
   split at hs
   ·rename_i s vl vh e1 e2 e3
    split at hs
    ·rename_i l u m hb
     simp only[Option.some.injEq]at hs;subst hs
     exact⟨_,rfl,q_slstr hρ ho hu (hρ x sx _ hx e1) hl hh e2 e3 hb⟩
    ·simp at hs
   ·simp at hs
  ·simp at hc
 ·rename_i e
  simp only[Option.bind_eq_some_iff,Option.some.injEq]at hc
  obtain⟨n,hn,rfl⟩:=hc
  refine .ofQuiet rfl fun h out hs=>?_
  simp only[sop]at hs
  split at hs
  ·rename_i ad len cap vl vh vm e1 e2 e3 e4
   split at hs
   ·rename_i v hv
    simp only[Option.some.injEq]at hs;subst hs
    exact⟨_,rfl,q_slsl hρ ho hu hn (hρ x sx _ hx e1) hl hh hm e2 e3 e4 hv⟩
   ·simp at hs
  ·simp at hs
 ·rename_i n e
  simp only[Option.bind_eq_some_iff,Option.some.injEq]at hc
  obtain⟨k,hk,rfl⟩:=hc
  refine .ofQuiet rfl fun h out hs=>?_
  simp only[sop]at hs
  split at hs
  ·rename_i b off vl vh vm e1 e2 e3 e4
   split at hs
   ·rename_i v hv
    simp only[Option.some.injEq]at hs;subst hs
    obtain⟨p,hV,hp⟩:=bind_ptr hρ hx e1
    exact⟨_,rfl,q_slarr hρ ho hu hk hV hp hl hh hm e2 e3 e4 hv⟩
   ·simp at hs
  ·simp at hs
 ·simp at hc
theorem good_fieldAddr(hρ:OR C γ ρ a){s:TypeId}{x:Operand}{i:Nat}(ho:o.op=.fieldAddr s x i)(hc:cOp C.P C.ψ o=some so):Good C γ o a ρ so:=by
 simp only[cOp,ho]at hc
 split at hc
 ·rename_i fs hu
  simp only[bind,Option.bind_eq_some_iff]at hc
  obtain⟨f,hf,n,hn,hc⟩:=hc
  split at hc
  ·rename_i h0
   simp only[Option.bind_eq_some_iff,Option.some.injEq]at hc
   obtain⟨sx,hx,rfl⟩:=hc
   refine .ofQuiet rfl fun h out hs=>?_
   simp only[sop]at hs
   split at hs
   ·rename_i b off hb
    simp only[Option.some.injEq]at hs;subst hs
    obtain⟨p,hV,hp⟩:=bind_ptr hρ hx hb
    exact⟨_,rfl,q_fld ho hu hf hn h0 hV hp⟩
   ·simp at hs
  ·simp at hc
 ·simp at hc
theorem good_field(hρ:OR C γ ρ a){s:TypeId}{x:Operand}{i:Nat}(ho:o.op=.field s x i)(hc:cOp C.P C.ψ o=some so):Good C γ o a ρ so:=by
 simp only[cOp,ho]at hc
 split at hc
 ·rename_i fs hu
  simp only[bind,Option.bind_eq_some_iff]at hc
  obtain⟨f,hf,n,hn,d,hd,hc⟩:=hc
  split at hc
  ·rename_i ha
   simp only[Option.bind_eq_some_iff,Option.some.injEq]at hc
   obtain⟨sx,hx,rfl⟩:=hc
   refine .ofQuiet rfl fun h out hs=>?_
   simp only[sop]at hs
   split at hs
   ·rename_i cs hv
    simp only[Option.some.injEq]at hs;subst hs
    exact⟨_,rfl,q_partN ho hu hf hd ha hn (hρ x sx _ hx hv)⟩
   ·simp at hs
  ·rename_i ha
   simp only[Option.bind_eq_some_iff,Option.some.injEq]at hc
   obtain⟨sx,hx,rfl⟩:=hc
   refine .ofQuiet rfl fun h out hs=>?_
   simp only[sop]at hs
   split at hs
   ·rename_i cs hv
    split at hs
    ·rename_i v hg
     simp only[Option.some.injEq]at hs;subst hs
     exact⟨_,rfl,q_part1 ho hu hf hd (by simpa using ha) (hρ x sx _ hx hv) hg⟩
    ·simp at hs
   ·simp at hs
 ·simp at hc
theorem good_indexAddr(hρ:OR C γ ρ a){t:TypeId}{x i:Operand}(ho:o.op=.indexAddr t x i)(hc:cOp C.P C.ψ o=some so):Good C γ o a ρ so:=by
 simp only[cOp,ho]at hc
 split at hc
 ·rename_i e hu
  simp only[bind,Option.bind_eq_some_iff,Option.some.injEq]at hc
  obtain⟨k,hk,sx,hx,si,hi,rfl⟩:=hc
  refine .ofQuiet rfl fun h out hs=>?_
  simp only[sop]at hs
  split at hs
  ·rename_i ad len cap kk j e1 e2
   split at hs
   ·rename_i hr
    simp only[Option.some.injEq]at hs;subst hs
    exact⟨_,rfl,q_idxS ho hu hk (hρ x sx _ hx e1) (hρ i si _ hi e2) hr⟩
   ·simp at hs
  ·simp at hs
 ·rename_i n e hu
  simp only[bind,Option.bind_eq_some_iff,Option.some.injEq]at hc
  obtain⟨k,hk,sx,hx,si,hi,rfl⟩:=hc
  refine .ofQuiet rfl fun h out hs=>?_
  simp only[sop]at hs
  split at hs
  ·rename_i b off kk j e1 e2
   split at hs
   ·rename_i hr
    simp only[Option.some.injEq]at hs;subst hs
    obtain⟨p,hV,hp⟩:=bind_ptr hρ hx e1
    exact⟨_,rfl,q_idxA ho hu hk hV hp (hρ i si _ hi e2) hr⟩
   ·simp at hs
  ·simp at hs
 ·simp at hc
theorem good_index(hρ:OR C γ ρ a){t:TypeId}{x i:Operand}(ho:o.op=.index t x i)(hc:cOp C.P C.ψ o=some so):Good C γ o a ρ so:=by
 simp only[cOp,ho]at hc
 split at hc
 ·rename_i hu
  simp only[bind,Option.bind_eq_some_iff,Option.some.injEq]at hc
  obtain⟨sx,hx,si,hi,rfl⟩:=hc
  refine .ofQuiet rfl fun h out hs=>?_
  simp only[sop]at hs
  split at hs
  ·rename_i s kk j e1 e2
   split at hs
   ·rename_i hr
    split at hs
    ·rename_i c hg
     simp only[Option.some.injEq]at hs;subst hs
     exact⟨_,rfl,q_idxT ho hu (hρ x sx _ hx e1) (hρ i si _ hi e2) hr hg⟩
    ·simp at hs
   ·simp at hs
  ·simp at hs
 ·rename_i n e hu
  simp only[bind,Option.bind_eq_some_iff]at hc
  obtain⟨k,hk,d,hd,hc⟩:=hc
  split at hc
  ·rename_i ha
   simp only[Option.bind_eq_some_iff,Option.some.injEq]at hc
   obtain⟨sx,hx,si,hi,rfl⟩:=hc
   refine .ofQuiet rfl fun h out hs=>?_
   simp only[sop]at hs
   split at hs
   ·rename_i cs kk j e1 e2
    split at hs
    ·rename_i hr
     simp only[Option.some.injEq]at hs;subst hs
     exact⟨_,rfl,q_idxVN ho hu hd ha hk (hρ x sx _ hx e1) (hρ i si _ hi e2) hr⟩
    ·simp at hs
   ·simp at hs
  ·rename_i ha
   split at hc
   ·rename_i h1
    subst h1
    simp only[Option.bind_eq_some_iff,Option.some.injEq]at hc
    obtain⟨sx,hx,si,hi,rfl⟩:=hc
    refine .ofQuiet rfl fun h out hs=>?_
    simp only[sop]at hs
    split at hs
    ·rename_i cs kk j e1 e2
     split at hs
     ·rename_i hr
      split at hs
      ·rename_i v hg
       simp only[Option.some.injEq]at hs;subst hs
       exact⟨_,rfl,q_idxV1 ho hu hd (by simpa using ha) hk (hρ x sx _ hx e1) (hρ i si _ hi e2) hr hg⟩
      ·simp at hs
     ·simp at hs
    ·simp at hs
   ·simp at hc
 ·simp at hc
theorem good_makeSlice(hρ:OR C γ ρ a){t:TypeId}{l c:Operand}(ho:o.op=.makeSlice t l c)(hc:cOp C.P C.ψ o=some so):Good C γ o a ρ so:=by
 simp only[cOp,ho]at hc
 split at hc
 ·rename_i e hu
  simp only[bind,Option.bind_eq_some_iff]at hc
  obtain⟨n,hn,b,hb,zs,hz,hc⟩:=hc
  split at hc
  ·rename_i h0
   simp only[Option.bind_eq_some_iff,Option.some.injEq]at hc
   obtain⟨sl,hl,sc,hcc,rfl⟩:=hc
   refine .ofFloat rfl rfl fun h out hs=>?_
   simp only[sop]at hs
   split at hs
   ·rename_i k1 nl k2 nc e1 e2
    split at hs
    ·rename_i hok
     simp only[Option.some.injEq]at hs;subst hs
     exact⟨_,_,rfl,fl_mkrow hρ ho hu hn hb hz h0 hl hcc e1 e2 hok _⟩
    ·simp at hs
   ·simp at hs
  ·simp at hc
 ·simp at hc
theorem two_of{α:Type}{c:Array α}{x y:α}(h:c.toList=[x,y]):c=#[x,y]:=by
 apply Array.ext';rw[h]
theorem one_of{α:Type}{c:Array α}{x:α}(h:c.toList=[x]):c=#[x]:=by
 apply Array.ext';rw[h]
theorem good_call(hρ:OR C γ ρ a){c:Call}(ho:o.op=.call c)(hc:cOp C.P C.ψ o=some so):Good C γ o a ρ so:=by
 obtain⟨callee,args,ts⟩:=c
 simp only[cOp,ho]at hc
 split at hc
 ·rename_i f
  simp only[bind,Option.bind_eq_some_iff,Option.some.injEq]at hc
  obtain⟨g,hf,ss,hx,rfl⟩:=hc
  refine .ofAll rfl rfl rfl fun h w H out hs=>?_
  simp only[sop]at hs
  split at hs
  ·rename_i l hv
   simp only[Option.some.injEq]at hs;subst hs
   exact s_call hρ (xs:=args.toList) (by rw[ho]) hf hx hv
  ·simp at hs
 ·rename_i fo hcl
  simp only[bind,Option.bind_eq_some_iff,Option.some.injEq]at hc
  obtain⟨sf,hf,ss,hx,rfl⟩:=hc
  refine .ofAll rfl rfl rfl fun h w H out hs=>?_
  simp only[sop]at hs
  split at hs
  ·rename_i g fi ca l e1 hv
   simp only[Option.some.injEq]at hs;subst hs
   exact s_callv hρ (xs:=args.toList) (by rw[ho]) hf hx e1 hv
  ·simp at hs
 ·split at hc
  ·rename_i t u x y ht hx
   have ht:=two_of ht
   have hx:=two_of hx
   subst ht hx
   have main:∀e ud,C.P.underlying t=some (.slice e)→C.P.underlying u=some ud→(∀k,ud≠.int k)→((tsize C.P e).bind fun n=>(tbytes C.P e).bind fun b=>(tzero C.P e).bind fun z=>
     if n≠0∧b≠0∧b≤65536∧z.length=n then(cOpd C.ψ x).bind fun sx=>(cOpd C.ψ y).bind fun sy=>some (SOp.append n b sx sy)else none)=some so→Good C γ o a ρ so:=by
    intro e ud hu hud hui hc
    simp only[Option.bind_eq_some_iff]at hc
    obtain⟨n,hn,b,hb,z,hz,hc⟩:=hc
    split at hc
    ·rename_i hk
     simp only[Option.bind_eq_some_iff,Option.some.injEq]at hc
     obtain⟨sx,hx,sy,hy,rfl⟩:=hc
     refine .ofAll rfl rfl rfl fun h w H out hs=>?_
     simp only[sop]at hs
     split at hs
     ·rename_i p q e1 e2
      split at hs
      ·rename_i v h' hv
       simp only[Option.some.injEq]at hs;subst hs
       exact s_append ho hu hud hui hn hb hk.1 hk.2.1 hk.2.2.1 hz hk.2.2.2 H (hρ x sx _ hx e1) (hρ y sy _ hy e2) hv
      ·simp at hs
     ·simp at hs
    ·simp at hc
   split at hc
   ·rename_i e e2 hu hu2;exact main e _ hu hu2 (by simp) hc
   ·rename_i e hu hu2;exact main e _ hu hu2 (by simp) hc
   ·simp at hc
  ·simp at hc
 ·split at hc
  ·rename_i t u x y ht hx
   have ht:=two_of ht
   have hx:=two_of hx
   subst ht hx
   split at hc
   ·rename_i e hu
    simp only[bind,Option.bind_eq_some_iff,Option.some.injEq]at hc
    obtain⟨n,hn,sx,hx,sy,hy,rfl⟩:=hc
    refine .ofAll rfl rfl rfl fun h w H out hs=>?_
    simp only[sop]at hs
    split at hs
    ·rename_i p q e1 e2
     split at hs
     ·rename_i v h' hv
      simp only[Option.some.injEq]at hs;subst hs
      exact s_copy ho hu hn H (hρ x sx _ hx e1) (hρ y sy _ hy e2) hv
     ·simp at hs
    ·simp at hs
   ·simp at hc
  ·simp at hc
 ·split at hc
  ·rename_i t x ht hx
   have ht:=one_of ht
   have hx:=one_of hx
   subst ht hx
   split at hc
   ·rename_i hu
    simp only[Option.map_eq_some_iff]at hc
    obtain⟨sx,hx,rfl⟩:=hc
    refine .ofQuiet rfl fun h out hs=>?_
    simp only[sop]at hs
    split at hs
    ·rename_i s e1
     simp only[Option.some.injEq]at hs;subst hs
     exact⟨_,rfl,q_lenT ho hu (hρ x sx _ hx e1)⟩
    ·simp at hs
   ·rename_i e hu
    simp only[Option.map_eq_some_iff]at hc
    obtain⟨sx,hx,rfl⟩:=hc
    refine .ofQuiet rfl fun h out hs=>?_
    simp only[sop]at hs
    split at hs
    ·rename_i ad l c e1
     simp only[Option.some.injEq]at hs;subst hs
     exact⟨_,rfl,q_lenS ho hu (hρ x sx _ hx e1)⟩
    ·simp at hs
   ·rename_i k e hu
    simp only[Option.map_eq_some_iff]at hc
    obtain⟨sx,hx,rfl⟩:=hc
    refine .ofStill rfl rfl fun h w H out hs=>?_
    have hsv:∃m v,ρ sx=some (.map m)∧out=.val v h:=by
     simp only[sop]at hs
     split at hs
     ·rename_i e1;simp only[Option.some.injEq]at hs;exact⟨_,_,e1,hs.symm⟩
     ·rename_i r e1
      split at hs
      ·simp only[Option.some.injEq]at hs;exact⟨_,_,e1,hs.symm⟩
      ·simp at hs
     ·simp at hs
    obtain⟨m,v,e1,rfl⟩:=hsv
    obtain⟨_,k2⟩:=s_lenM ho hu H (hρ x sx _ hx e1) e1 hs
    exact⟨v,rfl,k2⟩
   ·simp at hc
  ·simp at hc
 ·split at hc
  ·rename_i t x ht hx
   have ht:=one_of ht
   have hx:=one_of hx
   subst ht hx
   split at hc
   ·rename_i e hu
    simp only[bind,Option.bind_eq_some_iff,Option.some.injEq]at hc
    obtain⟨zs,hz,sx,hx,rfl⟩:=hc
    refine .ofAll rfl rfl rfl fun h w H out hs=>?_
    simp only[sop]at hs
    split at hs
    ·rename_i ad n cp e1
     split at hs
     ·simp at hs
     ·rename_i hn
      split at hs
      ·rename_i h' hv
       simp only[Option.some.injEq]at hs;subst hs
       exact s_clear ho hu hz H (hρ x sx _ hx e1) hn hv
      ·simp at hs
    ·simp at hs
   ·simp at hc
  ·simp at hc
 ·simp only[bind,Option.bind_eq_some_iff,Option.some.injEq]at hc
  obtain⟨ss,hx,rfl⟩:=hc
  refine .ofQuiet rfl fun h out hs=>?_
  simp only[sop]at hs
  split at hs
  ·rename_i x r hv
   split at hs
   ·rename_i v hm
    simp only[Option.some.injEq]at hs;subst hs
    exact⟨_,rfl,q_mm hρ false (b:=.min) (ts:=ts) (by simp) (xs:=args.toList) (by rw[ho]) hx hv hm⟩
   ·simp at hs
  ·simp at hs
 ·simp only[bind,Option.bind_eq_some_iff,Option.some.injEq]at hc
  obtain⟨ss,hx,rfl⟩:=hc
  refine .ofQuiet rfl fun h out hs=>?_
  simp only[sop]at hs
  split at hs
  ·rename_i x r hv
   split at hs
   ·rename_i v hm
    simp only[Option.some.injEq]at hs;subst hs
    exact⟨_,rfl,q_mm hρ true (b:=.max) (ts:=ts) (by simp) (xs:=args.toList) (by rw[ho]) hx hv hm⟩
   ·simp at hs
  ·simp at hs
 ·simp at hc
theorem HR.refreeze{h:AH}{w:World}(H:HR C γ h w){B lo hi lo' hi':Nat}{D:Array Value}{E:TypeId}(hB:C.base≤B)(hD:w.heap[B]?=some (.cells D E (lo,hi))){f:Obj→Obj}(hf:f (.cells D E (lo,hi))=.cells D E (lo',hi'))(hk:hi'=lo'∨D.size≤lo'):
  HR C γ h { w with heap:=w.heap.modify B f }:=by
 refine⟨Below.modify H.below hB _,H.low,?_,H.inj,H.dom⟩
 intro b B' s N hb
 have hk0:=H.blk b B' s N hb
 by_cases hBB:B'=B
 ·subst hBB
  have:(w.heap.modify B' f)[B']?=some (.cells D E (lo',hi')):=by
   rw[Array.getElem?_modify,if_pos rfl,hD,Option.map_some,hf]
  simp only[this]
  cases ho:h.get b with
  | dead=>trivial
  | map es clk=>
   rw[ho]at hk0
   obtain⟨es',k1,_⟩:=hk0
   rw[hD]at k1;simp at k1
  | cells c g ro=>
   rw[ho]at hk0
   obtain⟨D0,E0,lo0,hi0,k1,k2,k3,k4,k5,k6,k7⟩:=hk0
   rw[hD]at k1
   simp only[Option.some.injEq,Obj.cells.injEq,Prod.mk.injEq]at k1
   obtain⟨rfl,rfl,rfl,rfl⟩:=k1
   exact⟨D,E,lo',hi',rfl,k2,k3,k4,k5,k6,fun e=>⟨(k7 e).1,by omega⟩⟩
 ·have:(w.heap.modify B f)[B']?=w.heap[B']?:=by rw[Array.getElem?_modify,if_neg (by omega)]
  simp only[this]
  exact hk0
theorem good_mark(hρ:OR C γ ρ a){s t e:TypeId}{x:Operand}{sx:SOpd}(ho:o.op=.convert s t x)(hs:C.P.underlying s=some (.slice e))(ht:s=t)(he:C.P.underlying e=some (.int .u8))(hx:cOpd C.ψ x=some sx):Good C γ o a ρ (.mark sx):=by
 subst ht
 refine .ofAll rfl rfl rfl fun h w H out hs'=>?_
 simp only[sop]at hs'
 split at hs'
 ·rename_i ad n c hv
  split at hs'
  ·rename_i c0 g hg
   simp only[Option.some.injEq]at hs';subst hs'
   have hv2:=hρ x sx _ hx hv
   obtain⟨B,s',N,o',c',hb,e1,e2⟩:=hv2.slice_inv
   obtain⟨D,E,lo,hi,k1,k2,k3,k4,k5,k6,k7⟩:=H.cells hb hg
   have k8:=k7 rfl
   have hfr:HR C γ h (w.freeze ⟨B,D.size,none⟩ 1):=by
    unfold World.freeze
    rw[if_neg (by omega)]
    by_cases hl:lo == hi
    ·exact H.refreeze (lo':=D.size) (hi':=D.size+1) k8.1 k1 (by simp only[hl,if_true]) (.inr (Nat.le_refl _))
    ·have hl':lo≠hi:=by simpa using hl
     exact H.refreeze (lo':=min lo D.size) (hi':=max hi (D.size+1)) k8.1 k1 (by simp only[hl];rfl) (.inr (by omega))
   refine⟨a.eval x,w.freeze ⟨B,D.size,none⟩ 1,γ,?_,.same (Nat.le_refl _),hfr,hv2⟩
   have hsh:w.shape? B=some (E,D.size):=by simp[World.shape?,k1]
   simp[execOp,ho,e1,convert,run_underlying hs,run_underlying he,markStringish,hsh]
  ·simp at hs'
 ·simp at hs'
theorem bytes_loop{P:Program}{C:Ctx}{γ:Gm}{f:Value→ByteArray→Sem (ForInStep ByteArray)}(hf:∀n s,f (.int .u8 n) s=pure (ForInStep.yield (s.push (UInt8.ofNat n.toNat)))){l l':List Value}(h:FA2 (VR C γ) l l'):
  ∀{bs:List UInt8} {s:ByteArray} {w:World},bytesV l=some bs→Sem.run P (forIn l' s f) w=.ok ⟨s.data++bs.toArray⟩ w:=by
 induction h with
 | nil=>
  intro bs s w hb
  simp only[bytesV,Option.some.injEq]at hb;subst hb
  simp
 | cons h1 _ ih=>
  intro bs s w hb
  unfold bytesV at hb
  split at hb
  ·rename_i e0;simp at e0
  ·rename_i n l e0
   simp only[List.cons.injEq]at e0
   obtain⟨rfl,rfl⟩:=e0
   split at hb
   ·rename_i r hr
    simp only[Option.some.injEq]at hb;subst hb
    obtain rfl:=h1.int_inv
    rw[List.forIn_cons,hf]
    have:=ih (s:=s.push (UInt8.ofNat n.toNat)) (w:=w) hr
    simp only[pure_bind]
    rw[this]
    simp[ByteArray.push]
   ·simp at hb
  ·simp at hb
theorem good_bstr(hρ:OR C γ ρ a){s t e:TypeId}{x:Operand}{sx:SOpd}(ho:o.op=.convert s t x)(hs:C.P.underlying s=some (.slice e))(ht:C.P.underlying t=some .string)(he:C.P.underlying e=some (.int .u8))(hx:cOpd C.ψ x=some sx):Good C γ o a ρ (.bstr sx):=by
 refine .ofStill rfl rfl fun h w H out hs'=>?_
 simp only[sop]at hs'
 split at hs'
 ·rename_i ad n c hv
  split at hs'
  ·simp at hs'
  ·rename_i hn
   split at hs'
   ·rename_i cs hl
    split at hs'
    ·rename_i bs hb
     simp only[Option.some.injEq]at hs';subst hs'
     have hv2:=hρ x sx _ hx hv
     obtain⟨B,s',N,o',c',hbb,e1,e2⟩:=hv2.slice_inv
     obtain rfl:o'=s'+ad.off:=by omega
     obtain⟨l',k1,k2,_⟩:=H.load hbb hl
     refine⟨_,rfl,.string ⟨bs.toArray⟩,?_,.str⟩
     simp[execOp,ho,e1,convert,run_underlying hs,run_underlying ht,run_underlying he,Conv.bytesToString,k1]
     rw[←Array.forIn_toList,bytes_loop (fun n s=>rfl) k2 hb,show ByteArray.empty.data=#[] from rfl]
     simp[Result.andThen]
    ·simp at hs'
   ·simp at hs'
 ·simp at hs'
theorem good_all(hρ:OR C γ ρ a)(hc:cOp C.P C.ψ o=some so):Good C γ o a ρ so:=by
 cases ho:o.op with
 | build t ps=>exact good_build hρ ho hc
 | buildSlice t l ps=>exact good_buildSlice hρ ho hc
 | load t x=>exact good_load hρ ho hc
 | store t x y=>exact good_store hρ ho hc
 | slice t x l h m=>exact good_slice hρ ho hc
 | fieldAddr s x i=>exact good_fieldAddr hρ ho hc
 | field s x i=>exact good_field hρ ho hc
 | indexAddr t x i=>exact good_indexAddr hρ ho hc
 | index t x i=>exact good_index hρ ho hc
 | makeSlice t l c=>exact good_makeSlice hρ ho hc
 | call c=>exact good_call hρ ho hc
 | move x=>
  simp only[cOp,ho,Option.map_eq_some_iff]at hc
  obtain⟨sx,hx,rfl⟩:=hc
  exact good_mov (.inl ho) hρ hx
 | assign x=>
  simp only[cOp,ho,Option.map_eq_some_iff]at hc
  obtain⟨sx,hx,rfl⟩:=hc
  exact good_mov (.inr ho) hρ hx
 | pick c x y=>
  simp only[cOp,ho,bind,Option.bind_eq_some_iff,Option.some.injEq]at hc
  obtain⟨sc,h1,sx,h2,sy,h3,rfl⟩:=hc
  exact good_pick ho hρ h1 h2 h3
 | alloc t=>
  simp only[cOp,ho,Option.map_eq_some_iff]at hc
  obtain⟨zs,hz,rfl⟩:=hc
  refine .ofFloat rfl rfl fun h out hs=>?_
  simp only[sop,Option.some.injEq]at hs;subst hs
  exact⟨_,_,rfl,fl_alloc ho hz _⟩
 | box t x=>
  simp only[cOp,ho,Option.map_eq_some_iff]at hc
  obtain⟨sx,hx,rfl⟩:=hc
  refine .ofFloat rfl rfl fun h out hs=>?_
  simp only[sop]at hs
  split at hs
  ·rename_i v hv
   split at hs
   ·rename_i cs hcs
    simp only[Option.some.injEq]at hs;subst hs
    exact⟨_,_,rfl,fl_box ho (hρ x sx _ hx hv) hcs _⟩
   ·simp at hs
  ·simp at hs
 | nilCheck x=>
  simp only[cOp,ho,Option.map_eq_some_iff]at hc
  obtain⟨sx,hx,rfl⟩:=hc
  refine .ofQuiet rfl fun h out hs=>?_
  simp only[sop]at hs
  split at hs
  ·rename_i ad hv
   simp only[Option.some.injEq]at hs;subst hs
   exact⟨_,rfl,q_nilchk ho (hρ x sx _ hx hv)⟩
  ·simp at hs
 | binOp op t x y u=>
  simp only[cOp,ho]at hc
  exact good_cbin ho hρ hc
 | unOp op t x=>
  simp only[cOp,ho,Option.map_eq_some_iff]at hc
  obtain⟨sx,hx,rfl⟩:=hc
  refine .ofQuiet rfl fun h out hs=>?_
  simp only[sop]at hs
  split at hs
  ·rename_i m hm
   split at hs
   ·rename_i v hv
    simp only[Option.some.injEq]at hs;subst hs
    exact⟨_,rfl,q_un ho (hρ x sx _ hx hm) hv⟩
   ·simp at hs
  ·simp at hs
 | convert s t x=>
  simp only[cOp,ho]at hc
  split at hc
  ·rename_i k1 k2 h1 h2
   simp only[Option.map_eq_some_iff]at hc
   obtain⟨sx,hx,rfl⟩:=hc
   refine .ofQuiet rfl fun h out hs=>?_
   simp only[sop]at hs
   split at hs
   ·rename_i kk n hn
    simp only[Option.some.injEq]at hs;subst hs
    exact⟨_,rfl,q_conv ho h1 h2 (hρ x sx _ hx hn)⟩
   ·simp at hs
  ·rename_i k1 h1 h2
   simp only[Option.map_eq_some_iff]at hc
   obtain⟨sx,hx,rfl⟩:=hc
   refine .ofQuiet rfl fun h out hs=>?_
   simp only[sop]at hs
   split at hs
   ·rename_i kk n hn
    simp only[Option.some.injEq]at hs;subst hs
    refine⟨_,rfl,fun w=>⟨.string (Utf8.encode n),?_,.str⟩⟩
    have hv:=(hρ x sx _ hx hn).int_inv
    simp[execOp,ho,hv,convert,run_underlying h1,run_underlying h2,Conv.intToString]
   ·simp at hs
  ·rename_i e1 h1 h2
   split at hc
   ·rename_i he
    simp only[Option.map_eq_some_iff]at hc
    obtain⟨sx,hx,rfl⟩:=hc
    exact good_bstr hρ ho h1 h2 he hx
   ·simp at hc
  ·rename_i e1 e2 h1 h2
   split at hc
   ·rename_i he
    split at hc
    ·rename_i hst
     simp only[Option.map_eq_some_iff]at hc
     obtain⟨sx,hx,rfl⟩:=hc
     subst hst
     rw[h1]at h2
     simp only[Option.some.injEq,TypeDesc.slice.injEq]at h2
     subst h2
     exact good_mark hρ ho h1 rfl he hx
    ·simp at hc
   ·simp at hc
  ·simp at hc
 | makeFunc fn first caps=>
  cases fn with
  | func f=>
   simp only[cOp,ho,bind,Option.bind_eq_some_iff,Option.some.injEq]at hc
   obtain⟨g,hf,sa,ha,sb,hb,rfl⟩:=hc
   refine .ofQuiet rfl fun h out hs=>?_
   simp only[sop]at hs
   split at hs
   ·rename_i l m e1 e2
    simp only[Option.some.injEq]at hs;subst hs
    exact⟨_,rfl,q_mkfunc hρ (x:=first.toList) (y:=caps.toList) (by rw[ho]) hf ha hb e1 e2⟩
   ·simp at hs
  | _=>simp[cOp,ho]at hc
 | makeMap t r=>
  cases r with
  | none=>
   simp only[cOp,ho,Option.some.injEq]at hc;subst hc
   refine .ofFloat rfl rfl fun h out hs=>?_
   simp only[sop,Option.some.injEq]at hs;subst hs
   exact⟨_,_,rfl,fl_mkmap ho _⟩
  | some _=>simp[cOp,ho]at hc
 | extract x i=>
  simp only[cOp,ho,bind,Option.bind_eq_some_iff,Option.some.injEq]at hc
  obtain⟨sx,hx,rfl⟩:=hc
  refine .ofQuiet rfl fun h out hs=>?_
  simp only[sop]at hs
  split at hs
  ·rename_i vs hv
   split at hs
   ·rename_i v hg
    simp only[Option.some.injEq]at hs;subst hs
    exact⟨_,rfl,q_extr ho (hρ x sx _ hx hv) hg⟩
   ·simp at hs
  ·simp at hs
 | _=>simp[cOp,ho]at hc
theorem good_bad:Good C γ o a ρ .bad:=.ofQuiet rfl fun h out hs=>by simp[sop]at hs
end
end Go.Jq
namespace Go.Jq
open Go.RowKit
theorem Fr.get_set:∀(F:Fr) (t u:Nat) (v:Value),(F.set t v).get u=if u=t then some v else F.get u
 | [],t,u,v=>by simp[Fr.set,Fr.get]
 | (k,x)::r,t,u,v=>by
  simp only[Fr.set]
  split
  ·rename_i e;subst e
   simp only[Fr.get]
   split<;>rfl
  ·split
   ·simp only[Fr.get]
   ·rename_i h1 h2
    simp only[Fr.get,Fr.get_set r t u v]
    split
    ·rename_i e;rw[if_neg (by omega)]
    ·rfl
theorem Fr.get_del:∀(F:Fr) (t u:Nat),(F.del t).get u=if u=t then none else F.get u
 | [],t,u=>by simp[Fr.del,Fr.get]
 | (k,x)::r,t,u=>by
  simp only[Fr.del]
  split
  ·rename_i e;subst e
   rw[Fr.get_del r t u]
   simp only[Fr.get]
   split<;>simp_all
  ·simp only[Fr.get,Fr.get_del r t u]
   split
   ·rename_i e;rw[if_neg (by omega)]
   ·rfl
theorem Fr.get_keep:∀(F:Fr) (l:List Nat) (u:Nat),(F.keep l).get u=if l.contains u then F.get u else none
 | [],l,u=>by simp[Fr.keep,Fr.get]
 | (k,x)::r,l,u=>by
  simp only[Fr.keep]
  split
  ·rename_i e
   simp only[Fr.get,Fr.get_keep r l u]
   split
   ·rename_i e2;subst e2;rw[if_pos e]
   ·rfl
  ·rename_i e
   rw[Fr.get_keep r l u]
   simp only[Fr.get]
   split
   ·rename_i h1;rw[if_neg];rintro rfl;exact e h1
   ·rfl
theorem Fr.get_from:∀(l:List Value) (i u:Nat),(Fr.from i l).get u=if i≤u then l[u-i]? else none
 | [],i,u=>by simp[Fr.from,Fr.get]
 | v::l,i,u=>by
  simp only[Fr.from,Fr.get,Fr.get_from l (i+1) u]
  split
  ·rename_i e;subst e;simp
  ·by_cases h:i≤u
   ·rw[if_pos h,if_pos (by omega)]
    obtain⟨m,rfl⟩:∃m,u=i+1+m:=⟨u-(i+1),by omega⟩
    rw[show i+1+m-(i+1)=m by omega,show i+1+m-i=m+1 by omega]
    simp
   ·rw[if_neg h,if_neg (by omega)]
structure FR(C:Ctx)(γ:Gm)(N:Nat)(F:Fr)(a:Act):Prop where
 size:a.tmps.size=N
 defers:a.defers=[]
 get:∀t v,F.get t=some v→∃v',a.tmps[t]?=some v'∧VR C γ v v'
section
variable {C:Ctx} {γ:Gm} {N:Nat} {F:Fr} {a:Act}
theorem FR.mono{γ':Gm}(k:FR C γ N F a)(hs:Sub γ γ'):FR C γ' N F a:=
 ⟨k.size,k.defers,fun t v h=>let ⟨v',h1,h2⟩:=k.get t v h;⟨v',h1,h2.mono hs⟩⟩
theorem FR.keep(k:FR C γ N F a)(l:List Nat):FR C γ N (F.keep l) a:=
 ⟨k.size,k.defers,fun t v h=>by
  rw[Fr.get_keep]at h
  split at h
  ·exact k.get t v h
  ·simp at h⟩
theorem FR.put(k:FR C γ N F a){d:Option Nat}(hd:d.toList.all (·<N)=true){v v':Value}(hv:VR C γ v v'):FR C γ N (F.put d v) (a.put d v'):=by
 cases d with
 | none=>exact k
 | some d=>
  have hd':d<N:=by simpa using hd
  refine⟨by simpa[Act.put]using k.size,k.defers,fun t u h=>?_⟩
  simp only[Fr.put,Fr.get_set]at h
  have hsz:=k.size
  simp only[Act.put]
  split at h
  ·rename_i e;subst e
   simp only[Option.some.injEq]at h;subst h
   exact⟨v',by rw[Array.getElem?_setIfInBounds_self_of_lt (by omega)],hv⟩
  ·rename_i e
   obtain⟨u',h1,h2⟩:=k.get t u h
   exact⟨u',by rw[Array.getElem?_setIfInBounds_ne (by omega)];exact h1,h2⟩
theorem FR.unput(k:FR C γ N F a)(d:Option Nat)(v':Value):FR C γ N (F.unput d) (a.put d v'):=by
 cases d with
 | none=>exact k
 | some d=>
  refine⟨by simpa[Act.put]using k.size,k.defers,fun t u h=>?_⟩
  simp only[Fr.unput,Fr.get_del]at h
  simp only[Act.put]
  split at h
  ·simp at h
  ·rename_i e
   obtain⟨u',h1,h2⟩:=k.get t u h
   exact⟨u',by rw[Array.getElem?_setIfInBounds_ne (by omega)];exact h1,h2⟩
theorem FR.undo(k:FR C γ N F a){d:Option Nat}(hd:d.toList.all (·<N)=true):FR C γ N (F.undo d) (a.put d undef):=by
 cases d with
 | none=>exact k
 | some d=>exact k.put (d:=some d) hd (.tuple .nil)
theorem FR.or(k:FR C γ N F a):OR C γ F.val a:=by
 intro x sx v hx hv
 cases x with
 | tmp t=>
  simp only[cOpd,Option.some.injEq]at hx;subst hx
  obtain⟨v',h1,h2⟩:=k.get t v hv
  simp[Act.eval,h1]
  exact h2
 | const u=>
  simp only[cOpd]at hx
  split at hx
  ·rename_i hp
   simp only[Option.some.injEq]at hx;subst hx
   simp only[Fr.val,Option.some.injEq]at hv;subst hv
   exact plainV_VR hp
  ·simp at hx
 | global g=>simp[cOpd]at hx
 | func f=>
  simp only[cOpd,Option.map_eq_some_iff]at hx
  obtain⟨g,hg,rfl⟩:=hx
  simp only[Fr.val,Option.some.injEq]at hv;subst hv
  obtain⟨e,hL⟩:=C.back f g hg
  simp only[Act.eval,←e]
  exact .func hL .nil .nil
theorem FR.guard{os:Array Oper}{o:Oper}{g:Option (Nat×Bool)}{b:Bool}(k:FR C γ N F a)(hg:cGuard os o.guard=some g)(hb:gok F g=some b):Region.wanted o (yielded os a.tmps)=b:=by
 unfold cGuard at hg
 split at hg
 ·rename_i hn
  simp only[Option.some.injEq]at hg;subst hg
  simp only[gok,Option.some.injEq]at hb;subst hb
  simp[Region.wanted,hn]
 ·rename_i j want hn
  split at hg
  ·rename_i d hd
   simp only[Option.some.injEq]at hg;subst hg
   simp only[gok]at hb
   split at hb
   ·rename_i t ht
    simp only[Option.some.injEq]at hb;subst hb
    obtain⟨v',h1,h2⟩:=k.get d _ ht
    rw[h2.bool_inv]at h1
    simp only[Region.wanted,hn,yielded,hd,Option.bind_some,h1]
    cases t<;>cases want<;>rfl
   ·rename_i vs ht
    simp only[Option.some.injEq]at hb;subst hb
    obtain⟨v',h1,h2⟩:=k.get d _ ht
    obtain⟨vs',rfl,_⟩:=h2.tuple_inv
    simp only[Region.wanted,hn,yielded,hd,Option.bind_some,h1]
    rfl
   ·simp at hb
  ·simp at hg
end
theorem cOper_parts{P:Program}{ψ:FuncId→Option Nat}{N:Nat}{os:Array Oper}{o:Oper}{s:SOper}(h:cOper P ψ N os o=some s):
  s.dst=o.dst∧o.dst.toList.all (·<N)=true∧cGuard os o.guard=some s.guard∧(s.op=.bad∨cOp P ψ o=some s.op)∧(isStore s.op=true→o.dst=none)∧s.uses=[]∧s.id=0∧s.pre=[]∧s.lo=0∧s.hi=0∧s.dep=[]:=by
 unfold cOper at h
 split at h
 ·simp at h
 ·rename_i g hg
  split at h
  ·rename_i hc
   simp only[Option.some.injEq]at h
   subst h
   refine⟨rfl,hc.1,hg,?_,?_,rfl,rfl,rfl,rfl,rfl,rfl⟩
   ·cases cOp P ψ o with
    | none=>exact .inl rfl
    | some x=>exact .inr rfl
   ·intro hs
    have h2:=hc.2
    simp only at hs
    rw[hs]at h2
    simpa using h2
  ·simp at h
section
variable {C:Ctx} {γ:Gm} {a:Act} {ρ:SOpd→Option Value} {o:Oper} {s:SOper}
theorem good_oper{N:Nat}{os:Array Oper}(h:cOper C.P C.ψ N os o=some s)(hρ:OR C γ ρ a):Good C γ o a ρ s.op:=by
 obtain⟨_,_,_,h1|h1,_⟩:=cOper_parts h
 ·rw[h1];exact good_bad
 ·exact good_all hρ h1
end
def LoopWp(P:Program)(c:Code)(Q:Exit→Act→World→Prop)(a:Act)(w:World):Prop:=
 ∀(b:Frame) (k:List Item) (cs:List Frame),∃e a' w',Q e a' w'∧Arrives P (lone (b.at a (.code c::.inLoop c::k)) cs w) b k cs e a' w'
theorem LoopWp.wp{P:Program}{c:Code}{Q:Exit→Act→World→Prop}{a:Act}{w:World}(h:LoopWp P c Q a w):(Code.loop c).wp P Q a w:=
 fun b k cs=>let ⟨e,a',w',q,arr⟩:=h b k cs;⟨e,a',w',q,.of_steps (.one step_loop) arr⟩
theorem LoopWp.round{P:Program}{c:Code}{Q:Exit→Act→World→Prop}{a:Act}{w:World}(h:c.wp P (Exit.then (LoopWp P c Q) Q) a w):LoopWp P c Q a w:=by
 intro b k cs
 obtain⟨e,a₁,w₁,hq,harr⟩:=h b (.inLoop c::k) cs
 cases e with
 | normal=>
  obtain⟨e₂,a₂,w₂,hq₂,harr₂⟩:=hq b k cs
  exact⟨e₂,a₂,w₂,hq₂,.of_steps (Steps.trans harr (.one step_inLoop)) harr₂⟩
 | exit id=>exact⟨_,a₁,w₁,hq,.pass rfl (fun _ _=>.inl (by simp)) harr⟩
 | goto l=>exact⟨_,a₁,w₁,hq,.pass rfl (fun _ _=>.inl (by simp)) harr⟩
 | ret=>exact⟨_,a₁,w₁,hq,.pass rfl (fun _ _=>.inl (by simp)) harr⟩
 | panic chain=>exact⟨_,a₁,w₁,hq,.pass rfl (fun _ _=>.inl (by simp)) harr⟩
 | outgrown=>exact⟨_,a₁,w₁,hq,.pass rfl (fun _ _=>.inl (by simp)) harr⟩
def SExit.conc:SExit→Exit
 | .normal=>.normal
 | .exit id=>.exit id
 | .ret=>.ret
def Post(C:Ctx)(γ:Gm)(h0:AH)(N:Nat)(e:SExit)(F:Fr)(h:AH)(e':Exit)(a':Act)(w':World):Prop:=
 e'=e.conc∧∃γ',GX h0 γ γ' h∧HR C γ' h w'∧FR C γ' N F a'
theorem Post.mono{C:Ctx}{γ γ0:Gm}{h0 h1:AH}(hs:GX h0 γ0 γ h1){N:Nat}{e:SExit}{F:Fr}{h:AH}{e':Exit}{a':Act}{w':World}(k:Post C γ h1 N e F h e' a' w'):Post C γ0 h0 N e F h e' a' w':=
 let ⟨k1,γ',k2,k3,k4⟩:=k;⟨k1,γ',hs.trans k2,k3,k4⟩
def Called(C:Ctx)(γ:Gm)(h0:AH)(v:Value)(h:AH)(e:Ending)(w':World):Prop:=∃v' γ',e=.returned v'∧GX h0 γ γ' h∧HR C γ' h w'∧VR C γ' v v'
end Go.Jq
namespace Go.Jq
open Go.RowKit
def Comp(C:Ctx)(N:Nat)(os:Array Oper)(o:Oper)(s:SOper):Prop:=
 s.dst=o.dst∧o.dst.toList.all (·<N)=true∧cGuard os o.guard=some s.guard∧(s.op=.bad∨cOp C.P C.ψ o=some s.op)∧(isStore s.op=true→o.dst=none)
theorem Comp.good{C:Ctx}{N:Nat}{os:Array Oper}{o:Oper}{s:SOper}(h:Comp C N os o s){γ:Gm}{a:Act}{ρ:SOpd→Option Value}(hρ:OR C γ ρ a):Good C γ o a ρ s.op:=by
 obtain⟨_,_,_,h1|h1,_⟩:=h
 ·rw[h1];exact good_bad
 ·exact good_all hρ h1
def Ex(C:Ctx)(N:Nat)(os:Array Oper)(s:SOper)(F:Fr)(val:Option Value)(h h':AH):Prop:=
 ∀(o:Oper),Comp C N os o s→∀(γ:Gm) (w:World) (a:Act) (K:Act→World→Prop) (Q:Exit→Act→World→Prop),HR C γ h w→FR C γ N (F.keep s.uses) a→
  (∀γ' w' v',GX h γ γ' h'→HR C γ' h' w'→(∀v,val=some v→VR C γ' v v')→K (a.put o.dst v') w')→
  (if Region.wanted o (yielded os a.tmps)=true then o.wp C.P a w K Q else K (a.put o.dst undef) w)
section
variable {C:Ctx} {N:Nat} {os:Array Oper} {s:SOper} {F:Fr}
theorem ex_off(hg:gok (F.keep s.uses) s.guard=some false)(h:AH):Ex C N os s F none h h:=by
 intro o hc γ w a K Q H hF k
 rw[hF.guard hc.2.2.1 hg]
 simp only[Bool.false_eq_true,if_false]
 exact k γ w undef (.same (Nat.le_refl _)) H (by simp)
theorem ex_offU(hg:gok (F.keep s.uses) s.guard=some false)(h:AH):Ex C N os s F (some (.tuple #[])) h h:=by
 intro o hc γ w a K Q H hF k
 rw[hF.guard hc.2.2.1 hg]
 simp only[Bool.false_eq_true,if_false]
 exact k γ w undef (.same (Nat.le_refl _)) H (by intro v e;cases e;exact .tuple .nil)
theorem ex_val(hg:gok (F.keep s.uses) s.guard=some true){h h1:AH}{v:Value}(hs:sop s.op (F.keep s.uses).val h=some (.val v h1)):Ex C N os s F (some v) h h1:=by
 intro o hc γ w a K Q H hF k
 rw[hF.guard hc.2.2.1 hg]
 simp only[if_true]
 obtain⟨v',w',γ',q1,q2,q3,q4⟩:=(hc.good hF.or).all h w H _ hs
 simp only[Oper.wp,q1,Oper.upon_value]
 exact k γ' w' v' q2 q3 (by intro u hu;simp only[Option.some.injEq]at hu;subst hu;exact q4)
theorem ex_quiet(hg:gok (F.keep s.uses) s.guard=some true)(hq:s.op.quiet=true){h h1:AH}{v:Value}(hs:sop s.op (F.keep s.uses).val h=some (.val v h1))(h':AH):Ex C N os s F (some v) h' h':=by
 intro o hc γ w a K Q H hF k
 rw[hF.guard hc.2.2.1 hg]
 simp only[if_true]
 obtain⟨u,hu,q⟩:=(hc.good hF.or).quiet hq h _ hs
 simp only[Out.val.injEq]at hu
 obtain⟨rfl,rfl⟩:=hu
 obtain⟨v',q1,q2⟩:=q w
 simp only[Oper.wp,q1,Oper.upon_value]
 exact k γ w v' (.same (Nat.le_refl _)) H (by intro u hu;simp only[Option.some.injEq]at hu;subst hu;exact q2)
theorem ex_skip(hg:gok (F.keep s.uses) s.guard=some true){h h1:AH}(hs:sop s.op (F.keep s.uses).val h=some (.skip h1)):Ex C N os s F none h h1:=by
 intro o hc γ w a K Q H hF k
 rw[hF.guard hc.2.2.1 hg]
 simp only[if_true]
 obtain⟨w',q1,q2,q3⟩:=(hc.good hF.or).all h w H _ hs
 simp only[Oper.wp,q1,Oper.upon_skip]
 exact k γ w' undef (.same q2) q3 (by simp)
theorem ex_call(hg:gok (F.keep s.uses) s.guard=some true){h h1:AH}{f:Nat}{args:List Value}{v:Value}(hs:sop s.op (F.keep s.uses).val h=some (.call f args))
  (hcall:∀(γ:Gm) (w:World) (args':Array Value),C.L f=true→HR C γ h w→FA2 (VR C γ) args args'.toList→Calls C.P (C.φ f) args' w (Called C γ h v h1)):Ex C N os s F (some v) h h1:=by
 intro o hc γ w a K Q H hF k
 rw[hF.guard hc.2.2.1 hg]
 simp only[if_true]
 obtain⟨args',q1,q2,q3⟩:=(hc.good hF.or).all h w H _ hs
 simp only[Oper.wp,q1,Oper.upon_enter]
 refine(hcall γ w args' q3 H q2).mono fun e w'' hd=>?_
 obtain⟨v',γ',rfl,g1,g2,g3⟩:=hd
 exact k γ' w'' v' g1 g2 (by intro u hu;simp only[Option.some.injEq]at hu;subst hu;exact g3)
def FlEx(C:Ctx)(N:Nat)(os:Array Oper)(s:SOper)(F:Fr)(v:Value)(b:Nat)(blk:ABlk):Prop:=
 ∀(o:Oper),Comp C N os o s→∀(γ:Gm) (h:AH) (w:World) (a:Act) (K:Act→World→Prop) (Q:Exit→Act→World→Prop),HR C γ h w→γ b=none→b<h.next→h.get b=blk→FR C γ N (F.keep s.uses) a→
  (∀x w' v',HR C (gset γ b x) h w'→VR C (gset γ b x) v v'→K (a.put o.dst v') w')→
  (if Region.wanted o (yielded os a.tmps)=true then o.wp C.P a w K Q else K (a.put o.dst undef) w)
theorem ex_float(hg:gok (F.keep s.uses) s.guard=some true)(hf:s.op.float=true){h:AH}{v:Value}{blk:ABlk}(hs:sop s.op (F.keep s.uses).val h=some (.val v (h.alloc blk))):FlEx C N os s F v h.next blk:=by
 intro o hc γ h' w a K Q H hb hlt hget hF k
 rw[hF.guard hc.2.2.1 hg]
 simp only[if_true]
 obtain⟨u,blk',hu,fl⟩:=(hc.good hF.or).float hf h _ hs
 simp only[Out.val.injEq]at hu
 obtain⟨rfl,hblk⟩:=hu
 have hbb:blk'=blk:=by
  have:=congrArg (fun x:AH=>x.get h.next) hblk
  simpa[AH.alloc]using this.symm
 subst hbb
 obtain⟨v',obj,M,q1,q2⟩:=fl.go w H.size
 obtain⟨q3,q4⟩:=q2 (gset γ h.next (w.heap.size,0,M)) (gset_sub hb) (by simp[gset])
 simp only[Oper.wp,q1,Oper.upon_value]
 exact k _ _ v' (H.map hb hlt (by rw[hget];exact q4)) q3
end
structure T1 where
 s:SOper
 F:Fr
 val:Option Value
 k:Nat
 fl:Option (Nat×ABlk)
 rd:Option Rec
def upd(F:Fr)(t:T1):Fr:=match t.val with
 | some v=>F.put t.s.dst v
 | none=>F.unput t.s.dst
def fin(F:Fr)(l:List T1):Fr:=l.foldl upd F
def T1.mv(t:T1):Bool:=t.s.moves
inductive DT (C:Ctx) (N:Nat) (os:Array Oper):List SOper→Fr→AH→List AH→List Rec→List (Nat×Nat×ABlk)→List T1→Fr→AH→List AH→List Rec→List (Nat×Nat×ABlk)→Prop
 | nil {F:Fr} {h:AH} {past:List AH} {rs:List Rec} {fl:List (Nat×Nat×ABlk)}:(∀x∈rs,past.length≤x.hi→x.same h)→DT C N os [] F h past rs fl [] F h [h] rs fl
 | free {s:SOper} {l:List SOper} {F F1:Fr} {h hK:AH} {past Y:List AH} {rs rs':List Rec} {fl fl':List (Nat×Nat×ABlk)} {val:Option Value} {T:List T1}:s.moves=false→
   (∀h',Ex C N os s F val h' h')→DT C N os l (upd F ⟨s,F,val,past.length,none,none⟩) h past rs fl T F1 hK Y rs' fl'→
   DT C N os (s::l) F h past rs fl (⟨s,F,val,past.length,none,none⟩::T) F1 hK Y rs' fl'
 | still {s:SOper} {l:List SOper} {F F1:Fr} {h hK:AH} {past Y:List AH} {rs rs':List Rec} {fl fl':List (Nat×Nat×ABlk)} {v:Value} {T:List T1}:s.op.still=true→s.op.quiet=false→gok (F.keep s.uses) s.guard=some true→
   (∀x∈past.take (past.length-s.lo),Rec.same ⟨s.id,s.op,F.keep s.uses,v,s.hi⟩ x)→
   DT C N os l (F.put s.dst v) h past (⟨s.id,s.op,F.keep s.uses,v,s.hi⟩::rs) fl T F1 hK Y rs' fl'→
   DT C N os (s::l) F h past rs fl (⟨s,F,some v,past.length,none,some ⟨s.id,s.op,F.keep s.uses,v,s.hi⟩⟩::T) F1 hK Y rs' fl'
 | float {s:SOper} {l:List SOper} {F F1:Fr} {h hK:AH} {past Y:List AH} {rs rs':List Rec} {fl fl':List (Nat×Nat×ABlk)} {v:Value} {blk:ABlk} {T:List T1}:s.op.float=true→FlEx C N os s F v h.next blk→
   DT C N os l (F.put s.dst v) (h.alloc blk) past rs ((s.id,h.next,blk)::fl) T F1 hK Y rs' fl'→
   DT C N os (s::l) F h past rs fl (⟨s,F,some v,past.length,some (h.next,blk),none⟩::T) F1 hK Y rs' fl'
 | moves {s:SOper} {l:List SOper} {F F1:Fr} {h h1 hK:AH} {past Y:List AH} {rs rs':List Rec} {fl fl':List (Nat×Nat×ABlk)} {val:Option Value} {T:List T1}:s.moves=true→(∀x∈rs,past.length≤x.hi→x.same h)→
   Ex C N os s F val h h1→h.next≤h1.next→(∀x∈fl,s.dep.contains x.1=true∨h1.get x.2.1=x.2.2)→
   DT C N os l (upd F ⟨s,F,val,past.length,none,none⟩) h1 (h::past) rs fl T F1 hK Y rs' fl'→
   DT C N os (s::l) F h past rs fl (⟨s,F,val,past.length,none,none⟩::T) F1 hK (h::Y) rs' fl'
section
variable {C:Ctx} {N:Nat} {os:Array Oper} {l:List SOper} {F F1:Fr} {h hK:AH} {past Y:List AH} {rs rs':List Rec} {fl fl':List (Nat×Nat×ABlk)} {T:List T1}
theorem DT.map(d:DT C N os l F h past rs fl T F1 hK Y rs' fl'):T.map (·.s)=l:=by
 induction d with
 | nil=>rfl
 | free _ _ _ ih|still _ _ _ _ _ ih|float _ _ _ ih|moves _ _ _ _ _ _ ih=>simp[ih]
theorem DT.fin(d:DT C N os l F h past rs fl T F1 hK Y rs' fl'):Go.Jq.fin F T=F1:=by
 induction d with
 | nil=>rfl
 | free _ _ _ ih|still _ _ _ _ _ ih|float _ _ _ ih|moves _ _ _ _ _ _ ih=>exact ih
theorem DT.frame(d:DT C N os l F h past rs fl T F1 hK Y rs' fl'):∀A t B,T=A++t::B→t.F=Go.Jq.fin F A:=by
 induction d with
 | nil=>intro A t B e;cases A<;>simp at e
 | free _ _ _ ih|still _ _ _ _ _ ih|float _ _ _ ih|moves _ _ _ _ _ _ ih=>
  intro A t B e
  cases A with
  | nil=>simp only[List.nil_append,List.cons.injEq]at e;obtain⟨rfl,_⟩:=e;rfl
  | cons x A=>simp only[List.cons_append,List.cons.injEq]at e;obtain⟨rfl,e⟩:=e;exact ih A t B e
theorem DT.count(d:DT C N os l F h past rs fl T F1 hK Y rs' fl'):∀A t B,T=A++t::B→t.k=past.length+(A.filter (·.mv)).length:=by
 induction d with
 | nil=>intro A t B e;cases A<;>simp at e
 | free hm _ _ ih=>
  intro A t B e
  cases A with
  | nil=>simp only[List.nil_append,List.cons.injEq]at e;obtain⟨rfl,_⟩:=e;simp
  | cons x A=>simp only[List.cons_append,List.cons.injEq]at e;obtain⟨rfl,e⟩:=e;rw[ih A t B e];simp[T1.mv,hm]
 | still hst _ _ _ _ ih=>
  intro A t B e
  cases A with
  | nil=>simp only[List.nil_append,List.cons.injEq]at e;obtain⟨rfl,_⟩:=e;simp
  | cons x A=>
   simp only[List.cons_append,List.cons.injEq]at e;obtain⟨rfl,e⟩:=e;rw[ih A t B e]
   simp[T1.mv,SOper.moves,hst]
 | float hst _ _ ih=>
  intro A t B e
  cases A with
  | nil=>simp only[List.nil_append,List.cons.injEq]at e;obtain⟨rfl,_⟩:=e;simp
  | cons x A=>
   simp only[List.cons_append,List.cons.injEq]at e;obtain⟨rfl,e⟩:=e;rw[ih A t B e]
   simp[T1.mv,SOper.moves,hst]
 | moves hm _ _ _ _ _ ih=>
  intro A t B e
  cases A with
  | nil=>simp only[List.nil_append,List.cons.injEq]at e;obtain⟨rfl,_⟩:=e;simp
  | cons x A=>
   simp only[List.cons_append,List.cons.injEq]at e;obtain⟨rfl,e⟩:=e;rw[ih A t B e]
   simp[T1.mv,hm];omega
def Grew(h h':AH):Prop:=∃bs:List ABlk,h'=bs.foldl AH.alloc h
theorem Grew.refl(h:AH):Grew h h:=⟨[],rfl⟩
theorem Grew.alloc{h h':AH}{b:ABlk}(g:Grew (h.alloc b) h'):Grew h h':=let ⟨bs,e⟩:=g;⟨b::bs,e⟩
theorem Grew.get{h h':AH}(g:Grew h h'):h.next≤h'.next∧∀b,b<h.next→h'.get b=h.get b:=by
 obtain⟨bs,rfl⟩:=g
 induction bs generalizing h with
 | nil=>exact⟨Nat.le_refl _,fun _ _=>rfl⟩
 | cons x bs ih=>
  obtain⟨i1,i2⟩:=ih (h:=h.alloc x)
  rw[AH.alloc_next]at i1 i2
  refine⟨by simp only[List.foldl_cons];omega,fun b hb=>?_⟩
  simp only[List.foldl_cons]
  rw[i2 b (by omega),AH.alloc_get,if_neg (by omega)]
theorem Grew.hr{C:Ctx}{γ:Gm}{h h':AH}{w:World}(g:Grew h h')(H:HR C γ h w):HR C γ h' w:=by
 obtain⟨bs,rfl⟩:=g
 induction bs generalizing h with
 | nil=>exact H
 | cons x bs ih=>exact ih (H.grow x)
theorem DT.head(d:DT C N os l F h past rs fl T F1 hK Y rs' fl'):∃y Z,Y=y::Z∧Grew h y:=by
 induction d with
 | nil=>exact⟨_,_,rfl,.refl _⟩
 | free _ _ _ ih|still _ _ _ _ _ ih=>exact ih
 | float _ _ _ ih=>obtain⟨y,Z,e,g⟩:=ih;exact⟨y,Z,e,g.alloc⟩
 | moves=>exact⟨_,_,rfl,.refl _⟩
theorem DT.len(d:DT C N os l F h past rs fl T F1 hK Y rs' fl'):Y.length=(T.filter (·.mv)).length+1:=by
 induction d with
 | nil=>rfl
 | free hm _ _ ih=>rw[ih];simp[T1.mv,hm]
 | still hst _ _ _ _ ih=>rw[ih];simp[T1.mv,SOper.moves,hst]
 | float hst _ _ ih=>rw[ih];simp[T1.mv,SOper.moves,hst]
 | moves hm _ _ _ _ _ ih=>simp[ih,T1.mv,hm]
theorem DT.last(d:DT C N os l F h past rs fl T F1 hK Y rs' fl'):Y[(T.filter (·.mv)).length]?=some hK:=by
 induction d with
 | nil=>rfl
 | free hm _ _ ih=>simpa[T1.mv,hm]using ih
 | still hst _ _ _ _ ih=>simpa[T1.mv,SOper.moves,hst]using ih
 | float hst _ _ ih=>simpa[T1.mv,SOper.moves,hst]using ih
 | moves hm _ _ _ _ _ ih=>simpa[T1.mv,hm]using ih
theorem DT.next(d:DT C N os l F h past rs fl T F1 hK Y rs' fl'):∀y∈Y,h.next≤y.next:=by
 induction d with
 | nil=>intro y hy;simp at hy;subst hy;exact Nat.le_refl _
 | free _ _ _ ih|still _ _ _ _ _ ih=>exact ih
 | float _ _ _ ih=>intro y hy;have:=ih y hy;rw[AH.alloc_next]at this;omega
 | moves _ _ _ hn _ _ ih=>
  intro y hy
  rcases List.mem_cons.1 hy with rfl|hy
  ·exact Nat.le_refl _
  ·exact Nat.le_trans hn (ih y hy)
theorem DT.recs(d:DT C N os l F h past rs fl T F1 hK Y rs' fl'):∀x∈rs,∀i y,Y[i]?=some y→past.length+i≤x.hi→x.same y:=by
 induction d with
 | nil hs=>
  intro x hx i y hy hle
  cases i with
  | zero=>simp at hy;subst hy;exact hs x hx (by omega)
  | succ i=>simp at hy
 | free _ _ _ ih=>exact ih
 | still _ _ _ _ _ ih=>exact fun x hx=>ih x (List.mem_cons_of_mem _ hx)
 | float _ _ _ ih=>exact ih
 | moves _ hs _ _ _ _ ih=>
  intro x hx i y hy hle
  cases i with
  | zero=>simp at hy;subst hy;exact hs x hx (by omega)
  | succ i=>simp at hy;exact ih x hx i y hy (by simp;omega)
theorem DT.reads(d:DT C N os l F h past rs fl T F1 hK Y rs' fl'):∀t∈T,∀r,t.rd=some r→r.id=t.s.id∧r.op=t.s.op∧r.F=t.F.keep t.s.uses∧t.val=some r.v∧t.s.op.still=true∧t.s.op.quiet=false∧gok (t.F.keep t.s.uses) t.s.guard=some true∧
  ∀j y,t.s.lo≤j→j≤t.s.hi→(past.reverse++Y)[j]?=some y→r.same y:=by
 induction d with
 | nil=>intro t ht;simp at ht
 | free _ _ _ ih=>
  intro t ht
  rcases List.mem_cons.1 ht with rfl|ht
  ·intro r hr;simp at hr
  ·exact ih t ht
 | float _ _ _ ih=>
  intro t ht
  rcases List.mem_cons.1 ht with rfl|ht
  ·intro r hr;simp at hr
  ·exact ih t ht
 | moves _ _ _ _ _ _ ih=>
  intro t ht
  rcases List.mem_cons.1 ht with rfl|ht
  ·intro r hr;simp at hr
  ·intro r hr
   obtain⟨a1,a2,a3,a4,a5,a6,a7,a8⟩:=ih t ht r hr
   refine⟨a1,a2,a3,a4,a5,a6,a7,fun j y h1 h2 h3=>a8 j y h1 h2 ?_⟩
   simpa using h3
 | still hst hq hg hp d ih=>
  rename_i s l F F1 h hK past Y rs rs' fl fl' v T
  intro t ht
  rcases List.mem_cons.1 ht with rfl|ht
  ·intro r hr
   simp only[Option.some.injEq]at hr
   subst hr
   refine⟨rfl,rfl,rfl,rfl,hst,hq,hg,fun j y h1 h2 h3=>?_⟩
   rw[List.getElem?_append]at h3
   split at h3
   ·rename_i hlt
    simp at hlt
    refine hp y ?_
    rw[List.getElem?_reverse (by simpa using hlt)]at h3
    refine List.mem_of_getElem? (i:=past.length-1-j) ?_
    rw[List.getElem?_take,if_pos (by simp only at h1;omega)]
    exact h3
   ·rename_i hlt
    simp at hlt h3
    exact d.recs _ (List.mem_cons_self ..) _ y h3 (by simp only at h2;simp;omega)
  ·exact ih t ht
theorem DT.made(d:DT C N os l F h past rs fl T F1 hK Y rs' fl'):∀x∈fl,x.2.1<h.next→(∀y,Y[0]?=some y→y.get x.2.1=h.get x.2.1)∧∀A t B,T=A++t::B→t.mv=true→t.s.dep.contains x.1=true∨∀y,(past.reverse++Y)[t.k+1]?=some y→y.get x.2.1=x.2.2:=by
 induction d with
 | nil=>intro x _ _;exact⟨fun y hy=>by simp at hy;subst hy;rfl,fun A t B e=>by cases A<;>simp at e⟩
 | free hm _ _ ih=>
  intro x hx hlt
  obtain⟨i1,i2⟩:=ih x hx hlt
  refine⟨i1,fun A t B e hmv=>?_⟩
  cases A with
  | nil=>simp only[List.nil_append,List.cons.injEq]at e;obtain⟨rfl,_⟩:=e;simp[T1.mv,hm]at hmv
  | cons z A=>simp only[List.cons_append,List.cons.injEq]at e;exact i2 A t B e.2 hmv
 | still hst _ _ _ _ ih=>
  intro x hx hlt
  obtain⟨i1,i2⟩:=ih x hx hlt
  refine⟨i1,fun A t B e hmv=>?_⟩
  cases A with
  | nil=>simp only[List.nil_append,List.cons.injEq]at e;obtain⟨rfl,_⟩:=e;simp[T1.mv,SOper.moves,hst]at hmv
  | cons z A=>simp only[List.cons_append,List.cons.injEq]at e;exact i2 A t B e.2 hmv
 | float hst _ _ ih=>
  rename_i s l F F1 h hK past Y rs rs' fl fl' v blk T
  intro x hx hlt
  obtain⟨i1,i2⟩:=ih x (List.mem_cons_of_mem _ hx) (by rw[AH.alloc_next];omega)
  refine⟨fun y hy=>by rw[i1 y hy,AH.alloc_get,if_neg (by omega)],fun A t B e hmv=>?_⟩
  cases A with
  | nil=>simp only[List.nil_append,List.cons.injEq]at e;obtain⟨rfl,_⟩:=e;simp[T1.mv,SOper.moves,hst]at hmv
  | cons z A=>simp only[List.cons_append,List.cons.injEq]at e;exact i2 A t B e.2 hmv
 | moves hm _ _ hn hu d ih=>
  rename_i s l F F1 h h1 hK past Yy rs rs' fl fl' val T
  intro x hx hlt
  obtain⟨i1,i2⟩:=ih x hx (by omega)
  refine⟨fun y hy=>by simp at hy;subst hy;rfl,fun A t B e hmv=>?_⟩
  cases A with
  | nil=>
   simp only[List.nil_append,List.cons.injEq]at e;obtain⟨rfl,_⟩:=e
   rcases hu x hx with h0|h0
   ·exact .inl h0
   ·refine .inr fun y hy=>?_
    have h7:=i1 y (by
     rw[List.getElem?_append_right (by simp)]at hy
     simpa using hy)
    rw[h7,h0]
  | cons z A=>
   simp only[List.cons_append,List.cons.injEq]at e
   rcases i2 A t B e.2 hmv with h0|h0
   ·exact .inl h0
   ·exact .inr fun y hy=>h0 y (by simpa using hy)
end
end Go.Jq
namespace Go.Jq
open Go.RowKit
section
variable {C:Ctx} {N:Nat} {os:Array Oper} {l:List SOper} {F F1:Fr} {h hK:AH} {past Y:List AH} {rs rs':List Rec} {fl fl':List (Nat×Nat×ABlk)} {T:List T1}
theorem DT.frees(d:DT C N os l F h past rs fl T F1 hK Y rs' fl'):∀t∈T,t.mv=false→t.fl=none→t.rd=none→∀h',Ex C N os t.s t.F t.val h' h':=by
 induction d with
 | nil=>intro t ht;simp at ht
 | free hm hex _ ih=>
  intro t ht
  rcases List.mem_cons.1 ht with rfl|ht
  ·intro _ _ _;exact hex
  ·exact ih t ht
 | still _ _ _ _ _ ih=>
  intro t ht
  rcases List.mem_cons.1 ht with rfl|ht
  ·intro _ _ h3;simp at h3
  ·exact ih t ht
 | float _ _ _ ih=>
  intro t ht
  rcases List.mem_cons.1 ht with rfl|ht
  ·intro _ h2;simp at h2
  ·exact ih t ht
 | moves hm _ _ _ _ _ ih=>
  intro t ht
  rcases List.mem_cons.1 ht with rfl|ht
  ·intro h1;simp[T1.mv,hm]at h1
  ·exact ih t ht
theorem DT.kge(d:DT C N os l F h past rs fl T F1 hK Y rs' fl'):∀t∈T,past.length≤t.k:=by
 intro t ht
 obtain⟨A,B,e⟩:=List.append_of_mem ht
 rw[d.count A t B e]
 omega
theorem DT.floats(d:DT C N os l F h past rs fl T F1 hK Y rs' fl'):∀t∈T,∀b blk,t.fl=some (b,blk)→∃v,t.val=some v∧t.mv=false∧t.rd=none∧h.next≤b∧FlEx C N os t.s t.F v b blk∧(∀j y,t.k≤j→(past.reverse++Y)[j]?=some y→b<y.next)∧
  (∀y,(past.reverse++Y)[t.k]?=some y→y.get b=blk)∧∀q∈T,q.mv=true→t.k≤q.k→q.s.dep.contains t.s.id=true∨∀y,(past.reverse++Y)[q.k+1]?=some y→y.get b=blk:=by
 induction d with
 | nil=>intro t ht;simp at ht
 | free hm _ _ ih=>
  intro t ht b blk hb
  rcases List.mem_cons.1 ht with rfl|ht
  ·simp at hb
  ·obtain⟨v,a1,a2,a3,a4,a5,a6,a7,a8⟩:=ih t ht b blk hb
   refine⟨v,a1,a2,a3,a4,a5,a6,a7,fun q hq hmv=>?_⟩
   rcases List.mem_cons.1 hq with rfl|hq
   ·simp[T1.mv,hm]at hmv
   ·exact a8 q hq hmv
 | still hst _ _ _ _ ih=>
  intro t ht b blk hb
  rcases List.mem_cons.1 ht with rfl|ht
  ·simp at hb
  ·obtain⟨v,a1,a2,a3,a4,a5,a6,a7,a8⟩:=ih t ht b blk hb
   refine⟨v,a1,a2,a3,a4,a5,a6,a7,fun q hq hmv=>?_⟩
   rcases List.mem_cons.1 hq with rfl|hq
   ·simp[T1.mv,SOper.moves,hst]at hmv
   ·exact a8 q hq hmv
 | float hst hfx d ih=>
  rename_i s l F F1 h hK past Yy rs rs' fl fl' v blk0 T
  intro t ht b blk hb
  rcases List.mem_cons.1 ht with rfl|ht
  ·simp only[Option.some.injEq,Prod.mk.injEq]at hb
   obtain⟨rfl,rfl⟩:=hb
   obtain⟨m1,m2⟩:=d.made (s.id,h.next,blk0) (List.mem_cons_self ..) (by show h.next<_;rw[AH.alloc_next];omega)
   refine⟨v,rfl,by simp[T1.mv,SOper.moves,hst],rfl,Nat.le_refl _,hfx,?_,?_,?_⟩
   ·intro j y hj hy
    rw[List.getElem?_append_right (by simpa using hj)]at hy
    have:=d.next y (List.mem_of_getElem? hy)
    rw[AH.alloc_next]at this
    omega
   ·intro y hy
    have:Yy[0]?=some y:=by
     rw[List.getElem?_append_right (by simp)]at hy
     simpa using hy
    rw[m1 y this,AH.alloc_get,if_pos rfl]
   ·intro q hq hmv _
    rcases List.mem_cons.1 hq with rfl|hq
    ·simp[T1.mv,SOper.moves,hst]at hmv
    ·obtain⟨A,B,e⟩:=List.append_of_mem hq
     exact m2 A q B e hmv
  ·obtain⟨v',a1,a2,a3,a4,a5,a6,a7,a8⟩:=ih t ht b blk hb
   refine⟨v',a1,a2,a3,by rw[AH.alloc_next]at a4;omega,a5,a6,a7,fun q hq hmv=>?_⟩
   rcases List.mem_cons.1 hq with rfl|hq
   ·simp[T1.mv,SOper.moves,hst]at hmv
   ·exact a8 q hq hmv
 | moves hm h2 hex hn h4 d ih=>
  rename_i s l F F1 h h1 hK past Yy rs rs' fl fl' val T
  intro t ht b blk hb
  rcases List.mem_cons.1 ht with rfl|ht
  ·simp at hb
  ·obtain⟨v',a1,a2,a3,a4,a5,a6,a7,a8⟩:=ih t ht b blk hb
   refine⟨v',a1,a2,a3,by omega,a5,fun j y hj hy=>a6 j y hj (by simpa using hy),fun y hy=>a7 y (by simpa using hy),fun q hq hmv hk=>?_⟩
   rcases List.mem_cons.1 hq with rfl|hq
   ·have:=d.kge t ht
    simp at this hk
    omega
   ·rcases a8 q hq hmv hk with h0|h0
    ·exact .inl h0
    ·exact .inr fun y hy=>h0 y (by simpa using hy)
theorem DT.mvs(d:DT C N os l F h past rs fl T F1 hK Y rs' fl'):∀t∈T,t.mv=true→∃y h' z,(past.reverse++Y)[t.k]?=some y∧Ex C N os t.s t.F t.val y h'∧(past.reverse++Y)[t.k+1]?=some z∧Grew h' z∧t.fl=none∧t.rd=none∧∀u∈T,∀b blk,u.fl=some (b,blk)→t.k<u.k→h'.next≤b:=by
 induction d with
 | nil=>intro t ht;simp at ht
 | free hm hex _ ih=>
  intro t ht hmv
  rcases List.mem_cons.1 ht with rfl|ht
  ·simp[T1.mv,hm]at hmv
  ·obtain⟨y,h',z,e1,e2,e3,e4,e5,e6,e7⟩:=ih t ht hmv
   refine⟨y,h',z,e1,e2,e3,e4,e5,e6,fun u hu b blk hb hk=>?_⟩
   rcases List.mem_cons.1 hu with rfl|hu
   ·simp at hb
   ·exact e7 u hu b blk hb hk
 | still hst _ _ _ _ ih=>
  intro t ht hmv
  rcases List.mem_cons.1 ht with rfl|ht
  ·simp[T1.mv,SOper.moves,hst]at hmv
  ·obtain⟨y,h',z,e1,e2,e3,e4,e5,e6,e7⟩:=ih t ht hmv
   refine⟨y,h',z,e1,e2,e3,e4,e5,e6,fun u hu b blk hb hk=>?_⟩
   rcases List.mem_cons.1 hu with rfl|hu
   ·simp at hb
   ·exact e7 u hu b blk hb hk
 | float hst hfx d ih=>
  intro t ht hmv
  rcases List.mem_cons.1 ht with rfl|ht
  ·simp[T1.mv,SOper.moves,hst]at hmv
  ·obtain⟨y,h',z,e1,e2,e3,e4,e5,e6,e7⟩:=ih t ht hmv
   refine⟨y,h',z,e1,e2,e3,e4,e5,e6,fun u hu b blk hb hk=>?_⟩
   rcases List.mem_cons.1 hu with rfl|hu
   ·have:=d.kge t ht
    simp at hk
    omega
   ·exact e7 u hu b blk hb hk
 | moves hm h2 hex h3 h4 d ih=>
  rename_i s l F F1 h h1 hK past Yy rs rs' fl fl' val T
  intro t ht hmv
  rcases List.mem_cons.1 ht with rfl|ht
  ·obtain⟨y,Z,rfl,g⟩:=d.head
   refine⟨h,h1,y,?_,hex,?_,g,rfl,rfl,?_⟩
   ·rw[List.getElem?_append_right (by simp)];simp
   ·rw[List.getElem?_append_right (by simp)];simp
   ·intro u hu b blk hb hk
    rcases List.mem_cons.1 hu with rfl|hu
    ·simp at hb
    ·obtain⟨_,_,_,_,a4,_⟩:=d.floats u hu b blk hb
     exact a4
  ·obtain⟨y,h',z,e1,e2,e3,e4,e5,e6,e7⟩:=ih t ht hmv
   refine⟨y,h',z,by simpa using e1,e2,by simpa using e3,e4,e5,e6,fun u hu b blk hb hk=>?_⟩
   rcases List.mem_cons.1 hu with rfl|hu
   ·simp at hb
   ·exact e7 u hu b blk hb hk
theorem DT.fl_float(d:DT C N os l F h past rs fl T F1 hK Y rs' fl'):∀t∈T,∀x,t.fl=some x→t.s.op.float=true:=by
 induction d with
 | nil=>intro t ht;simp at ht
 | free _ _ _ ih|still _ _ _ _ _ ih|moves _ _ _ _ _ _ ih=>
  intro t ht x hx
  rcases List.mem_cons.1 ht with rfl|ht
  ·simp at hx
  ·exact ih t ht x hx
 | float hf _ _ ih=>
  intro t ht x hx
  rcases List.mem_cons.1 ht with rfl|ht
  ·exact hf
  ·exact ih t ht x hx
theorem DT.kidx(d:DT C N os l F h past rs fl T F1 hK Y rs' fl'):∀(i:Nat) q,(T.filter (·.mv))[i]?=some q→q.k=past.length+i:=by
 induction d with
 | nil=>intro i q hq;simp at hq
 | free hm _ _ ih=>
  intro i q hq
  rw[List.filter_cons_of_neg (by simp[T1.mv,hm])]at hq
  exact ih i q hq
 | still hst _ _ _ _ ih=>
  intro i q hq
  rw[List.filter_cons_of_neg (by simp[T1.mv,SOper.moves,hst])]at hq
  exact ih i q hq
 | float hst _ _ ih=>
  intro i q hq
  rw[List.filter_cons_of_neg (by simp[T1.mv,SOper.moves,hst])]at hq
  exact ih i q hq
 | moves hm _ _ _ _ _ ih=>
  intro i q hq
  rw[List.filter_cons_of_pos (by simp[T1.mv,hm])]at hq
  cases i with
  | zero=>simp at hq;subst hq;rfl
  | succ i=>
   simp only[List.getElem?_cons_succ]at hq
   rw[ih i q hq]
   simp only[List.length_cons]
   omega
theorem DT.fdist(d:DT C N os l F h past rs fl T F1 hK Y rs' fl'):∀A t B,T=A++t::B→∀b blk,t.fl=some (b,blk)→∀u∈B,∀c clk,u.fl=some (c,clk)→b<c:=by
 induction d with
 | nil=>intro A t B e;cases A<;>simp at e
 | free _ _ _ ih|still _ _ _ _ _ ih|moves _ _ _ _ _ _ ih=>
  intro A t B e b blk hb
  cases A with
  | nil=>simp only[List.nil_append,List.cons.injEq]at e;obtain⟨rfl,_⟩:=e;simp at hb
  | cons x A=>simp only[List.cons_append,List.cons.injEq]at e;exact ih A t B e.2 b blk hb
 | float _ _ d ih=>
  intro A t B e b blk hb
  cases A with
  | nil=>
   simp only[List.nil_append,List.cons.injEq]at e
   obtain⟨rfl,rfl⟩:=e
   simp only[Option.some.injEq,Prod.mk.injEq]at hb
   obtain⟨rfl,rfl⟩:=hb
   intro u hu c clk hc
   obtain⟨_,_,_,_,a4,_⟩:=d.floats u hu c clk hc
   rw[AH.alloc_next]at a4
   omega
  | cons x A=>simp only[List.cons_append,List.cons.injEq]at e;exact ih A t B e.2 b blk hb
theorem DT.all(d:DT C N os l F h past rs fl T F1 hK Y rs' fl'):(∀x∈rs,x∈rs')∧(∀x∈fl,x∈fl')∧(∀t∈T,∀r,t.rd=some r→r∈rs')∧(∀t∈T,∀b blk,t.fl=some (b,blk)→(t.s.id,b,blk)∈fl'):=by
 induction d with
 | nil=>exact⟨fun _ h=>h,fun _ h=>h,fun t ht=>by simp at ht,fun t ht=>by simp at ht⟩
 | free _ _ _ ih|moves _ _ _ _ _ _ ih=>
  obtain⟨a1,a2,a3,a4⟩:=ih
  refine⟨a1,a2,fun t ht=>?_,fun t ht=>?_⟩
  ·rcases List.mem_cons.1 ht with rfl|ht
   ·intro r hr;simp at hr
   ·exact a3 t ht
  ·rcases List.mem_cons.1 ht with rfl|ht
   ·intro b blk hr;simp at hr
   ·exact a4 t ht
 | still _ _ _ _ _ ih=>
  obtain⟨a1,a2,a3,a4⟩:=ih
  refine⟨fun x hx=>a1 x (List.mem_cons_of_mem _ hx),a2,fun t ht=>?_,fun t ht=>?_⟩
  ·rcases List.mem_cons.1 ht with rfl|ht
   ·intro r hr;simp only[Option.some.injEq]at hr;subst hr;exact a1 _ (List.mem_cons_self ..)
   ·exact a3 t ht
  ·rcases List.mem_cons.1 ht with rfl|ht
   ·intro b blk hr;simp at hr
   ·exact a4 t ht
 | float _ _ _ ih=>
  obtain⟨a1,a2,a3,a4⟩:=ih
  refine⟨a1,fun x hx=>a2 x (List.mem_cons_of_mem _ hx),fun t ht=>?_,fun t ht=>?_⟩
  ·rcases List.mem_cons.1 ht with rfl|ht
   ·intro r hr;simp at hr
   ·exact a3 t ht
  ·rcases List.mem_cons.1 ht with rfl|ht
   ·intro b blk hr;simp only[Option.some.injEq,Prod.mk.injEq]at hr;obtain⟨rfl,rfl⟩:=hr;exact a2 _ (List.mem_cons_self ..)
   ·exact a4 t ht
end
theorem getElem?_splice{c:List Value}{o:Nat}{v:List Value}(hle:o+v.length≤c.length)(j:Nat):(splice c o v)[j]?=if o≤j∧j<o+v.length then v[j-o]? else c[j]?:=by
 simp only[splice,List.getElem?_append,List.length_take,List.getElem?_take,List.getElem?_drop]
 have:min o c.length=o:=by omega
 rw[this]
 by_cases h1:j<o
 ·rw[if_pos h1,if_pos h1,if_neg (by omega)]
 ·rw[if_neg h1]
  by_cases h2:j-o<v.length
  ·rw[if_pos h2,if_pos (by omega)]
  ·rw[if_neg h2,if_neg (by omega)]
   congr 1
   omega
theorem splice_comm{c:List Value}{o p:Nat}{u v:List Value}(h1:o+u.length≤c.length)(h2:p+v.length≤c.length)(h:o+u.length≤p∨p+v.length≤o):splice (splice c o u) p v=splice (splice c p v) o u:=by
 apply List.ext_getElem?
 intro j
 rw[getElem?_splice (by rw[splice_length h1];exact h2),getElem?_splice h1,getElem?_splice (by rw[splice_length h2];exact h1),getElem?_splice h2]
 by_cases a1:o≤j∧j<o+u.length
 ·rw[if_neg (show ¬(p≤j∧j<p+v.length) by omega),if_pos a1,if_pos a1]
 ·rw[if_neg a1,if_neg a1]
theorem AH.ext'{a b:AH}(h1:a.next=b.next)(h2:∀i,a.get i=b.get i):a=b:=by
 cases a;cases b
 simp only at h1 h2
 subst h1
 congr
 funext i
 exact h2 i
theorem St.put_next(h:AH)(s:St):(St.put h s).next=h.next:=by
 unfold St.put
 split
 ·split<;>rfl
 ·rfl
theorem St.put_get(h:AH)(s:St)(i:Nat):(St.put h s).get i=if i=s.b then(match h.get i with
  | .cells c g ro=>if s.off+s.cs.length≤c.length then .cells (splice c s.off s.cs) g ro else h.get i
  | o=>o)else h.get i:=by
 unfold St.put
 split
 ·rename_i c g ro hc
  split
  ·rename_i hle
   rw[AH.put_get]
   split
   ·rename_i e;subst e;rw[hc];simp[hle]
   ·rfl
  ·rename_i hle
   split
   ·rename_i e;subst e;rw[hc];simp[hle]
   ·rfl
 ·rename_i hc
  split
  ·rename_i e;subst e
   cases ho:h.get s.b with
   | cells c g ro=>exact absurd ho (hc c g ro)
   | map=>rfl
   | dead=>rfl
  ·rfl
theorem St.get_ne(h:AH)(s:St){i:Nat}(e:i≠s.b):(St.put h s).get i=h.get i:=by rw[St.put_get,if_neg e]
theorem St.get_cells{h:AH}{s:St}{c:List Value}{g ro:Bool}(ho:h.get s.b=.cells c g ro):(St.put h s).get s.b=.cells (if s.off+s.cs.length≤c.length then splice c s.off s.cs else c) g ro:=by
 rw[St.put_get,if_pos rfl,ho]
 simp only
 split<;>rfl
theorem St.get_other{h:AH}{s:St}(ho:∀c g ro,h.get s.b≠.cells c g ro):(St.put h s).get s.b=h.get s.b:=by
 rw[St.put_get,if_pos rfl]
 split
 ·rename_i e;exact absurd e (ho _ _ _)
 ·rfl
theorem St.put_comm{s t:St}(hap:s.apart t)(h:AH):St.put (St.put h s) t=St.put (St.put h t) s:=by
 refine AH.ext' (by simp[St.put_next]) fun i=>?_
 by_cases e1:i=s.b
 ·subst e1
  by_cases e2:s.b=t.b
  ·have hd:s.off+s.cs.length≤t.off∨t.off+t.cs.length≤s.off:=by
    rcases hap with h|h
    ·exact absurd e2 h
    ·exact h
   by_cases hc:∃c g ro,h.get s.b=.cells c g ro
   ·obtain⟨c,g,ro,hc⟩:=hc
    have k1:=St.get_cells hc
    have k2:=St.get_cells (s:=t) (h:=St.put h s) (by rw[←e2];exact k1)
    have k3:=St.get_cells (s:=t) (h:=h) (by rw[←e2];exact hc)
    have k4:=St.get_cells (s:=s) (h:=St.put h t) (by rw[e2];exact k3)
    rw[k4]
    rw[e2,k2]
    by_cases l1:s.off+s.cs.length≤c.length
    ·by_cases l2:t.off+t.cs.length≤c.length
     ·simp only[l1,l2,if_true,splice_length l1,splice_length l2,splice_comm l1 l2 hd]
     ·simp only[l1,l2,if_true,if_false,splice_length l1]
    ·by_cases l2:t.off+t.cs.length≤c.length
     ·simp only[l1,l2,if_true,if_false,splice_length l2]
     ·simp only[l1,l2,if_false]
   ·have n1:∀c g ro,h.get s.b≠.cells c g ro:=fun c g ro e=>hc ⟨c,g,ro,e⟩
    have n2:∀c g ro,h.get t.b≠.cells c g ro:=by rw[←e2];exact n1
    have k1:=St.get_other n1
    have k3:=St.get_other n2
    have k2:=St.get_other (s:=t) (h:=St.put h s) (by rw[←e2,k1];exact n1)
    have k4:=St.get_other (s:=s) (h:=St.put h t) (by rw[e2,k3];exact n2)
    rw[k4,e2,k2,k3,←e2,k1]
  ·rw[St.get_ne _ _ e2]
   by_cases hc:∃c g ro,h.get s.b=.cells c g ro
   ·obtain⟨c,g,ro,hc⟩:=hc
    rw[St.get_cells hc,St.get_cells (h:=St.put h t) (by rw[St.get_ne _ _ e2];exact hc)]
   ·have n1:∀c g ro,h.get s.b≠.cells c g ro:=fun c g ro e=>hc ⟨c,g,ro,e⟩
    rw[St.get_other n1,St.get_other (h:=St.put h t) (by rw[St.get_ne _ _ e2];exact n1),St.get_ne _ _ e2]
 ·rw[St.get_ne (St.put h t) _ e1]
  by_cases e2:i=t.b
  ·subst e2
   by_cases hc:∃c g ro,h.get t.b=.cells c g ro
   ·obtain⟨c,g,ro,hc⟩:=hc
    rw[St.get_cells hc,St.get_cells (h:=St.put h s) (by rw[St.get_ne _ _ e1];exact hc)]
   ·have n1:∀c g ro,h.get t.b≠.cells c g ro:=fun c g ro e=>hc ⟨c,g,ro,e⟩
    rw[St.get_other n1,St.get_other (h:=St.put h s) (by rw[St.get_ne _ _ e1];exact n1),St.get_ne _ _ e1]
  ·rw[St.get_ne _ _ e2,St.get_ne _ _ e1,St.get_ne _ _ e2]
theorem St.fits_put{s t:St}{h:AH}(hf:s.fits h):s.fits (St.put h t):=by
 unfold St.fits at hf ⊢
 by_cases hc:∃c g ro,h.get s.b=.cells c g ro
 ·obtain⟨c,g,ro,hc⟩:=hc
  rw[hc]at hf
  obtain⟨rfl,hle⟩:=hf
  by_cases e:s.b=t.b
  ·have:=St.get_cells (s:=t) (h:=h) (by rw[←e];exact hc)
   rw[e,this]
   refine⟨rfl,?_⟩
   split
   ·rename_i hl;rw[splice_length hl];exact hle
   ·exact hle
  ·rw[St.get_ne _ _ e,hc]
   exact⟨rfl,hle⟩
 ·cases ho:h.get s.b with
  | dead=>rw[ho]at hf;exact hf.elim
  | map=>rw[ho]at hf;exact hf.elim
  | cells c g ro=>exact absurd ⟨c,g,ro,ho⟩ hc
theorem St.store_of_fits{s:St}{h:AH}(hf:s.fits h):h.store s.b s.off s.cs=some (St.put h s):=by
 unfold St.fits at hf
 unfold AH.store St.put
 cases ho:h.get s.b with
 | dead=>rw[ho]at hf;exact hf.elim
 | map=>rw[ho]at hf;exact hf.elim
 | cells c g ro=>
  rw[ho]at hf
  obtain⟨rfl,hle⟩:=hf
  simp[hle]
theorem foldl_put_next(l:List St)(h:AH):(l.foldl St.put h).next=h.next:=by
 induction l generalizing h with
 | nil=>rfl
 | cons s l ih=>rw[List.foldl_cons,ih,St.put_next]
theorem foldl_put_get(l:List St)(h:AH){b:Nat}(hb:∀s∈l,s.b≠b):(l.foldl St.put h).get b=h.get b:=by
 induction l generalizing h with
 | nil=>rfl
 | cons s l ih=>rw[List.foldl_cons,ih _ fun t ht=>hb t (List.mem_cons_of_mem _ ht),St.put_get,if_neg fun e=>hb s (List.mem_cons_self ..) e.symm]
theorem put_load{h:AH}{b o n:Nat}{s:St}{cs:List Value}(hl:h.load b o n=some cs)(hap:b≠s.b∨o+n≤s.off∨s.off+s.cs.length≤o):(St.put h s).load b o n=some cs:=by
 unfold AH.load at hl ⊢
 by_cases e:b=s.b
 ·subst e
  cases ho:h.get s.b with
  | dead=>rw[ho]at hl;simp at hl
  | map=>rw[ho]at hl;simp at hl
  | cells c g ro=>
   rw[ho]at hl
   rw[St.get_cells ho]
   simp only at hl ⊢
   split at hl
   ·rename_i hle
    simp only[Option.some.injEq]at hl
    subst hl
    by_cases hs:s.off+s.cs.length≤c.length
    ·simp only[hs,if_true,splice_length hs,hle,Option.some.injEq]
     apply List.ext_getElem?
     intro j
     simp only[List.getElem?_take,List.getElem?_drop]
     split
     ·rw[getElem?_splice hs,if_neg (by omega)]
     ·rfl
    ·simp only[hs,if_false,hle,if_true]
   ·simp at hl
 ·rw[St.get_ne _ _ e];exact hl
theorem put_load1{h:AH}{b o:Nat}{s:St}{v:Value}(hl:h.load1 b o=some v)(hap:b≠s.b∨o+1≤s.off∨s.off+s.cs.length≤o):(St.put h s).load1 b o=some v:=by
 unfold AH.load1 at hl ⊢
 by_cases e:b=s.b
 ·subst e
  cases ho:h.get s.b with
  | dead=>rw[ho]at hl;simp at hl
  | map=>rw[ho]at hl;simp at hl
  | cells c g ro=>
   rw[ho]at hl
   rw[St.get_cells ho]
   simp only at hl ⊢
   split
   ·rename_i hs
    rw[getElem?_splice hs,if_neg (by omega)]
    exact hl
   ·exact hl
 ·rw[St.get_ne _ _ e];exact hl
theorem Rec.same_put{r:Rec}{s:St}{h:AH}(hs:r.same h)(hap:r.apart s):r.same (St.put h s):=by
 unfold Rec.same at hs ⊢
 unfold Rec.apart at hap
 cases hop:r.op<;>rw[hop]at hs hap<;>simp only at hap
 case load1 a=>
  simp only[sop]at hs ⊢
  cases hb:(r.F.val a).bind ptr with
  | none=>rw[hb]at hap;exact hap.elim
  | some p=>
   obtain⟨b,o⟩:=p
   rw[hb]at hs hap
   simp only at hs hap ⊢
   split at hs
   ·rename_i v hv
    simp only[Option.some.injEq,Out.val.injEq,and_true]at hs
    rw[put_load1 hv (by simpa[St.apart]using hap),hs]
   ·simp at hs
 case loadN n a=>
  simp only[sop]at hs ⊢
  cases hb:(r.F.val a).bind ptr with
  | none=>rw[hb]at hap;exact hap.elim
  | some p=>
   obtain⟨b,o⟩:=p
   rw[hb]at hs hap
   simp only at hs hap ⊢
   split at hs
   ·rename_i v hv
    simp only[Option.some.injEq,Out.val.injEq,and_true]at hs
    rw[put_load hv (by simpa[St.apart]using hap)]
    simp only[hs]
   ·simp at hs
 case bstr x=>
  simp only[sop]at hs ⊢
  split at hs
  ·rename_i ad n c hx
   simp only[hx]at hap
   split at hs
   ·simp at hs
   ·rename_i hn
    split at hs
    ·rename_i cs hl
     rw[if_neg hn,put_load hl (by simpa[St.apart]using hap)]
     split at hs
     ·rename_i bs hb
      simp only[Option.some.injEq,Out.val.injEq,and_true]at hs
      simp only[hb,hs]
     ·simp at hs
    ·simp at hs
  ·simp at hs
 case lenM x=>
  simp only[sop]at hs ⊢
  split at hs
  ·simp only[Option.some.injEq,Out.val.injEq,and_true]at hs;rw[hs]
  ·rename_i m hm
   split at hs
   ·rename_i es clk hg
    simp only[Option.some.injEq,Out.val.injEq,and_true]at hs
    have:(St.put h s).get m=.map es clk:=by
     rw[St.put_get,hg];split<;>rfl
    rw[this]
    simp only[hs]
   ·simp at hs
  ·simp at hs
end Go.Jq
namespace Go.Jq
open Go.RowKit
theorem look_cons(i b:Nat)(acc:List (Nat×Nat))(j:Nat):look ((i,b)::acc) j=if j=i then b else look acc j:=by
 unfold look
 simp only[List.lookup]
 split
 ·rename_i e;simp only[beq_iff_eq]at e;subst e;simp
 ·rename_i e;simp only[beq_eq_false_iff_ne,ne_eq]at e;rw[if_neg e]
theorem bit_foldl(f:Nat→Nat)(r:Nat):∀(l:List Nat) (s:Nat),(l.foldl (fun s j=>s ||| 2^j ||| f j) s).testBit r=true→s.testBit r=true∨∃j∈l,r=j∨(f j).testBit r=true
 | [],s,h=>.inl h
 | j::l,s,h=>by
  rcases bit_foldl f r l _ h with h|⟨k,hk,h⟩
  ·simp only[Nat.testBit_or,Bool.or_eq_true]at h
   rcases h with(h|h)|h
   ·exact .inl h
   ·rw[Nat.testBit_two_pow]at h
    exact .inr ⟨j,by simp,.inl (by simpa using Eq.symm (by simpa using h))⟩
   ·exact .inr ⟨j,by simp,.inr h⟩
  ·exact .inr ⟨k,by simp[hk],h⟩
theorem ancs_inv{M:List SOper}:∀(m:List SOper) (acc:List (Nat×Nat)),(∀s∈m,s∈M∧(∀j∈s.pre,j<s.id))→m.Pairwise (fun a b=>a.id≠b.id)→(∀s∈m,∀r,(look acc s.id).testBit r=false)→
  (∀i r,(look acc i).testBit r=true→∃s∈M,s.id=i∧∃j∈s.pre,r=j∨(look acc j).testBit r=true)→
  ∀i r,(look (m.foldl ancStep acc) i).testBit r=true→∃s∈M,s.id=i∧∃j∈s.pre,r=j∨(look (m.foldl ancStep acc) j).testBit r=true
 | [],acc,_,_,_,h=>h
 | s::m,acc,hm,hp,hz,h=>by
  simp only[List.foldl_cons]
  rw[List.pairwise_cons]at hp
  refine ancs_inv m (ancStep acc s) (fun t ht=>hm t (by simp[ht])) hp.2 ?_ ?_
  ·intro t ht r
   rw[ancStep,look_cons,if_neg (fun e=>hp.1 t ht e.symm)]
   exact hz t (by simp[ht]) r
  ·intro i r hb
   rw[ancStep,look_cons]at hb
   split at hb
   ·rename_i e
    subst e
    rcases bit_foldl (look acc) r _ _ hb with h0|⟨j,hj,h0⟩
    ·simp at h0
    ·refine⟨s,(hm s (by simp)).1,rfl,j,hj,?_⟩
     rcases h0 with h0|h0
     ·exact .inl h0
     ·have:=(hm s (by simp)).2 j hj
      exact .inr (by rw[ancStep,look_cons,if_neg (by omega)];exact h0)
   ·obtain⟨t,ht,e1,j,hj,h0⟩:=h i r hb
    refine⟨t,ht,e1,j,hj,?_⟩
    rcases h0 with h0|h0
    ·exact .inl h0
    ·refine .inr ?_
     rw[ancStep,look_cons]
     split
     ·rename_i e
      rw[e,hz s (by simp) r]at h0
      simp at h0
     ·exact h0
theorem idsOk_spec:∀{l:List SOper},idsOk l=true→(∀s∈l,∀j∈s.pre,j<s.id)∧l.Pairwise (fun a b=>a.id≠b.id)
 | [],_=>⟨fun s hs=>by simp at hs,.nil⟩
 | o::l,h=>by
  simp only[idsOk,Bool.and_eq_true,List.all_eq_true,decide_eq_true_eq,bne_iff_ne,ne_eq]at h
  obtain⟨⟨h1,h2⟩,h3⟩:=h
  obtain⟨i1,i2⟩:=idsOk_spec h3
  refine⟨fun s hs=>?_,List.pairwise_cons.2 ⟨fun p hp e=>h2 p hp e.symm,i2⟩⟩
  rcases List.mem_cons.1 hs with rfl|hs
  ·exact h1
  ·exact i1 s hs
theorem id_inj{l:List SOper}(hp:l.Pairwise (fun a b=>a.id≠b.id)){s t:SOper}(hs:s∈l)(ht:t∈l)(e:s.id=t.id):s=t:=by
 induction hp with
 | nil=>simp at hs
 | cons h1 _ ih=>
  rcases List.mem_cons.1 hs with h3|h3<;>rcases List.mem_cons.1 ht with h4|h4
  ·rw[h3,h4]
  ·subst h3;exact absurd e (h1 t h4)
  ·subst h4;exact absurd e.symm (h1 s h3)
  ·exact ih h3 h4
theorem anc_spec{l:List SOper}(hk:idsOk l=true){i r:Nat}(h:ahead (ancs (byId l)) i r=true):∃s∈l,s.id=i∧∃j∈s.pre,r=j∨ahead (ancs (byId l)) j r=true:=by
 obtain⟨h1,h2⟩:=idsOk_spec hk
 have hb:∀s∈byId l,s∈l:=by
  intro s hs
  simp only[byId,List.mem_filterMap]at hs
  obtain⟨i,_,hs⟩:=hs
  exact List.mem_of_find?_eq_some hs
 refine ancs_inv (M:=l) (byId l) [] (fun s hs=>⟨hb s hs,h1 s (hb s hs)⟩) ?_ (by simp[look]) (by simp[look]) i r h
 unfold byId
 rw[List.pairwise_filterMap]
 refine List.Pairwise.imp_of_mem ?_ List.nodup_range
 intro a b _ _ hab s hs t ht e
 have e1:=List.find?_some hs
 have e2:=List.find?_some ht
 simp only[beq_iff_eq]at e1 e2
 exact hab (by rw[←e1,←e2,e])
theorem down{l:List SOper}(hk:idsOk l=true){D:Nat→Prop}(hD:∀s∈l,D s.id→∀j∈s.pre,D j):∀(n:Nat) (i r:Nat),i≤n→D i→ahead (ancs (byId l)) i r=true→D r:=by
 intro n
 induction n with
 | zero=>
  intro i r hi hd h
  obtain⟨s,hs,rfl,j,hj,h0⟩:=anc_spec hk h
  have:=(idsOk_spec hk).1 s hs j hj
  omega
 | succ n ih=>
  intro i r hi hd h
  obtain⟨s,hs,rfl,j,hj,h0⟩:=anc_spec hk h
  have hlt:=(idsOk_spec hk).1 s hs j hj
  have hdj:=hD s hs hd j hj
  rcases h0 with rfl|h0
  ·exact hdj
  ·exact ih j r (by omega) hdj h0
theorem upd_get(F:Fr)(q:T1)(t:Nat):(upd F q).get t=if q.s.dst=some t then q.val else F.get t:=by
 unfold upd
 cases hv:q.val with
 | none=>
  cases hd:q.s.dst with
  | none=>simp[Fr.unput]
  | some d=>
   simp only[Fr.unput,Fr.get_del,Option.some.injEq]
   by_cases e:t=d
   ·subst e;simp
   ·rw[if_neg e,if_neg (fun h=>e h.symm)]
 | some v=>
  cases hd:q.s.dst with
  | none=>simp[Fr.put]
  | some d=>
   simp only[Fr.put,Fr.get_set,Option.some.injEq]
   by_cases e:t=d
   ·subst e;simp
   ·rw[if_neg e,if_neg (fun h=>e h.symm)]
theorem fin_filter(t:Nat):∀(l:List T1) (F G:Fr),F.get t=G.get t→(fin F l).get t=(fin G (l.filter fun q=>q.s.dst == some t)).get t
 | [],F,G,h=>h
 | q::l,F,G,h=>by
  simp only[fin,List.foldl_cons]
  by_cases e:q.s.dst=some t
  ·rw[List.filter_cons_of_pos (by simpa using e)]
   simp only[List.foldl_cons]
   exact fin_filter t l _ _ (by rw[upd_get,upd_get,if_pos e,if_pos e])
  ·rw[List.filter_cons_of_neg (by simpa using e)]
   exact fin_filter t l _ _ (by rw[upd_get,if_neg e,h])
theorem fin_eq{t:Nat}{F:Fr}{l m:List T1}(h:(l.filter fun q=>q.s.dst == some t)=m.filter fun q=>q.s.dst == some t):(fin F l).get t=(fin F m).get t:=by
 rw[fin_filter t l F F rfl,fin_filter t m F F rfl,h]
theorem fin_append(F:Fr)(l m:List T1):fin F (l++m)=fin (fin F l) m:=by simp[fin]
theorem filter_eq_of{α:Type}{p q:α→Bool}{l:List α}(h:∀x∈l,p x=q x):l.filter p=l.filter q:=List.filter_congr h
theorem prefix_of{α:Type}{D:α→Bool}:∀{l:List α},(∀A x B,l=A++x::B→D x=true→∀y∈A,D y=true)→l.filter D=l.take (l.filter D).length
 | [],_=>rfl
 | x::l,h=>by
  by_cases hx:D x=true
  ·rw[List.filter_cons_of_pos hx]
   simp only[List.length_cons,List.take_succ_cons,List.cons.injEq,true_and]
   refine prefix_of fun A y B e hy z hz=>h (x::A) y B (by rw[e];rfl) hy z (by simp[hz])
  ·rw[List.filter_cons_of_neg hx]
   have:l.filter D=[]:=by
    rw[List.filter_eq_nil_iff]
    intro y hy hD
    obtain⟨A,B,rfl⟩:=List.append_of_mem hy
    exact hx (h (x::A) y B rfl hD x (by simp))
   rw[this]
   rfl
end Go.Jq
namespace Go.Jq
open Go.RowKit
structure Reg(C:Ctx)(N:Nat)(os:Array Oper)(L B:List SOper)(F F1:Fr)(h hK:AH)(Y:List AH)(rs:List Rec)(fl:List (Nat×Nat×ABlk))(T:List T1)(ss:List St):Prop where
 d:DT C N os L F h [] [] [] T F1 hK Y rs fl
 dc:dcheck L B=true
 pl:placesOk os.size (L++B)=true
 comp:∀s∈L++B,∃o,os[s.id]?=some o∧Comp C N os o s∧s.pre=(o.after.toList.filter (Region.binds .any)).map (·.on)
 sts:stsOf F1 B=some ss
 ok:stsOk hK ss
 cross:crossOk rs fl B ss
theorem pairsOk_spec{A:List (Nat×Nat)}:∀{l:List SOper},pairsOk A l=true→∀X o Z,l=X++o::Z→∀p∈Z,pairOk A o p=true
 | [],_,X,o,Z,e=>by cases X<;>simp at e
 | a::l,h,X,o,Z,e=>by
  simp only[pairsOk,Bool.and_eq_true,List.all_eq_true]at h
  cases X with
  | nil=>simp only[List.nil_append,List.cons.injEq]at e;obtain⟨rfl,rfl⟩:=e;exact h.1
  | cons x X=>simp only[List.cons_append,List.cons.injEq]at e;exact pairsOk_spec h.2 X o Z e.2
theorem stsOf_zip{F:Fr}:∀{B:List SOper} {ss:List St},stsOf F B=some ss→ss.length=B.length∧∀x∈B.zip ss,stOf x.1 F=some x.2
 | [],ss,h=>by simp[stsOf]at h;subst h;simp
 | o::B,ss,h=>by
  simp only[stsOf]at h
  split at h
  ·rename_i s r h1 h2
   simp only[Option.some.injEq]at h;subst h
   obtain⟨i1,i2⟩:=stsOf_zip h2
   refine⟨by simp[i1],fun x hx=>?_⟩
   simp only[List.zip_cons_cons,List.mem_cons]at hx
   rcases hx with rfl|hx
   ·exact h1
   ·exact i2 x hx
  ·simp at h
theorem stsOk_spec{h:AH}:∀{ss:List St},stsOk h ss→(∀s∈ss,s.fits h)∧ss.Pairwise fun s t=>s.apart t∨s=t
 | [],_=>⟨by simp,.nil⟩
 | s::ss,hk=>by
  obtain⟨h1,h2,h3⟩:=hk
  obtain⟨i1,i2⟩:=stsOk_spec h3
  exact⟨by intro t ht;rcases List.mem_cons.1 ht with rfl|ht;exact h1;exact i1 t ht,List.pairwise_cons.2 ⟨h2,i2⟩⟩
theorem crossOk_spec{rs:List Rec}{fl:List (Nat×Nat×ABlk)}:∀{B:List SOper} {ss:List St},crossOk rs fl B ss→∀x∈B.zip ss,(∀r∈rs,x.1.dep.contains r.id=true∨r.apart x.2)∧∀y∈fl,x.1.dep.contains y.1=true∨x.2.b≠y.2.1
 | [],_,_,x,hx=>by simp at hx
 | _::_,[],_,x,hx=>by simp at hx
 | o::B,s::ss,h,x,hx=>by
  obtain⟨h1,h2,h3⟩:=h
  simp only[List.zip_cons_cons,List.mem_cons]at hx
  rcases hx with rfl|hx
  ·exact⟨h1,h2⟩
  ·exact crossOk_spec h3 x hx
section
variable {C:Ctx} {N:Nat} {os:Array Oper} {L B:List SOper} {F F1:Fr} {h hK:AH} {Y:List AH} {rs:List Rec} {fl:List (Nat×Nat×ABlk)} {T:List T1} {ss:List St}
def kOf(T:List T1)(D:Nat→Bool):Nat:=((T.filter (·.mv)).filter fun t=>D t.s.id).length
structure RS(C:Ctx)(N:Nat)(L B:List SOper)(F:Fr)(h:AH)(Y:List AH)(T:List T1)(ss:List St)(γ0:Gm)(D:Nat→Bool)(a:Act)(w:World)(γ:Gm)(y:AH)(Z:List (SOper×St)):Prop where
 dn:∀s∈L++B,D s.id=true→∀j∈s.pre,D j=true
 yk:Y[kOf T D]?=some y
 gx:GX h γ0 γ y
 hr:HR C γ ((Z.map (·.2)).foldl St.put y) w
 fr:FR C γ N (fin F (T.filter fun t=>D t.s.id)) a
 un:∀t∈T,∀b blk,t.fl=some (b,blk)→D t.s.id=false→γ b=none
 pm:Z.Perm ((B.zip ss).filter fun x=>D x.1.id)
def more(D:Nat→Bool)(i:Nat):Nat→Bool:=fun j=>j == i||D j
theorem slots_clash{o p:SOper}{t:Nat}(h1:o.dst=some t)(h2:t∈p.slots):clash o p=true:=by
 unfold clash
 simp[h1,h2]
theorem slots_clash'{o p:SOper}{t:Nat}(h1:p.dst=some t)(h2:t∈o.slots):clash o p=true:=by
 unfold clash
 simp[h1,h2]
theorem Reg.step(R:Reg C N os L B F F1 h hK Y rs fl T ss){γ0:Gm}{D:Nat→Bool}{a:Act}{w:World}{γ:Gm}{y:AH}{Z:List (SOper×St)}(S:RS C N L B F h Y T ss γ0 D a w γ y Z)
  {s:SOper}(hs:s∈L++B)(hnew:D s.id=false)(hpre:∀j∈s.pre,D j=true){o:Oper}(hc:Comp C N os o s){K:Act→World→Prop}{Q:Exit→Act→World→Prop}
  (k:∀a' w' γ' y' Z',RS C N L B F h Y T ss γ0 (more D s.id) a' w' γ' y' Z'→K a' w'):if Region.wanted o (yielded os a.tmps)=true then o.wp C.P a w K Q else K (a.put o.dst undef) w:=by
 have hdc:=R.dc
 simp only[dcheck,Bool.and_eq_true,List.all_eq_true]at hdc
 obtain⟨⟨⟨hids,hpairs⟩,hbat⟩,hl⟩:=hdc
 obtain⟨hplt,hpw⟩:=idsOk_spec hids
 -- what is ahead of one that is done is done
 have hdown:∀i r,D i=true→ahead (ancs (byId (L++B))) i r=true→D r=true:=fun i r hi hr=>down hids (D:=fun i=>D i=true) S.dn i i r (Nat.le_refl i) hi hr
 -- what is ahead of the new one is done
 have hdn':∀u∈L++B,more D s.id u.id=true→∀j∈u.pre,more D s.id j=true:=by
  intro u hu hD j hj
  simp only[more,Bool.or_eq_true,beq_iff_eq]at hD ⊢
  rcases hD with hD|hD
  ·have:=id_inj hpw hu hs hD
   subst this
   exact .inr (hpre j hj)
  ·exact .inr (S.dn u hu hD j hj)
 have hnewD:∀r,ahead (ancs (byId (L++B))) s.id r=true→D r=true:=by
  intro r hr
  have:=down hids (D:=fun i=>more D s.id i=true) hdn' s.id s.id r (Nat.le_refl _) (by simp[more]) hr
  simp only[more,Bool.or_eq_true,beq_iff_eq]at this
  rcases this with e|e
  ·subst e
   obtain⟨u,hu,e1,j,hj,h0⟩:=anc_spec hids hr
   have hus:=id_inj hpw hu hs e1
   subst hus
   have hj1:=hpre j hj
   rcases h0 with h0|h0
   ·rw[h0];exact hj1
   ·exact hdown j _ hj1 h0
  ·exact e
 have hmap:=R.d.map
 -- batch
 obtain⟨zlen,zst⟩:=stsOf_zip R.sts
 obtain⟨okf,okp⟩:=stsOk_spec R.ok
 have hzB:∀x∈B.zip ss,x.1∈B:=fun x hx=>(List.of_mem_zip hx).1
 have hdone:∀x∈Z,x∈B.zip ss∧D x.1.id=true:=by
  intro x hx
  have:=S.pm.mem_iff.1 hx
  simpa using this
 -- the moves in T and the places
 have hTL:∀t∈T,t.s∈L:=fun t ht=>by rw[←hmap];exact List.mem_map.2 ⟨t,ht,rfl⟩
 have hsplit:∀A t X,T=A++t::X→∀u∈X,pairOk (ancs (byId (L++B))) t.s u.s=true:=by
  intro A t X e u hu
  refine pairsOk_spec hpairs (A.map (·.s)) t.s (X.map (·.s)) ?_ u.s (List.mem_map.2 ⟨u,hu,rfl⟩)
  rw[←hmap,e];simp
 have hpo:∀{p q:SOper},pairOk (ancs (byId (L++B))) p q=true→ahead (ancs (byId (L++B))) q.id p.id=true∨(clash p q=false∧(p.moves=true→q.moves=false∧q.op.float=false)):=by
  intro p q hpq
  simp only[pairOk,Bool.or_eq_true,Bool.and_eq_true,Bool.not_eq_true',Bool.and_eq_false_iff]at hpq
  rcases hpq with hpq|⟨⟨h1,h2⟩,h3⟩
  ·exact .inl hpq
  ·refine .inr ⟨h1,fun hm=>?_⟩
   constructor
   ·rcases h2 with h2|h2
    ·rw[hm]at h2;simp at h2
    ·exact h2
   ·rcases h3 with h3|h3
    ·rw[hm]at h3;simp at h3
    ·exact h3
 have hlid:∀t∈T,∀u∈T,t.s.id=u.s.id→t.s=u.s:=fun t ht u hu e=>id_inj hpw (by simp[hTL t ht]) (by simp[hTL u hu]) e
 -- the moves that are done are the first ones
 have hpref:((T.filter (·.mv)).filter fun t=>D t.s.id)=(T.filter (·.mv)).take (kOf T D):=by
  refine prefix_of fun A x X e hx z hz=>?_
  have hxT:x∈T.filter (·.mv):=by rw[e];simp
  have hzT:z∈T.filter (·.mv):=by rw[e];simp[hz]
  -- z ahead of x in T
  obtain⟨A1,A2,rfl⟩:=List.append_of_mem hz
  have hsub:∃P Q W,T=P++z::(Q++x::W):=by
   have hsl:List.Sublist ([z,x]) T:=by
    have h1:List.Sublist [z,x] (T.filter (·.mv)):=by
     rw[e]
     simp only[List.append_assoc,List.cons_append]
     exact(List.nil_sublist A1).append ((List.Sublist.cons_cons z ((List.nil_sublist A2).append (List.Sublist.cons_cons x (List.nil_sublist X)))))
    exact h1.trans List.filter_sublist
   rw[List.cons_sublist_iff]at hsl
   obtain⟨r1,r2,e1,e2,e3⟩:=hsl
   obtain⟨P,Q,rfl⟩:=List.append_of_mem e2
   obtain⟨Q2,W,rfl⟩:=List.append_of_mem (List.singleton_sublist.1 e3)
   exact⟨P,Q++Q2,W,by rw[e1];simp⟩
  obtain⟨P,Q,W,eT⟩:=hsub
  have:=hsplit P z (Q++x::W) eT x (by simp)
  simp only[List.mem_filter]at hxT hzT
  rcases hpo this with h1|⟨_,h2⟩
  ·exact hdown _ _ hx h1
  ·have:=(h2 hzT.2).1
   rw[show x.s.moves=x.mv from rfl,hxT.2]at this
   simp at this
 rcases List.mem_append.1 hs with hsL|hsB
 ·-- one of the course
  rw[←hmap]at hsL
  obtain⟨t,ht,rfl⟩:=List.mem_map.1 hsL
  obtain⟨T1',T2,eT⟩:=List.append_of_mem ht
  have hfrm:=R.d.frame T1' t T2 eT
  have hcnt:=R.d.count T1' t T2 eT
  simp only[List.length_nil,Nat.zero_add]at hcnt
  have hbefore:∀q∈T1',pairOk (ancs (byId (L++B))) q.s t.s=true:=by
   intro q hq
   obtain⟨P,Q,rfl⟩:=List.append_of_mem hq
   exact hsplit P q (Q++t::T2) (by rw[eT];simp) t (by simp)
  have hafter:∀q∈T2,pairOk (ancs (byId (L++B))) t.s q.s=true:=fun q hq=>hsplit T1' t T2 eT q hq
  have hnT1:∀q∈T1',q.s.id≠t.s.id:=by
   intro q hq e
   have hL2:L=T1'.map (·.s)++t.s::T2.map (·.s):=by rw[←hmap,eT];simp
   have hpL:L.Pairwise (fun a b=>a.id≠b.id):=(List.pairwise_append.1 hpw).1
   rw[hL2,List.pairwise_append]at hpL
   exact hpL.2.2 q.s (List.mem_map.2 ⟨q,hq,rfl⟩) t.s (by simp) e
  have hnT2:∀q∈T2,q.s.id≠t.s.id:=by
   intro q hq e
   have hL2:L=T1'.map (·.s)++t.s::T2.map (·.s):=by rw[←hmap,eT];simp
   have hpL:L.Pairwise (fun a b=>a.id≠b.id):=(List.pairwise_append.1 hpw).1
   rw[hL2,List.pairwise_append,List.pairwise_cons]at hpL
   exact hpL.2.1.1 q.s (List.mem_map.2 ⟨q,hq,rfl⟩) e.symm
  have hnB:∀p∈B,p.id≠t.s.id:=by
   intro p hp e
   exact(List.pairwise_append.1 hpw).2.2 t.s (hTL t ht) p hp e.symm
  -- its frame
  have hF:FR C γ N (t.F.keep t.s.uses) a:=by
   refine⟨S.fr.size,S.fr.defers,fun x v hv=>?_⟩
   rw[Fr.get_keep]at hv
   split at hv
   ·rename_i hux
    have hux:x∈t.s.slots:=by simp only[SOper.slots,List.mem_append];exact .inl (by simpa using hux)
    refine S.fr.get x v ?_
    rw[hfrm]at hv
    rw[←hv]
    refine fin_eq ?_
    rw[eT,List.filter_append,List.filter_cons_of_neg (by simpa using hnew),List.filter_append]
    have e1:(T1'.filter fun t=>D t.s.id).filter (fun q=>q.s.dst == some x)=T1'.filter fun q=>q.s.dst == some x:=by
     rw[List.filter_filter]
     refine filter_eq_of fun q hq=>?_
     cases hd:(q.s.dst == some x)with
     | false=>simp
     | true=>
      simp only[Bool.true_and]
      have hcl:=slots_clash (p:=t.s) (by simpa using hd) hux
      rcases hpo (hbefore q hq)with h1|⟨h1,_⟩
      ·exact hnewD _ h1
      ·rw[hcl]at h1;simp at h1
    have e2:(T2.filter fun t=>D t.s.id).filter (fun q=>q.s.dst == some x)=[]:=by
     rw[List.filter_filter,List.filter_eq_nil_iff]
     intro q hq hh
     simp only[Bool.and_eq_true,beq_iff_eq]at hh
     have hcl:=slots_clash' (o:=t.s) (p:=q.s) hh.1 hux
     rcases hpo (hafter q hq)with h1|⟨h1,_⟩
     ·have:=hdown _ _ hh.2 h1
      rw[hnew]at this;simp at this
     ·rw[hcl]at h1;simp at h1
    rw[e1,e2,List.append_nil]
   ·simp at hv
  -- the frame behind it
  have hF':∀{γ':Gm} {v':Value},Sub γ γ'→(∀v,t.val=some v→VR C γ' v v')→FR C γ' N (fin F (T.filter fun q=>more D t.s.id q.s.id)) (a.put o.dst v'):=by
   intro γ' v' hsub hv
   have hbase:FR C γ' N (upd (fin F (T.filter fun q=>D q.s.id)) t) (a.put o.dst v'):=by
    unfold upd
    rw[←hc.1]
    cases hval:t.val with
    | none=>exact(S.fr.mono hsub).unput _ _
    | some v=>exact(S.fr.mono hsub).put (by rw[hc.1];exact hc.2.1) (hv v hval)
   refine⟨hbase.size,hbase.defers,fun x v hx=>hbase.get x v ?_⟩
   rw[←hx,upd_get]
   have e3:(T.filter fun q=>more D t.s.id q.s.id)=(T1'.filter fun q=>D q.s.id)++t::(T2.filter fun q=>D q.s.id):=by
    rw[eT,List.filter_append,List.filter_cons_of_pos (by simp[more])]
    congr 1
    ·exact filter_eq_of fun q hq=>by simp[more,hnT1 q hq]
    ·congr 1
     exact filter_eq_of fun q hq=>by simp[more,hnT2 q hq]
   have e4:(T.filter fun q=>D q.s.id)=(T1'.filter fun q=>D q.s.id)++(T2.filter fun q=>D q.s.id):=by
    rw[eT,List.filter_append,List.filter_cons_of_neg (by simpa using hnew)]
   rw[e3,e4]
   split
   ·rename_i hdx
    rw[fin_append]
    have:(fin (fin F (T1'.filter fun q=>D q.s.id)) (t::T2.filter fun q=>D q.s.id)).get x=(fin (upd (fin F (T1'.filter fun q=>D q.s.id)) t) []).get x:=by
     show(fin (upd (fin F (T1'.filter fun q=>D q.s.id)) t) (T2.filter fun q=>D q.s.id)).get x=_
     refine fin_eq ?_
     rw[List.filter_filter]
     simp only[List.filter_nil]
     rw[List.filter_eq_nil_iff]
     intro q hq hh
     simp only[Bool.and_eq_true,beq_iff_eq]at hh
     have hcl:=slots_clash' (o:=t.s) (p:=q.s) hh.1 (by simp[SOper.slots,hdx])
     rcases hpo (hafter q hq)with h1|⟨h1,_⟩
     ·have:=hdown _ _ hh.2 h1
      rw[hnew]at this;simp at this
     ·rw[hcl]at h1;simp at h1
    rw[this]
    show _=(upd _ t).get x
    rw[upd_get,if_pos hdx]
   ·rename_i hdx
    refine fin_eq ?_
    rw[List.filter_append,List.filter_append,List.filter_cons_of_neg (by simpa using hdx)]
  -- the batch stays
  have hpm':Z.Perm ((B.zip ss).filter fun x=>more D t.s.id x.1.id):=by
   have:((B.zip ss).filter fun x=>more D t.s.id x.1.id)=(B.zip ss).filter fun x=>D x.1.id:=
    filter_eq_of fun x hx=>by simp[more,hnB x.1 (hzB x hx)]
   rw[this];exact S.pm
  -- how many moves
  have hk1:t.mv=false→kOf T (more D t.s.id)=kOf T D:=by
   intro hm
   unfold kOf
   congr 1
   refine filter_eq_of fun q hq=>?_
   simp only[List.mem_filter]at hq
   have:q.s.id≠t.s.id:=by
    intro e
    have:=hlid q hq.1 t ht e
    have h2:t.s.moves=true:=by rw[←this];exact hq.2
    rw[show t.mv=t.s.moves from rfl,h2]at hm
    simp at hm
   simp[more,this]
  have hcn:∀(l:List St) (hh:AH),(l.foldl St.put hh).next=hh.next:=foldl_put_next
  -- one that turns nothing
  have still:∀(val:Option Value),t.val=val→t.mv=false→(∀u∈T,∀b blk,u.fl=some (b,blk)→u.s.id≠t.s.id→True)→Ex C N os t.s t.F val ((Z.map (·.2)).foldl St.put y) ((Z.map (·.2)).foldl St.put y)→
    (if Region.wanted o (yielded os a.tmps)=true then o.wp C.P a w K Q else K (a.put o.dst undef) w):=by
   intro val hval hm _ hex
   refine hex o hc γ w a K Q S.hr hF fun γ' w' v' hgx hhr hv=>?_
   refine k _ _ γ' y Z ⟨hdn',by rw[hk1 hm];exact S.yk,?_,hhr,hF' hgx.1 (by rw[hval];exact hv),?_,hpm'⟩
   ·refine S.gx.trans ⟨hgx.1,fun b hb=>hgx.2.1 b (by rw[hcn];exact hb),Nat.le_refl _⟩
   ·intro u hu b blk hb hD
    simp only[more,Bool.or_eq_false_iff]at hD
    have hub:=S.un u hu b blk hb hD.2
    by_cases hlt:b<y.next
    ·rw[hgx.2.1 b (by rw[hcn];exact hlt)];exact hub
    ·exact hhr.dom b (by rw[hcn];omega)
  cases hmv:t.mv with
  | true=>
   obtain⟨y0,h',z,e1,hex,e2,hg,hfl,hrd,hnx⟩:=R.d.mvs t ht hmv
   simp only[List.reverse_nil,List.nil_append]at e1 e2
   have hnoB:∀x∈B.zip ss,D x.1.id=false:=by
    intro x hx
    cases hD:D x.1.id with
    | false=>rfl
    | true=>
     have hb:=(hbat x.1 (hzB x hx)).2 t.s (hTL t ht)
     simp only[Bool.or_eq_true,Bool.and_eq_true,Bool.not_eq_true']at hb
     rcases hb with hb|hb
     ·have:=hdown _ _ hD hb
      rw[hnew]at this;simp at this
     ·have h2:=hb.2
      rw[show t.s.moves=t.mv from rfl,hmv]at h2;simp at h2
   have hZ:Z=[]:=by
    have:((B.zip ss).filter fun x=>D x.1.id)=[]:=by
     rw[List.filter_eq_nil_iff]
     intro x hx;rw[hnoB x hx];simp
    have hp:=S.pm
    rw[this]at hp
    exact hp.eq_nil
   have hbT1:∀q∈T1',q.mv=true→D q.s.id=true:=by
    intro q hq hm
    rcases hpo (hbefore q hq)with h1|⟨_,h2⟩
    ·exact hnewD _ h1
    ·have:=(h2 hm).1
     rw[show t.s.moves=t.mv from rfl,hmv]at this;simp at this
   have hbT2:∀q∈T2,q.mv=true→D q.s.id=false:=by
    intro q hq hm
    cases hD:D q.s.id with
    | false=>rfl
    | true=>
     rcases hpo (hafter q hq)with h1|⟨_,h2⟩
     ·have:=hdown _ _ hD h1
      rw[hnew]at this;simp at this
     ·have:=(h2 hmv).1
      rw[show q.s.moves=q.mv from rfl,hm]at this;simp at this
   have hkD:kOf T D=t.k:=by
    unfold kOf
    rw[hcnt,eT,List.filter_append,List.filter_cons_of_pos hmv,List.filter_append,List.filter_cons_of_neg (by simpa using hnew)]
    have a1:(T1'.filter (·.mv)).filter (fun t=>D t.s.id)=T1'.filter (·.mv):=by
     rw[List.filter_eq_self]
     intro q hq
     simp only[List.mem_filter]at hq
     exact hbT1 q hq.1 hq.2
    have a2:(T2.filter (·.mv)).filter (fun t=>D t.s.id)=[]:=by
     rw[List.filter_eq_nil_iff]
     intro q hq
     simp only[List.mem_filter]at hq
     rw[hbT2 q hq.1 hq.2];simp
    rw[a1,a2,List.append_nil]
   have hkD':kOf T (more D t.s.id)=t.k+1:=by
    unfold kOf
    rw[hcnt,eT,List.filter_append,List.filter_cons_of_pos hmv,List.filter_append,List.filter_cons_of_pos (by simp[more])]
    have a1:(T1'.filter (·.mv)).filter (fun q=>more D t.s.id q.s.id)=T1'.filter (·.mv):=by
     rw[List.filter_eq_self]
     intro q hq
     simp only[List.mem_filter]at hq
     simp[more,hbT1 q hq.1 hq.2]
    have a2:(T2.filter (·.mv)).filter (fun q=>more D t.s.id q.s.id)=[]:=by
     rw[List.filter_eq_nil_iff]
     intro q hq
     simp only[List.mem_filter]at hq
     simp[more,hbT2 q hq.1 hq.2,hnT2 q hq.1]
    rw[a1,a2]
    simp
   have hy0:y0=y:=by
    have:=S.yk
    rw[hkD,e1]at this
    exact Option.some.inj this
   subst hy0
   have hr0:HR C γ y0 w:=by have:=S.hr;rw[hZ]at this;exact this
   refine hex o hc γ w a K Q hr0 hF fun γ' w' v' hgx hhr hv=>?_
   have gg:=hg.get
   refine k _ _ γ' z Z ⟨hdn',by rw[hkD'];exact e2,?_,by rw[hZ];exact hg.hr hhr,hF' hgx.1 hv,?_,hpm'⟩
   ·have:=S.gx.trans hgx
    exact⟨this.1,this.2.1,Nat.le_trans this.2.2 gg.1⟩
   ·intro u hu b blk hb hD
    simp only[more,Bool.or_eq_false_iff]at hD
    have hub:=S.un u hu b blk hb hD.2
    by_cases hlt:b<y0.next
    ·rw[hgx.2.1 b hlt];exact hub
    ·obtain⟨_,_,_,_,_,_,g6,_⟩:=R.d.floats u hu b blk hb
     by_cases huk:u.k≤t.k
     ·have:=g6 t.k y0 huk (by simpa using e1)
      omega
     ·exact hhr.dom b (hnx u hu b blk hb (by omega))
  | false=>
   cases hrd:t.rd with
   | some r=>
    obtain⟨r1,r2,r3,r4,r5,r6,r7,r8⟩:=R.d.reads t ht r hrd
    have hb1:=(hl t.s (hTL t ht)).1
    have hflt:t.s.op.float=false:=by
     cases hop:t.s.op<;>rw[hop]at r5<;>first|rfl|simp[SOp.still,SOp.quiet]at r5
    have hmo:t.s.moves=false:=hmv
    rw[hmo,r6,hflt]at hb1
    simp only[Bool.false_or,Bool.and_eq_true,decide_eq_true_eq]at hb1
    have lenle:∀{p q:T1→Bool} (l:List T1),(∀x∈l,p x=true→q x=true)→(l.filter p).length≤(l.filter q).length:=by
     intro p q l
     induction l with
     | nil=>intro _;simp
     | cons x l ih=>
      intro hh
      have:=ih fun x hx=>hh x (by simp[hx])
      by_cases hp:p x=true
      ·rw[List.filter_cons_of_pos hp,List.filter_cons_of_pos (hh x (by simp) hp)];simpa using this
      ·rw[List.filter_cons_of_neg hp]
       by_cases hq:q x=true
       ·rw[List.filter_cons_of_pos hq];simp;omega
       ·rw[List.filter_cons_of_neg hq];exact this
    have hLT:∀p:SOper→Bool,(L.filter p).length=(T.filter fun x=>p x.s).length:=by
     intro p
     rw[←hmap,List.filter_map,List.length_map]
     rfl
    have hlo:t.s.lo≤kOf T D:=by
     refine Nat.le_trans hb1.1 ?_
     unfold loOf kOf
     rw[hLT,List.filter_filter]
     refine lenle T fun x hx hp=>?_
     simp only[Bool.and_eq_true]at hp ⊢
     exact⟨hnewD _ hp.2,hp.1⟩
    have hhi:kOf T D≤t.s.hi:=by
     refine Nat.le_trans ?_ hb1.2
     unfold hiOf kOf
     rw[hLT,List.filter_filter]
     refine lenle T fun x hx hp=>?_
     simp only[Bool.and_eq_true,Bool.not_eq_true']at hp ⊢
     refine⟨hp.2,?_⟩
     cases hah:ahead (ancs (byId (L++B))) x.s.id t.s.id with
     | false=>rfl
     | true=>
      have:=hdown _ _ hp.1 hah
      rw[hnew]at this;simp at this
    have hsame:r.same y:=r8 (kOf T D) y hlo hhi (by simpa using S.yk)
    have hmem:=R.d.all.2.2.1 t ht r hrd
    have hsame2:r.same ((Z.map (·.2)).foldl St.put y):=by
     have:∀(l:List (SOper×St)) (hh:AH),(∀x∈l,x∈B.zip ss∧D x.1.id=true)→r.same hh→r.same ((l.map (·.2)).foldl St.put hh):=by
      intro l
      induction l with
      | nil=>intro hh _ h;exact h
      | cons x l ih=>
       intro hh hx hsm
       refine ih _ (fun z hz=>hx z (by simp[hz])) ?_
       obtain⟨x1,x2⟩:=hx x (by simp)
       rcases(crossOk_spec R.cross x x1).1 r hmem with h1|h1
       ·have h2:=(hbat x.1 (hzB x x1)).1.2 r.id (by simpa using h1)
        have:=hdown _ _ x2 h2
        rw[r1,hnew]at this;simp at this
       ·exact Rec.same_put hsm h1
     exact this Z y hdone hsame
    refine still (some r.v) r4 hmv (fun _ _ _ _ _ _=>trivial) ?_
    refine ex_val r7 ?_
    unfold Rec.same at hsame2
    rw[r2,r3]at hsame2
    exact hsame2
   | none=>
    cases hfl:t.fl with
    | none=>exact still t.val rfl hmv (fun _ _ _ _ _ _=>trivial) (R.d.frees t ht hmv hfl hrd _)
    | some p=>
     obtain⟨b,blk⟩:=p
     obtain⟨v,f1,f2,f3,f4,f5,f6,f7,f8⟩:=R.d.floats t ht b blk hfl
     simp only[List.reverse_nil,List.nil_append]at f6 f7 f8
     have hflt:t.s.op.float=true:=R.d.fl_float t ht _ hfl
     have hbT1:∀q∈T1',q.mv=true→D q.s.id=true:=by
      intro q hq hm
      rcases hpo (hbefore q hq)with h1|⟨_,h2⟩
      ·exact hnewD _ h1
      ·have:=(h2 hm).2
       rw[hflt]at this;simp at this
     have hkge:t.k≤kOf T D:=by
      unfold kOf
      rw[hcnt,eT,List.filter_append,List.filter_append]
      have a1:(T1'.filter (·.mv)).filter (fun t=>D t.s.id)=T1'.filter (·.mv):=by
       rw[List.filter_eq_self]
       intro q hq
       simp only[List.mem_filter]at hq
       exact hbT1 q hq.1 hq.2
      rw[a1,List.length_append]
      omega
     have hlt:b<y.next:=f6 _ y hkge S.yk
     have hget:y.get b=blk:=by
      by_cases hke:kOf T D=t.k
      ·exact f7 y (by rw[←hke];exact S.yk)
      ·-- the last move that is done
       have hpos:kOf T D-1<(T.filter (·.mv)).length:=by
        have:kOf T D≤(T.filter (·.mv)).length:=List.length_filter_le _ _
        omega
       obtain⟨q,hq⟩:∃q,(T.filter (·.mv))[kOf T D-1]?=some q:=⟨_,List.getElem?_eq_getElem hpos⟩
       have hqm:=List.mem_of_getElem? hq
       have hqD:D q.s.id=true:=by
        have:q∈(T.filter (·.mv)).take (kOf T D):=by
         refine List.mem_of_getElem? (i:=kOf T D-1) ?_
         rw[List.getElem?_take,if_pos (by omega)]
         exact hq
        rw[←hpref]at this
        simp only[List.mem_filter]at this
        exact this.2
       simp only[List.mem_filter]at hqm
       have hqk:q.k=kOf T D-1:=by
        have:=R.d.kidx _ q hq
        simpa using this
       rcases f8 q hqm.1 hqm.2 (by omega)with h1|h1
       ·have h2:=(hl q.s (hTL q hqm.1)).2 t.s.id (by simpa using h1)
        have:=hdown _ _ hqD h2
        rw[hnew]at this;simp at this
       ·exact h1 y (by rw[hqk];rw[show kOf T D-1+1=kOf T D by omega];exact S.yk)
     have hget2:((Z.map (·.2)).foldl St.put y).get b=blk:=by
      rw[foldl_put_get _ _ (by
       intro x hx
       obtain⟨p,hp,rfl⟩:=List.mem_map.1 hx
       obtain⟨p1,p2⟩:=hdone p hp
       rcases(crossOk_spec R.cross p p1).2 _ (R.d.all.2.2.2 t ht b blk hfl)with h1|h1
       ·have h2:=(hbat p.1 (hzB p p1)).1.2 t.s.id (by simpa using h1)
        have:=hdown _ _ p2 h2
        rw[hnew]at this;simp at this
       ·exact h1)]
      exact hget
     have hub:=S.un t ht b blk hfl hnew
     refine f5 o hc γ _ w a K Q S.hr hub (by rw[hcn];exact hlt) hget2 hF fun x w' v' hhr hv=>?_
     have hsub:Sub γ (gset γ b x):=gset_sub hub
     refine k _ _ (gset γ b x) y Z ⟨hdn',by rw[hk1 hmv];exact S.yk,?_,hhr,hF' hsub (by rw[f1];intro u hu;simp only[Option.some.injEq]at hu;subst hu;exact hv),?_,hpm'⟩
     ·refine⟨S.gx.1.trans hsub,fun c hcb=>?_,S.gx.2.2⟩
      unfold gset
      rw[if_neg (by omega)]
      exact S.gx.2.1 c hcb
     ·intro u hu c clk huc hD
      simp only[more,Bool.or_eq_false_iff,beq_eq_false_iff_ne,ne_eq]at hD
      have huc':=S.un u hu c clk huc hD.2
      unfold gset
      rw[if_neg]
      ·exact huc'
      ·rw[eT]at hu
       rcases List.mem_append.1 hu with hu1|hu1
       ·obtain⟨P,W,eP⟩:=List.append_of_mem hu1
        have:=R.d.fdist P u (W++t::T2) (by rw[eT,eP];simp) c clk huc t (by simp) b blk hfl
        omega
       ·rcases List.mem_cons.1 hu1 with rfl|hu1
        ·exact absurd rfl hD.1
        ·have:=R.d.fdist T1' t T2 eT b blk hfl u hu1 c clk huc
         omega
 ·-- a store of the batch
  have hbs:=hbat s hsB
  simp only[Option.isNone_iff_eq_none]at hbs
  obtain⟨⟨⟨hdst,hgrd⟩,hdep⟩,hbl⟩:=hbs
  have hnT:∀t∈T,t.s.id≠s.id:=fun t ht e=>(List.pairwise_append.1 hpw).2.2 t.s (hTL t ht) s hsB e
  have hallm:∀t∈T,t.mv=true→D t.s.id=true:=by
   intro t ht hm
   have hb:=hbl t.s (hTL t ht)
   simp only[Bool.or_eq_true,Bool.and_eq_true,Bool.not_eq_true']at hb
   rcases hb with hb|hb
   ·exact hnewD _ hb
   ·have h2:=hb.2
    rw[show t.s.moves=t.mv from rfl,hm]at h2;simp at h2
  have hkD:kOf T D=(T.filter (·.mv)).length:=by
   unfold kOf
   congr 1
   rw[List.filter_eq_self]
   intro q hq
   simp only[List.mem_filter]at hq
   exact hallm q hq.1 hq.2
  have hkD':kOf T (more D s.id)=kOf T D:=by
   unfold kOf
   congr 1
   refine filter_eq_of fun q hq=>?_
   simp only[List.mem_filter]at hq
   simp[more,hallm q hq.1 hq.2]
  have hyK:y=hK:=by
   have h1:=S.yk
   rw[hkD,R.d.last]at h1
   exact(Option.some.inj h1).symm
  subst hyK
  obtain⟨i,hi⟩:=List.getElem?_of_mem hsB
  have hilt:=(List.getElem?_eq_some_iff.1 hi).1
  obtain⟨st,hst⟩:∃st,ss[i]?=some st:=⟨_,List.getElem?_eq_getElem (by omega)⟩
  have hmem:(s,st)∈B.zip ss:=by
   refine List.mem_of_getElem? (i:=i) ?_
   rw[List.getElem?_zip_eq_some]
   exact⟨hi,hst⟩
  have hstof:=zst _ hmem
  simp only at hstof
  have hfit:st.fits ((Z.map (·.2)).foldl St.put y):=by
   have:∀(l:List St) (hh:AH),st.fits hh→st.fits (l.foldl St.put hh):=by
    intro l
    induction l with
    | nil=>exact fun _ h=>h
    | cons x l ih=>exact fun hh h=>ih _ (St.fits_put h)
   exact this _ _ (okf st (List.mem_of_getElem? hst))
  have hsop:sop s.op (F1.keep s.uses).val ((Z.map (·.2)).foldl St.put y)=some (.skip (St.put ((Z.map (·.2)).foldl St.put y) st)):=by
   have hstore:=St.store_of_fits hfit
   unfold stOf at hstof
   split at hstof
   ·rename_i ax x hop
    rw[hop]
    split at hstof
    ·rename_i b off v e1 e2
     split at hstof
     ·rename_i u hu
      simp only[Option.some.injEq]at hstof
      subst hstof
      simp only[sop,e1,e2,hu]
      have h1:((Z.map (·.2)).foldl St.put y).store1 b off u=((Z.map (·.2)).foldl St.put y).store b off [u]:=by
       unfold AH.store1 AH.store
       split
       ·rename_i c g hc
        simp only[List.length_cons,List.length_nil]
        by_cases hlt:off<c.length
        ·rw[if_pos hlt,if_pos (by omega),splice_set hlt]
        ·rw[if_neg hlt,if_neg (by omega)]
       ·rfl
      rw[h1,hstore]
     ·simp at hstof
    ·simp at hstof
   ·rename_i n ax x hop
    rw[hop]
    split at hstof
    ·rename_i b off v e1 e2
     split at hstof
     ·rename_i cs hu
      split at hstof
      ·rename_i hlen
       simp only[Option.some.injEq]at hstof
       subst hstof
       simp only[sop,e1,e2,hu,hlen,if_true]
       rw[hstore]
      ·simp at hstof
     ·simp at hstof
    ·simp at hstof
   ·simp at hstof
  have hF:FR C γ N (F1.keep s.uses) a:=by
   refine⟨S.fr.size,S.fr.defers,fun x v hv=>?_⟩
   rw[Fr.get_keep]at hv
   split at hv
   ·rename_i hux
    have hux:x∈s.slots:=by simp only[SOper.slots,List.mem_append];exact .inl (by simpa using hux)
    refine S.fr.get x v ?_
    rw[←hv,←R.d.fin]
    refine fin_eq ?_
    rw[List.filter_filter]
    refine filter_eq_of fun q hq=>?_
    cases hd:(q.s.dst == some x)with
    | false=>simp
    | true=>
     simp only[Bool.true_and]
     have hcl:=slots_clash (p:=s) (by simpa using hd) hux
     have hb:=hbl q.s (hTL q hq)
     simp only[Bool.or_eq_true,Bool.and_eq_true,Bool.not_eq_true']at hb
     rcases hb with hb|hb
     ·exact hnewD _ hb
     ·rw[hcl]at hb;simp at hb
   ·simp at hv
  have hcn:∀(l:List St) (hh:AH),(l.foldl St.put hh).next=hh.next:=foldl_put_next
  have hodst:o.dst=none:=by rw[←hc.1];exact hdst
  refine ex_skip (F:=F1) (by rw[hgrd];rfl) hsop o hc γ w a K Q S.hr hF fun γ' w' v' hgx hhr hv=>?_
  have hZ':((Z++[(s,st)]).map (·.2)).foldl St.put y=St.put ((Z.map (·.2)).foldl St.put y) st:=by simp
  refine k _ _ γ' y (Z++[(s,st)]) ⟨hdn',by rw[hkD'];exact S.yk,?_,by rw[hZ'];exact hhr,?_,?_,?_⟩
  ·exact S.gx.trans ⟨hgx.1,fun b hb=>hgx.2.1 b (by rw[hcn];exact hb),Nat.le_refl _⟩
  ·rw[hodst]
   have:(T.filter fun q=>more D s.id q.s.id)=T.filter fun q=>D q.s.id:=filter_eq_of fun q hq=>by simp[more,hnT q hq]
   rw[this]
   exact S.fr.mono hgx.1
  ·intro u hu b blk hb hD
   simp only[more,Bool.or_eq_false_iff]at hD
   have hub:=S.un u hu b blk hb hD.2
   by_cases hlt:b<y.next
   ·rw[hgx.2.1 b (by rw[hcn];exact hlt)];exact hub
   ·exact hhr.dom b (by rw[St.put_next,hcn];omega)
  ·-- one more of the batch
   obtain⟨P,W,eZ⟩:=List.append_of_mem hmem
   have hone:∀x∈P++W,x.1.id≠s.id:=by
    intro x hx e
    have hnd:(B.zip ss).Pairwise (fun a b=>a.1.id≠b.1.id):=by
     have h1:((B.zip ss).map (·.1)).Pairwise (fun a b=>a.id≠b.id):=by
      rw[List.map_fst_zip (by omega)]
      exact(List.pairwise_append.1 hpw).2.1
     rw[List.pairwise_map]at h1
     exact h1
    rw[eZ,List.pairwise_append,List.pairwise_cons]at hnd
    rcases List.mem_append.1 hx with hx|hx
    ·exact hnd.2.2 x hx (s,st) (by simp) e
    ·exact hnd.2.1.1 x hx e.symm
   have e1:((B.zip ss).filter fun x=>more D s.id x.1.id)=(P.filter fun x=>D x.1.id)++(s,st)::(W.filter fun x=>D x.1.id):=by
    rw[eZ,List.filter_append,List.filter_cons_of_pos (by simp[more])]
    congr 1
    ·exact filter_eq_of fun x hx=>by simp[more,hone x (by simp[hx])]
    ·congr 1
     exact filter_eq_of fun x hx=>by simp[more,hone x (by simp[hx])]
   have e2:((B.zip ss).filter fun x=>D x.1.id)=(P.filter fun x=>D x.1.id)++(W.filter fun x=>D x.1.id):=by
    rw[eZ,List.filter_append,List.filter_cons_of_neg (by simpa using hnew)]
   have hp:=S.pm
   rw[e2]at hp
   rw[e1]
   refine(List.Perm.append_right [(s,st)] hp).trans ?_
   rw[List.append_assoc]
   exact List.Perm.append_left _ (List.perm_append_comm)
end
end Go.Jq
namespace Go.Jq
open Go.RowKit
section
variable {C:Ctx} {N:Nat} {os:Array Oper} {L B:List SOper} {F F1:Fr} {h hK:AH} {Y:List AH} {rs:List Rec} {fl:List (Nat×Nat×ABlk)} {T:List T1} {ss:List St}
theorem foldl_put_perm{l m:List St}(hp:l.Perm m)(ha:m.Pairwise fun s t=>s.apart t∨s=t)(h:AH):l.foldl St.put h=m.foldl St.put h:=by
 refine hp.foldl_eq' ?_ h
 intro x hx y hy z
 have hx':=hp.mem_iff.1 hx
 have hy':=hp.mem_iff.1 hy
 clear hp hx hy
 induction ha with
 | nil=>simp at hx'
 | cons h1 _ ih=>
  rcases List.mem_cons.1 hx' with e1|e1<;>rcases List.mem_cons.1 hy' with e2|e2
  ·subst e1 e2;rfl
  ·subst e1;rcases h1 y e2 with q|q;exact St.put_comm q z;subst q;rfl
  ·subst e2;rcases h1 x e1 with q|q;exact(St.put_comm q z).symm;subst q;rfl
  ·exact ih e1 e2
theorem placesOk_spec{n:Nat}{l:List SOper}(h:placesOk n l=true):(∀i,i<n→∃s∈l,s.id=i):=by
 simp only[placesOk,Bool.and_eq_true,List.all_eq_true,List.any_eq_true,beq_iff_eq,List.mem_range]at h
 exact fun i hi=>h.2 i hi
def Dl(listed:Array Bool)(i:Nat):Bool:=listed.getD i false
theorem Reg.any(R:Reg C N os L B F F1 h hK Y rs fl T ss){γ0:Gm}{Q:Exit→Act→World→Prop}
  (hQ:∀γ' w' a',GX h γ0 γ' (ss.foldl St.put hK)→HR C γ' (ss.foldl St.put hK) w'→FR C γ' N F1 a'→Q .normal a' w'):
  ∀(fuel:Nat) (listed:Array Bool) (a:Act) (w:World) (γ:Gm) (y:AH) (Z:List (SOper×St)),listed.size=os.size→(∀i,i<os.size→(listed.getD i false=true∨∃s∈L++B,s.id=i))→
  (listed.toList.filter (fun b=>!b)).length≤fuel→RS C N L B F h Y T ss γ0 (Dl listed) a w γ y Z→wpAny C.P .any os Q fuel listed a w:=by
 have hdc:=R.dc
 simp only[dcheck,Bool.and_eq_true,List.all_eq_true]at hdc
 obtain⟨⟨⟨hids,_⟩,_⟩,_⟩:=hdc
 obtain⟨hplt,hpw⟩:=idsOk_spec hids
 have hpl:=placesOk_spec R.pl
 -- at the end
 have done:∀(listed:Array Bool) (a:Act) (w:World) (γ:Gm) (y:AH) (Z:List (SOper×St)),listed.size=os.size→Region.ready .any os listed=[]→RS C N L B F h Y T ss γ0 (Dl listed) a w γ y Z→Q .normal a w:=by
  intro listed a w γ y Z hsz hr S
  have hall:∀n i,i<n→i<os.size→Dl listed i=true:=by
   intro n
   induction n with
   | zero=>intro i hi;omega
   | succ n ih=>
    intro i hi his
    cases hD:Dl listed i with
    | true=>rfl
    | false=>
     obtain⟨s,hs,rfl⟩:=hpl i his
     obtain⟨o,ho,hc,he⟩:=R.comp s hs
     have:s.id∈Region.ready .any os listed:=by
      simp only[Region.ready,List.mem_filter,List.mem_range,Bool.and_eq_true,Bool.not_eq_true']
      refine⟨his,?_,?_⟩
      ·unfold Dl at hD
       rw[Array.getD_eq_getD_getElem?]at hD ⊢
       rw[Array.getElem?_eq_getElem (by omega)]at hD ⊢
       simpa using hD
      ·rw[ho]
       simp only[Option.map_some,Option.getD_some]
       rw[Array.all_eq_true']
       intro e hm
       cases hb:Region.binds .any e with
       | false=>simp
       | true=>
        simp only[Bool.not_true,Bool.false_or]
        have h1:e.on∈s.pre:=by rw[he];exact List.mem_map.2 ⟨e,List.mem_filter.2 ⟨Array.mem_toList_iff.2 hm,hb⟩,rfl⟩
        have h2:=hplt s hs e.on h1
        exact ih e.on (by omega) (by omega)
     rw[hr]at this
     simp at this
  have hTall:∀s∈L++B,Dl listed s.id=true:=by
   intro s hs
   obtain⟨o,ho,_⟩:=R.comp s hs
   have:=(Array.getElem?_eq_some_iff.1 ho).1
   exact hall _ _ (Nat.lt_succ_self _) this
  have hmap:=R.d.map
  have hT:(T.filter fun t=>Dl listed t.s.id)=T:=by
   rw[List.filter_eq_self]
   intro t ht
   exact hTall t.s (by rw[←hmap];exact List.mem_append.2 (.inl (List.mem_map.2 ⟨t,ht,rfl⟩)))
  have hB:((B.zip ss).filter fun x=>Dl listed x.1.id)=B.zip ss:=by
   rw[List.filter_eq_self]
   intro x hx
   exact hTall x.1 (List.mem_append.2 (.inr (List.of_mem_zip hx).1))
  obtain⟨zlen,_⟩:=stsOf_zip R.sts
  have hk:kOf T (Dl listed)=(T.filter (·.mv)).length:=by
   unfold kOf
   congr 1
   rw[List.filter_eq_self]
   intro t ht
   simp only[List.mem_filter]at ht
   exact hTall t.s (by rw[←hmap];exact List.mem_append.2 (.inl (List.mem_map.2 ⟨t,ht.1,rfl⟩)))
  have hy:y=hK:=by
   have h1:=S.yk
   rw[hk,R.d.last]at h1
   exact(Option.some.inj h1).symm
  subst hy
  have hpm:=S.pm
  rw[hB]at hpm
  have hpm2:(Z.map (·.2)).Perm ss:=by
   have:=hpm.map (·.2)
   rwa [List.map_snd_zip (by omega)]at this
  have heq:=foldl_put_perm hpm2 (stsOk_spec R.ok).2 y
  have h1:=S.hr
  rw[heq]at h1
  have h2:=S.fr
  rw[hT,R.d.fin]at h2
  exact hQ γ w a ⟨S.gx.1,S.gx.2.1,by rw[foldl_put_next];exact S.gx.2.2⟩ h1 h2
 intro fuel
 induction fuel with
 | zero=>
  intro listed a w γ y Z hsz _ hf S
  have hnone:∀b∈listed.toList,b=true:=by
   intro b hb
   cases b with
   | true=>rfl
   | false=>
    have:false∈listed.toList.filter (fun b=>!b):=by simp[hb]
    have:=List.length_pos_of_mem this
    omega
  have hr:Region.ready .any os listed=[]:=by
   unfold Region.ready
   rw[List.filter_eq_nil_iff]
   intro i hi
   simp only[List.mem_range]at hi
   have:listed.getD i true=true:=by
    rw[Array.getD_eq_getD_getElem?,Array.getElem?_eq_getElem (by omega)]
    exact hnone _ (by simp)
   rw[this];simp
  exact⟨hr,done listed a w γ y Z hsz hr S⟩
 | succ fuel ih=>
  intro listed a w γ y Z hsz _ hf S
  refine⟨fun hr=>done listed a w γ y Z hsz hr S,fun i hi=>?_⟩
  simp only[Region.ready,List.mem_filter,List.mem_range,Bool.and_eq_true,Bool.not_eq_true']at hi
  obtain⟨his,hil,hib⟩:=hi
  obtain⟨s,hs,rfl⟩:=hpl i his
  obtain⟨o,ho,hc,he⟩:=R.comp s hs
  have hil':listed[s.id]'(by omega)=false:=by
   rw[Array.getD_eq_getD_getElem?,Array.getElem?_eq_getElem (by omega)]at hil
   simpa using hil
  have hnew:Dl listed s.id=false:=by
   unfold Dl
   rw[Array.getD_eq_getD_getElem?,Array.getElem?_eq_getElem (by omega)]
   simpa using hil'
  have hpre:∀j∈s.pre,Dl listed j=true:=by
   intro j hj
   rw[he]at hj
   obtain⟨e,h1,rfl⟩:=List.mem_map.1 hj
   obtain⟨h1,h2⟩:=List.mem_filter.1 h1
   rw[ho]at hib
   simp only[Option.map_some,Option.getD_some,Array.all_eq_true']at hib
   have:=hib e (Array.mem_toList_iff.1 h1)
   rw[h2]at this
   simpa[Dl]using this
  have hmore:Dl (listed.setIfInBounds s.id true)=more (Dl listed) s.id:=by
   funext j
   show(listed.setIfInBounds s.id true).getD j false=(j == s.id||listed.getD j false)
   rw[Array.getD_eq_getD_getElem?,Array.getElem?_setIfInBounds,Array.getD_eq_getD_getElem?]
   by_cases e:s.id=j
   ·subst e
    simp[show s.id<listed.size by omega]
   ·rw[if_neg e]
    have:(j == s.id)=false:=by simp;omega
    rw[this,Bool.false_or]
  unfold wpOp
  rw[ho]
  simp only
  have:=R.step S hs hnew hpre hc (K:=wpAny C.P .any os Q fuel (listed.setIfInBounds s.id true)) (Q:=Q) (fun a' w' γ' y' Z' S'=>by
   refine ih _ a' w' γ' y' Z' (by simpa using hsz) (fun i hi=>.inr (hpl i hi)) ?_ (by rw[hmore];exact S')
   have:((listed.setIfInBounds s.id true).toList.filter (fun b=>!b)).length+1=(listed.toList.filter (fun b=>!b)).length:=by
    have hlt:s.id<listed.toList.length:=by simp;omega
    have e1:listed.toList=listed.toList.take s.id++false::listed.toList.drop (s.id+1):=by
     conv=>lhs;rw[←List.take_append_drop s.id listed.toList]
     congr 1
     rw[List.drop_eq_getElem_cons hlt]
     congr 1
    have e2:(listed.setIfInBounds s.id true).toList=listed.toList.take s.id++true::listed.toList.drop (s.id+1):=by
     rw[Array.toList_setIfInBounds,List.set_eq_take_append_cons_drop,if_pos hlt]
    rw[e2]
    conv=>rhs;rw[e1]
    simp only[List.filter_append,List.length_append]
    rw[List.filter_cons_of_neg (by simp),List.filter_cons_of_pos (by simp)]
    rw[List.length_cons,Nat.add_assoc]
   omega)
  split
  ·rename_i hw
   rw[if_pos hw]at this
   exact .inl this
  ·rename_i hw
   rw[if_neg hw]at this
   exact this
end
end Go.Jq
namespace Go.Jq
open Go.RowKit
theorem store1_next{h h1:AH}{b o:Nat}{v:Value}(hs:h.store1 b o v=some h1):h1.next=h.next:=by
 unfold AH.store1 at hs
 split at hs
 ·split at hs
  ·simp only[Option.some.injEq]at hs;subst hs;rfl
  ·simp at hs
 ·simp at hs
theorem sappend_next{h h1:AH}{s b:Nat}{x y v:Value}(hs:sappend h s b x y=some (v,h1)):h.next≤h1.next:=by
 unfold sappend at hs
 split at hs
 ·split at hs
  ·simp at hs
  ·split at hs
   ·simp at hs
   ·split at hs
    ·split at hs
     ·split at hs<;>simp only[Option.some.injEq,Prod.mk.injEq]at hs<;>obtain⟨_,rfl⟩:=hs
      ·exact Nat.le_refl _
      ·rw[AH.alloc_next];omega
     ·simp at hs
    ·split at hs
     ·split at hs
      ·simp only[Option.some.injEq,Prod.mk.injEq]at hs;obtain⟨_,rfl⟩:=hs;exact Nat.le_refl _
      ·split at hs
       ·rename_i hst
        simp only[Option.some.injEq,Prod.mk.injEq]at hs;obtain⟨_,rfl⟩:=hs
        rw[store_next hst];exact Nat.le_refl _
       ·simp at hs
     ·split at hs
      ·split at hs
       ·simp only[Option.some.injEq,Prod.mk.injEq]at hs;obtain⟨_,rfl⟩:=hs
        rw[AH.alloc_next];omega
       ·split at hs
        ·simp only[Option.some.injEq,Prod.mk.injEq]at hs;obtain⟨_,rfl⟩:=hs
         rw[AH.alloc_next,AH.put_next];omega
        ·simp at hs
      ·simp at hs
 ·simp at hs
theorem scopy_next{h h1:AH}{s:Nat}{x y v:Value}(hs:scopy h s x y=some (v,h1)):h.next≤h1.next:=by
 unfold scopy at hs
 split at hs
 ·split at hs
  ·simp at hs
  ·split at hs
   ·simp only[Option.some.injEq,Prod.mk.injEq]at hs;obtain⟨_,rfl⟩:=hs;exact Nat.le_refl _
   ·split at hs
    ·simp only[Option.some.injEq,Prod.mk.injEq]at hs;obtain⟨_,rfl⟩:=hs;exact Nat.le_refl _
    ·split at hs
     ·rename_i hst
      simp only[Option.some.injEq,Prod.mk.injEq]at hs;obtain⟨_,rfl⟩:=hs
      rw[store_next hst];exact Nat.le_refl _
     ·simp at hs
 ·simp at hs
theorem sop_next{so:SOp}{ρ:SOpd→Option Value}{h:AH}{out:Out}(hs:sop so ρ h=some out):match out with
  | .val _ h1=>h.next≤h1.next
  | .skip h1=>h.next≤h1.next
  | .call ..=>True:=by
 cases so
 case append s b x y=>
  simp only[sop]at hs
  split at hs
  ·split at hs
   ·rename_i hv
    simp only[Option.some.injEq]at hs;subst hs
    exact sappend_next hv
   ·simp at hs
  ·simp at hs
 case copy s x y=>
  simp only[sop]at hs
  split at hs
  ·split at hs
   ·rename_i hv
    simp only[Option.some.injEq]at hs;subst hs
    exact scopy_next hv
   ·simp at hs
  ·simp at hs
 case store1 x y=>
  simp only[sop]at hs
  split at hs
  ·split at hs
   ·split at hs
    ·rename_i hst
     simp only[Option.some.injEq]at hs;subst hs
     show _≤_
     rw[store1_next hst];exact Nat.le_refl _
    ·simp at hs
   ·simp at hs
  ·simp at hs
 case clear zs x=>
  simp only[sop]at hs
  split at hs
  ·split at hs
   ·simp at hs
   ·split at hs
    ·rename_i hst
     simp only[Option.some.injEq]at hs;subst hs
     show _≤_
     rw[store_next hst];exact Nat.le_refl _
    ·simp at hs
  ·simp at hs
 case storeN n x y=>
  simp only[sop]at hs
  split at hs
  ·split at hs
   ·split at hs
    ·split at hs
     ·rename_i hst
      simp only[Option.some.injEq]at hs;subst hs
      show _≤_
      rw[store_next hst];exact Nat.le_refl _
     ·simp at hs
    ·simp at hs
   ·simp at hs
  ·simp at hs
 all_goals
  simp only[sop]at hs
  repeat' split at hs
  all_goals first
   | (simp at hs;done)
   | (simp only[Option.some.injEq]at hs;subst hs;first|exact Nat.le_refl _|(show _≤_;rw[AH.alloc_next];omega)|trivial)
def Snd(C:Ctx)(_G:Nat→SFunc):Job→Res→Prop
 | .code c F h,.code e F1 h1=>h.next≤h1.next∧∀(N:Nat) (cd:Code) (ls ls':List (List Nat)),cCode C.P C.ψ N cd ls=some (c,ls')→∀(γ:Gm) (w:World) (a:Act),HR C γ h w→FR C γ N F a→
   cd.wp C.P (Post C γ h N e F1 h1) a w∧∀body,cd=.loop body→LoopWp C.P body (Post C γ h N e F1 h1) a w
 | .ops l F h,.ops F1 h1=>h.next≤h1.next∧∀(N:Nat) (os:Array Oper) (ol:List Oper),cOpers C.P C.ψ N os ol=some l→∀(γ:Gm) (w:World) (a:Act) (Q:Exit→Act→World→Prop),HR C γ h w→FR C γ N F a→
   (∀γ' w' a',GX h γ γ' h1→HR C γ' h1 w'→FR C γ' N F1 a'→Q .normal a' w')→wpList C.P os Q ol a w
 | .qops l F h,.ops F1 h1=>h1=h∧(l.all (·.op.still)=true→∀(N:Nat) (os:Array Oper) (rs:List Rec),(∀x∈rs,x.same h)→∃T rs',DT C N os l F h [] rs [] T F1 h [h] rs' [])
 | .dops l batch F h past rs fl,.ops F1 h1=>h.next≤h1.next∧∀(N:Nat) (os:Array Oper),∃T hK Y rs' fl' ss,DT C N os l F h past rs fl T F1 hK Y rs' fl'∧stsOf F1 batch=some ss∧stsOk hK ss∧crossOk rs' fl' batch ss∧h1=ss.foldl St.put hK
 | .call f args h,.val v h1=>h.next≤h1.next∧(C.L f=true→∀(γ:Gm) (w:World) (args':Array Value),HR C γ h w→FA2 (VR C γ) args args'.toList→Calls C.P (C.φ f) args' w (Called C γ h v h1))
 | _,_=>True
theorem exit_block{C:Ctx}{γ:Gm}{h0:AH}{N id:Nat}{e:SExit}{F:Fr}{h:AH}{e':Exit}{a':Act}{w':World}(k:Post C γ h0 N e F h e' a' w'):Exit.inBlock id (Post C γ h0 N (if e=.exit id then .normal else e) F h) e' a' w':=by
 obtain⟨rfl,k2⟩:=k
 cases e with
 | normal=>exact⟨rfl,k2⟩
 | ret=>exact⟨rfl,k2⟩
 | exit i=>
  simp only[SExit.conc,Exit.inBlock]
  by_cases hi:i=id
  ·subst hi;simp only[if_true];exact⟨rfl,k2⟩
  ·have:¬(SExit.exit i=SExit.exit id):=by simp[hi]
   simp only[hi,this,if_false];exact⟨rfl,k2⟩
end Go.Jq
namespace Go.Jq
open Go.RowKit
section
variable {C:Ctx} {N:Nat} {os:Array Oper}
theorem cOpers_get{P:Program}{ψ:FuncId→Option Nat}:∀{ol:List Oper} {l:List SOper},cOpers P ψ N os ol=some l→l.length=ol.length∧∀(i:Nat) (s:SOper),l[i]?=some s→∃o,ol[i]?=some o∧cOper P ψ N os o=some s
 | [],l,h=>by simp[cOpers]at h;subst h;simp
 | o::ol,l,h=>by
  simp only[cOpers]at h
  split at h
  ·rename_i a r h1 h2
   simp only[Option.some.injEq]at h;subst h
   obtain⟨i1,i2⟩:=cOpers_get h2
   refine⟨by simp[i1],fun i s hs=>?_⟩
   cases i with
   | zero=>simp at hs;subst hs;exact⟨o,rfl,h1⟩
   | succ i=>simp at hs;obtain⟨o',e1,e2⟩:=i2 i s hs;exact⟨o',by simpa using e1,e2⟩
  ·simp at h
def Src(C:Ctx)(N:Nat)(os:Array Oper)(s:SOper):Prop:=∃o s0,os[s.id]?=some o∧cOper C.P C.ψ N os o=some s0∧s.op=s0.op∧s.dst=s0.dst∧s.guard=s0.guard∧s.pre=(o.after.toList.filter (Region.binds .any)).map (·.on)
theorem Src.comp{s:SOper}(h:Src C N os s):∃o,os[s.id]?=some o∧Comp C N os o s∧s.pre=(o.after.toList.filter (Region.binds .any)).map (·.on):=by
 obtain⟨o,s0,h1,h2,h3,h4,h5,h6⟩:=h
 obtain⟨g1,g2,g3,g4,g5,_⟩:=cOper_parts h2
 exact⟨o,h1,⟨by rw[h4];exact g1,g2,by rw[h5];exact g3,by rw[h3];exact g4,by rw[h3];exact g5⟩,h6⟩
theorem dSort_mem(rank:SOper→Nat):∀(n:Nat) (l:List SOper) (seen:List Nat) (x:SOper),x∈dSort rank n l seen→x∈l
 | 0,l,seen,x,h=>by simp[dSort]at h
 | n+1,l,seen,x,h=>by
  simp only[dSort]at h
  split at h
  ·rename_i o ho
   rcases List.mem_cons.1 h with rfl|h
   ·have hr:x∈l.filter fun o=>o.pre.all seen.contains:=by
     generalize (l.filter fun o=>o.pre.all seen.contains)=r at ho
     simp only[Option.orElse]at ho
     split at ho
     ·rename_i y hy;simp only[Option.some.injEq]at ho;subst ho;exact List.mem_of_find?_eq_some hy
     ·split at ho
      ·rename_i y hy;simp only[Option.some.injEq]at ho;subst ho;exact List.mem_of_find?_eq_some hy
      ·exact List.mem_of_mem_head? ho
    exact(List.mem_filter.1 hr).1
   ·exact(List.mem_filter.1 (dSort_mem rank n _ _ x h)).1
  ·simp at h
theorem l0_src{l:List SOper}(h:cOpers C.P C.ψ N os os.toList=some l):∀s∈((os.toList.zip l).zipIdx).map (fun((o,s),i)=>dOper o s i),Src C N os s:=by
 intro s hs
 obtain⟨x,hx,rfl⟩:=List.mem_map.1 hs
 obtain⟨⟨o,s0⟩,i⟩:=x
 obtain⟨h1,h2⟩:=cOpers_get h
 have hi:=List.mem_zipIdx_iff_getElem?.1 hx
 simp only at hi
 rw[List.getElem?_zip_eq_some]at hi
 simp only at hi
 obtain⟨o',e1,e2⟩:=h2 i s0 hi.2
 rw[hi.1]at e1
 simp only[Option.some.injEq]at e1
 subst e1
 refine⟨o,s0,?_,e2,rfl,rfl,rfl,rfl⟩
 show os[i]?=some o
 rw[←Array.getElem?_toList]
 exact hi.1
theorem dBounds_src{l b:List SOper}(h1:∀s∈l,Src C N os s)(h2:∀s∈b,Src C N os s):(∀s∈(dBounds l b).1,Src C N os s)∧∀s∈(dBounds l b).2,Src C N os s:=by
 constructor
 ·intro s hs
  simp only[dBounds]at hs
  obtain⟨t,ht,rfl⟩:=List.mem_map.1 hs
  have:=h1 t ht
  split
  ·exact this
  ·split
   ·exact this
   ·exact this
 ·intro s hs
  simp only[dBounds]at hs
  obtain⟨t,ht,rfl⟩:=List.mem_map.1 hs
  exact h2 t ht
theorem dSplit_src{l:List SOper}(h:cOpers C.P C.ψ N os os.toList=some l):(∀x r,dSplit os l=.qreg x r→∀s∈r,Src C N os s)∧∀x r b,dSplit os l=.dreg x r b→∀s∈r++b,Src C N os s:=by
 have h0:=l0_src h
 unfold dSplit
 simp only
 generalize ((os.toList.zip l).zipIdx).map (fun((o,s),i)=>dOper o s i)=l0 at h0
 split
 ·refine⟨fun x r e=>?_,fun x r b e=>by simp at e⟩
  simp only[SCode.qreg.injEq]at e;obtain⟨-,rfl⟩:=e;exact h0
 ·refine⟨fun x r e=>by simp at e,fun x r b e=>?_⟩
  simp only[SCode.dreg.injEq]at e
  obtain⟨-,rfl,rfl⟩:=e
  obtain⟨k1,k2⟩:=dBounds_src (C:=C) (N:=N) (os:=os) (l:=dSort (fun o=>if o.moves=true then 1 else 0) l0.length (l0.filter fun o=>!isLast (ancs l0) l0 o) ((l0.filter (isLast (ancs l0) l0)).map (·.id))) (b:=l0.filter (isLast (ancs l0) l0))
   (fun s hs=>h0 s (List.mem_filter.1 (dSort_mem _ _ _ _ s hs)).1) (fun s hs=>h0 s (List.mem_filter.1 hs).1)
  intro s hs
  rcases List.mem_append.1 hs with hs|hs
  ·exact k1 s hs
  ·exact k2 s hs
end
section
variable {C:Ctx} {N:Nat} {os:Array Oper}
theorem draw_wp{id:Nat}{L B:List SOper}{F F1:Fr}{h hK:AH}{Y:List AH}{rs:List Rec}{fl:List (Nat×Nat×ABlk)}{T:List T1}{ss:List St}(R:Reg C N os L B F F1 h hK Y rs fl T ss)(hm:C.P.follows .mixedOrders=true)
  {γ:Gm}{w:World}{a:Act}(H:HR C γ h w)(hF:FR C γ N F a):(Code.region id os true).wp C.P (Post C γ h N .normal F1 (ss.foldl St.put hK)) a w:=by
 refine wp_region_any hm ?_
 obtain⟨y,Z,e,g⟩:=R.d.head
 have hf0:∀i,Dl (Array.replicate os.size false) i=false:=by
  intro i
  unfold Dl
  rw[Array.getD_eq_getD_getElem?,Array.getElem?_replicate]
  split<;>rfl
 have hz:(T.filter fun t=>Dl (Array.replicate os.size false) t.s.id)=[]:=by
  rw[List.filter_eq_nil_iff];intro t _;rw[hf0];simp
 have hk:kOf T (Dl (Array.replicate os.size false))=0:=by
  unfold kOf
  have:((T.filter (·.mv)).filter fun t=>Dl (Array.replicate os.size false) t.s.id)=[]:=by
   rw[List.filter_eq_nil_iff];intro t _;rw[hf0];simp
  rw[this];rfl
 refine R.any (γ0:=γ) (fun γ' w' a' h1 h2 h3=>⟨rfl,γ',h1,h2,h3⟩) os.size (Array.replicate os.size false) a { w with drawn:=w.drawn+1 } γ y [] (by simp) (fun i hi=>.inr (placesOk_spec R.pl i hi)) (by simp) ?_
 refine⟨fun s _ hD=>by rw[hf0]at hD;simp at hD,by rw[hk,e];rfl,⟨Sub.refl γ,fun _ _=>rfl,g.get.1⟩,g.hr (H.drew _),by rw[hz];exact hF,?_,?_⟩
 ·intro t ht b blk hb _
  obtain⟨_,_,_,_,h4,_⟩:=R.d.floats t ht b blk hb
  exact H.dom b h4
 ·have:((B.zip ss).filter fun x=>Dl (Array.replicate os.size false) x.1.id)=[]:=by
   rw[List.filter_eq_nil_iff];intro t _;rw[hf0];simp
  rw[this]
theorem results_run{γ:Gm}{h:AH}{w:World}{F:Fr}{a:Act}(H:HR C γ h w)(hF:FR C γ N F a):∀{rv:List ResultVar} {rs:List SRes} {vs:List Value},cRes C.P N rv=some rs→resultsOf F h rs=some vs→
  ∃vs',(rv.mapM fun|.tmp t=>pure (a.tmps.getD t undef)|.cell ad t=>do loadVar t (←asAddr (a.tmps.getD ad undef)):Sem (List Value)).run C.P w=.ok vs' w∧FA2 (VR C γ) vs vs'
 | [],rs,vs,h1,h2=>by
  simp[cRes]at h1;subst h1
  simp[resultsOf]at h2;subst h2
  exact⟨[],by simp,.nil⟩
 | .tmp t::rv,rs,vs,h1,h2=>by
  simp only[cRes]at h1
  split at h1
  ·rename_i l hl
   split at h1
   ·simp only[Option.some.injEq]at h1;subst h1
    simp only[resultsOf]at h2
    split at h2
    ·rename_i v l' e1 e2
     simp only[Option.some.injEq]at h2;subst h2
     obtain⟨vs',k1,k2⟩:=results_run H hF hl e2
     obtain⟨v',g1,g2⟩:=hF.get t v e1
     refine⟨v'::vs',?_,.cons g2 k2⟩
     simp only[List.mapM_cons,Sem.run_bind,Sem.run_pure,Result.andThen_ok,k1]
     rw[Array.getD_eq_getD_getElem?,g1]
     rfl
    ·simp at h2
   ·simp at h1
  ·simp at h1
 | .cell ad t::rv,rs,vs,h1,h2=>by
  simp only[cRes]at h1
  split at h1
  ·rename_i d n l hu hn hl
   simp only[Option.some.injEq]at h1;subst h1
   simp only[resultsOf]at h2
   split at h2
   ·rename_i v l' e1 e2
    simp only[Option.some.injEq]at h2;subst h2
    obtain⟨vs',k1,k2⟩:=results_run H hF hl e2
    have key:∃v',(do loadVar t (←asAddr (a.tmps.getD ad undef)):Sem Value).run C.P w=.ok v' w∧VR C γ v v':=by
     cases ha:aggD d with
     | true=>
      rw[ha]at e1
      simp only[if_true,resultOf]at e1
      split at e1
      ·rename_i b off hb
       split at e1
       ·rename_i cs hcs
        simp only[Option.some.injEq]at e1;subst e1
        simp only[Option.bind_eq_some_iff]at hb
        obtain⟨u,hu1,hu2⟩:=hb
        obtain⟨u',g1,g2⟩:=hF.get ad u hu1
        obtain⟨Bk,s,M,q1,rfl⟩:=g2.ptr_inv hu2
        obtain⟨l',m1,m2,_,m4,_⟩:=H.load q1 hcs
        refine⟨.agg l',?_,.agg (by simpa using m2) (by simpa using m4)⟩
        rw[Array.getD_eq_getD_getElem?,g1]
        simp[asAddr,loadVar,run_agg hu,ha,run_size hn,m1]
       ·simp at e1
      ·simp at e1
     | false=>
      rw[ha]at e1
      simp only[Bool.false_eq_true,if_false,resultOf]at e1
      split at e1
      ·rename_i b off hb
       simp only[Option.bind_eq_some_iff]at hb
       obtain⟨u,hu1,hu2⟩:=hb
       obtain⟨u',g1,g2⟩:=hF.get ad u hu1
       obtain⟨Bk,s,M,q1,rfl⟩:=g2.ptr_inv hu2
       obtain⟨v',m1,m2,_⟩:=H.load1 q1 e1
       refine⟨v',?_,m2⟩
       rw[Array.getD_eq_getD_getElem?,g1]
       simp[asAddr,loadVar,run_agg hu,ha,m1]
      ·simp at e1
    obtain⟨v',g1,g2⟩:=key
    refine⟨v'::vs',?_,.cons g2 k2⟩
    simp only[List.mapM_cons,Sem.run_bind]at g1 ⊢
    simp only[g1,Result.andThen_ok,k1,Sem.run_pure]
   ·simp at h2
  ·simp at h1
theorem oneOf_VR{γ:Gm}{vs vs':List Value}(h:FA2 (VR C γ) vs vs'):VR C γ (oneOf vs) (if hh:vs'.toArray.size=1 then vs'.toArray[0]else .tuple vs'.toArray):=by
 cases h with
 | nil=>exact .tuple .nil
 | cons h1 h2=>
  cases h2 with
  | nil=>exact h1
  | cons h3 h4=>exact .tuple (.cons h1 (.cons h3 h4))
end
end Go.Jq
namespace Go.Jq
section
variable {C:Ctx} {γ γ' γ'':Gm}
mutual
theorem VR.restrict(hs:∀b x,γ b=some x→γ'' b=γ' b):∀{v x y:Value},VR C γ v x→VR C γ' v y→VR C γ'' v y
 | _,_,_,.bool,.bool=>.bool
 | _,_,_,.int,.int=>.int
 | _,_,_,.str,.str=>.str
 | _,_,_,.ptr0,.ptr0=>.ptr0
 | _,_,_,.ptr h,.ptr k=>.ptr (by rw[hs _ _ h];exact k)
 | _,_,_,.sl0,.sl0=>.sl0
 | _,_,_,.slX h,.slX k=>.slX (by rw[hs _ _ h];exact k)
 | _,_,_,.slI h _ _ _,.slI k a b c=>.slI (by rw[hs _ _ h];exact k) a b c
 | _,_,_,.slI h _ _ _,.slE k=>.slE (by rw[hs _ _ h];exact k)
 | _,_,_,.slE h,.slI k a b c=>.slI (by rw[hs _ _ h];exact k) a b c
 | _,_,_,.slE h,.slE k=>.slE (by rw[hs _ _ h];exact k)
 | _,_,_,.map0,.map0=>.map0
 | _,_,_,.map h,.map k=>.map (by rw[hs _ _ h];exact k)
 | _,_,_,.func0,.func0=>.func0
 | _,_,_,.func _ h1 h2,.func hl k1 k2=>.func hl (VR.restrictL hs h1 k1) (VR.restrictL hs h2 k2)
 | _,_,_,.agg h _,.agg k o=>.agg (VR.restrictL hs h k) o
 | _,_,_,.tuple h,.tuple k=>.tuple (VR.restrictL hs h k)
theorem VR.restrictL(hs:∀b x,γ b=some x→γ'' b=γ' b):∀{l m n:List Value},FA2 (VR C γ) l m→FA2 (VR C γ') l n→FA2 (VR C γ'') l n
 | _,_,_,.nil,.nil=>.nil
 | _,_,_,.cons h1 h2,.cons k1 k2=>.cons (VR.restrict hs h1 k1) (VR.restrictL hs h2 k2)
end
variable {K:Value→Prop} {ρ:Nat→Nat} {n:Nat}
theorem RV.one{v u:Value}(h:RV K ρ n v u):v.oneCell'=u.oneCell':=by cases h<;>rfl
theorem RV.ones{a b:List Value}(h:FA2 (RV K ρ n) a b)(o:∀x∈b,x.oneCell'=true):∀x∈a,x.oneCell'=true:=by
 induction h with
 | nil=>simp
 | cons r _ ih=>
  intro x hx
  rcases List.mem_cons.1 hx with rfl|hx
  ·rw[r.one];exact o _ (by simp)
  ·exact ih (fun y hy=>o y (by simp[hy])) x hx
mutual
theorem RV.sound(hK:∀v,K v→∃x,VR C γ v x)(hs:∀b x,γ b=some x→γ'' b=γ' b)(hρ:∀b,b<n→γ'' b=γ' (ρ b)):∀{v u x:Value},RV K ρ n v u→VR C γ' u x→VR C γ'' v x
 | _,_,_,.keep h,k=>let ⟨_,q⟩:=hK _ h;q.restrict hs k
 | _,_,_,.bool,.bool=>.bool
 | _,_,_,.int,.int=>.int
 | _,_,_,.str,.str=>.str
 | _,_,_,.ptr0,.ptr0=>.ptr0
 | _,_,_,.ptr h,.ptr k=>.ptr (by rw[hρ _ h];exact k)
 | _,_,_,.sl0,.sl0=>.sl0
 | _,_,_,.sl h,.slX k=>.slX (by rw[hρ _ h];exact k)
 | _,_,_,.sl h,.slI k a b c=>.slI (by rw[hρ _ h];exact k) a b c
 | _,_,_,.sl h,.slE k=>.slE (by rw[hρ _ h];exact k)
 | _,_,_,.map0,.map0=>.map0
 | _,_,_,.map h,.map k=>.map (by rw[hρ _ h];exact k)
 | _,_,_,.func0,.func0=>.func0
 | _,_,_,.func h1 h2,.func hl k1 k2=>.func hl (RV.soundL hK hs hρ h1 k1) (RV.soundL hK hs hρ h2 k2)
 | _,_,_,.agg h,.agg k o=>.agg (RV.soundL hK hs hρ h k) (RV.ones h o)
 | _,_,_,.tuple h,.tuple k=>.tuple (RV.soundL hK hs hρ h k)
theorem RV.soundL(hK:∀v,K v→∃x,VR C γ v x)(hs:∀b x,γ b=some x→γ'' b=γ' b)(hρ:∀b,b<n→γ'' b=γ' (ρ b)):∀{l m r:List Value},FA2 (RV K ρ n) l m→FA2 (VR C γ') m r→FA2 (VR C γ'') l r
 | _,_,_,.nil,.nil=>.nil
 | _,_,_,.cons h1 h2,.cons k1 k2=>.cons (RV.sound hK hs hρ h1 k1) (RV.soundL hK hs hρ h2 k2)
end
def reGm(γ':Gm)(ρ:Nat→Nat)(n:Nat):Gm:=fun b=>if b<n then γ' (ρ b)else none
theorem HR.view{h h1 h2:AH}{w w':World}(H0:HR C γ h w)(gx:GX h γ γ' h1)(H:HR C γ' h1 w')(V:View K ρ h h1 h2)(hK:∀v,K v→∃x,VR C γ v x):
  GX h γ (reGm γ' ρ h2.next) h2∧HR C (reGm γ' ρ h2.next) h2 w':=by
 have ag:∀b,b<h.next→reGm γ' ρ h2.next b=γ b:=fun b hb=>by
  unfold reGm
  rw[if_pos (Nat.lt_of_lt_of_le hb V.lo),V.id b hb,gx.2.1 b hb]
 have lt:∀b x,γ b=some x→b<h.next:=fun b x e=>by
  rcases Nat.lt_or_ge b h.next with q|q
  ·exact q
  ·rw[H0.dom b q]at e;simp at e
 have hs:∀b x,γ b=some x→reGm γ' ρ h2.next b=γ' b:=fun b x e=>by rw[ag b (lt b x e),gx.2.1 b (lt b x e)]
 have hρ:∀b,b<h2.next→reGm γ' ρ h2.next b=γ' (ρ b):=fun b hb=>by unfold reGm;rw[if_pos hb]
 refine⟨⟨fun b x e=>by rw[ag b (lt b x e)];exact e,ag,V.lo⟩,H.below,H.low,fun b B s N e=>?_,fun b b' B s N s' N' e e' k k'=>?_,fun b hb=>by unfold reGm;rw[if_neg (by omega)]⟩
 ·unfold reGm at e
  split at e
  ·rename_i hb
   have q:=H.blk _ _ _ _ e
   rcases V.blk b hb with⟨k1,k2,k3⟩|k
   ·rw[V.id b k1]at q e
    have e0:γ b=some (B,s,N):=by rw[←gx.2.1 b k1];exact e
    have q0:=H0.blk _ _ _ _ e0
    rw[k3]at q
    rw[k2]
    generalize h.get b=o at q q0
    cases o with
    | cells c g ro=>
     obtain⟨D0,E0,lo0,hi0,_,_,_,p4,_⟩:=q0
     obtain⟨D,E,lo,hi,q1,q2,q3,q4,q5,q6⟩:=q
     exact⟨D,E,lo,hi,q1,q2,q3,VR.restrictL hs p4 q4,q5,q6⟩
    | map es clk=>
     obtain⟨es0,_,_,_,p4⟩:=q0
     obtain⟨es',q1,q2,q3,q4⟩:=q
     refine⟨es',q1,q2,q3,?_⟩
     clear q1
     generalize es0.toList=l0 at p4
     generalize es'.toList=l1 at q4
     induction es generalizing l0 l1 with
     | nil=>cases q4;exact .nil
     | cons a es ih=>
      cases p4 with
      | cons a1 a2=>cases q4 with
       | cons b1 b2=>exact .cons ⟨VR.restrict hs a1.1 b1.1,VR.restrict hs a1.2.1 b1.2.1,b1.2.2⟩ (ih _ a2 _ b2)
    | dead=>trivial
   ·generalize h2.get b=o at k
    generalize h1.get (ρ b)=o1 at k q
    cases o with
    | cells c g ro=>
     cases o1 with
     | cells c1 g1 ro1=>
      obtain⟨rfl,k⟩:=k
      obtain⟨D,E,lo,hi,q1,q2,q3,q4,q5,q6⟩:=q
      have el:=k.length
      exact⟨D,E,lo,hi,q1,q2,by omega,by rw[el];exact RV.soundL hK hs hρ k q4,RV.ones k q5,q6⟩
     | map _ _=>exact k.elim
     | dead=>exact k.elim
    | map es clk=>
     cases o1 with
     | cells _ _ _=>exact k.elim
     | map es1 clk1=>
      obtain⟨rfl,k⟩:=k
      obtain⟨es',q1,q2,q3,q4⟩:=q
      refine⟨es',q1,q2,q3,?_⟩
      clear q1
      generalize es'.toList=l1 at q4
      induction k generalizing l1 with
      | nil=>cases q4;exact .nil
      | cons a1 a2 ih=>
       cases q4 with
       | cons b1 b2=>exact .cons ⟨RV.sound hK hs hρ a1.1 b1.1,RV.sound hK hs hρ a1.2.1 b1.2.1,a1.2.2.trans b1.2.2⟩ (ih _ b2)
     | dead=>exact k.elim
    | dead=>trivial
  ·simp at e
 ·have wr:∀b,b<h2.next→(h2.get b).wr=true→(h1.get (ρ b)).wr=true:=fun b hb k=>by
   rcases V.blk b hb with⟨k1,k2,k3⟩|q
   ·rw[V.id b k1,k3,←k2];exact k
   ·generalize h2.get b=o at k q
    generalize h1.get (ρ b)=o1 at q
    cases o<;>cases o1<;>first|exact q.elim|(obtain⟨rfl,_⟩:=q;exact k)|simp[ABlk.wr]at k ⊢
  unfold reGm at e e'
  split at e
  ·rename_i hb
   split at e'
   ·rename_i hb'
    exact V.inj b b' hb hb' (H.inj _ _ _ _ _ _ _ e e' (wr b hb k) (wr b' hb' k'))
   ·simp at e'
  ·simp at e
theorem FR.ofK{N:Nat}{F:Fr}{a:Act}(k:FR C γ N F a):∀v,ofFr F v→∃x,VR C γ v x:=by
 rintro v ⟨t,u,e,h⟩
 obtain⟨x,_,q⟩:=k.get t u e
 rcases h with rfl|h
 ·exact⟨x,q⟩
 ·cases u<;>simp only[inAgg]at h
  cases q with
  | agg q _=>
   obtain⟨i,hi⟩:=List.getElem?_of_mem h
   obtain⟨y,_,r⟩:=q.get hi
   exact⟨y,r⟩
theorem FA2.ofK{l:List Value}{m:List Value}(k:FA2 (VR C γ) l m):∀v,ofArgs l v→∃x,VR C γ v x:=by
 rintro v (h|⟨u,hu,h⟩)
 ·obtain⟨i,hi⟩:=List.getElem?_of_mem h
  obtain⟨y,_,r⟩:=k.get hi
  exact⟨y,r⟩
 ·obtain⟨i,hi⟩:=List.getElem?_of_mem hu
  obtain⟨x,_,q⟩:=k.get hi
  cases u<;>simp only[inAgg]at h
  cases q with
  | agg q _=>
   obtain⟨i,hi⟩:=List.getElem?_of_mem h
   obtain⟨y,_,r⟩:=q.get hi
   exact⟨y,r⟩
theorem Post.view{h0 h1 h2:AH}{N:Nat}{e:SExit}{F F1 F2:Fr}{e':Exit}{a a':Act}{w w':World}(H0:HR C γ h0 w)(f0:FR C γ N F a)(k:Post C γ h0 N e F1 h1 e' a' w')
  (V:View (ofFr F) ρ h0 h1 h2)(hv:∀t v,F2.get t=some v→∃u,F1.get t=some u∧RV (ofFr F) ρ h2.next v u):Post C γ h0 N e F2 h2 e' a' w':=by
 obtain⟨k1,γ',gx,H,f⟩:=k
 obtain⟨g1,g2⟩:=HR.view H0 gx H V f0.ofK
 refine⟨k1,_,g1,g2,f.size,f.defers,fun t v e=>?_⟩
 obtain⟨u,e1,r⟩:=hv t v e
 obtain⟨x,q1,q2⟩:=f.get t u e1
 refine⟨x,q1,RV.sound f0.ofK (fun b x e=>?_) (fun b hb=>?_) r q2⟩
 ·have lt:b<h0.next:=by
   rcases Nat.lt_or_ge b h0.next with q|q
   ·exact q
   ·rw[H0.dom b q]at e;simp at e
  rw[g1.2.1 b lt,gx.2.1 b lt]
 ·unfold reGm;rw[if_pos hb]
theorem Called.view{h0 h1 h2:AH}{args:List Value}{args':Array Value}{v v2:Value}{e:Ending}{w w':World}(H0:HR C γ h0 w)(f0:FA2 (VR C γ) args args'.toList)(k:Called C γ h0 v h1 e w')
  (V:View (ofArgs args) ρ h0 h1 h2)(hv:RV (ofArgs args) ρ h2.next v2 v):Called C γ h0 v2 h2 e w':=by
 obtain⟨x,γ',rfl,gx,H,q⟩:=k
 obtain⟨g1,g2⟩:=HR.view H0 gx H V f0.ofK
 refine⟨x,_,rfl,g1,g2,RV.sound f0.ofK (fun b x e=>?_) (fun b hb=>?_) hv q⟩
 ·have lt:b<h0.next:=by
   rcases Nat.lt_or_ge b h0.next with q|q
   ·exact q
   ·rw[H0.dom b q]at e;simp at e
  rw[g1.2.1 b lt,gx.2.1 b lt]
 ·unfold reGm;rw[if_pos hb]
end
end Go.Jq
namespace Go.Jq
open Go.RowKit
def NatOk(C:Ctx)(k:Nat)(F:FuncId):Prop:=(∀(h:AH) (γ:Gm) (w:World) (args:List Value) (args':Array Value) (v:Value),natOf k h args=some v→HR C γ h w→FA2 (VR C γ) args args'.toList→Calls C.P F args' w (Called C γ h v h))∧
 ∀(h:AH) (γ:Gm) (w:World) (args:List Value) (args':Array Value) (v:Value) (h1:AH),natHeap k h args=some (v,h1)→HR C γ h w→FA2 (VR C γ) args args'.toList→Calls C.P F args' w (Called C γ h v h1)
theorem NatOk.still{C:Ctx}{k:Nat}{F:FuncId}(hk:∀h args,natHeap k h args=none)(H:∀(h:AH) (γ:Gm) (w:World) (args:List Value) (args':Array Value) (v:Value),natOf k h args=some v→HR C γ h w→FA2 (VR C γ) args args'.toList→Calls C.P F args' w (Called C γ h v h)):NatOk C k F:=
 ⟨H,fun h _ _ args _ _ _ e=>by rw[hk]at e;simp at e⟩
def Tab(C:Ctx)(G:Nat→SFunc):Prop:=∀f,C.L f=true→(∃fn ls,C.P.funcs[C.φ f]?=some fn∧cFunc C.P C.ψ fn ls=some (G f))∨∃k,(G f).body=.native k∧NatOk C k (C.φ f)
theorem natHeap_next{k:Nat}{h h1:AH}{args:List Value}{v:Value}(H:natHeap k h args=some (v,h1)):h.next≤h1.next:=by
 unfold natHeap at H
 repeat' split at H
 all_goals first
  | (simp at H;done)
  | (simp only[Option.some.injEq,Prod.mk.injEq]at H;obtain⟨_,rfl⟩:=H;simp[AH.alloc])
theorem cCode_native{P:Program}{ψ:FuncId→Option Nat}{N k:Nat}{cd:Code}{ls ls':List (List Nat)}:cCode P ψ N cd ls≠some (.native k,ls'):=by
 intro hc
 cases cd<;>(try simp only[cCode]at hc)<;>try (simp at hc;done)
 all_goals first|((repeat' split at hc)<;>simp at hc;done)|(cases ls<;>simp only[cCode]at hc<;>(repeat' split at hc)<;>simp at hc;done)
theorem cFunc_native{P:Program}{ψ:FuncId→Option Nat}{fn:Func}{ls:List (List Nat)}{s:SFunc}{k:Nat}(h:cFunc P ψ fn ls=some s):s.body≠.native k:=by
 unfold cFunc at h
 intro e
 split at h
 ·split at h
  ·rename_i sc rsl hcode hres
   split at h
   ·simp only[Option.some.injEq]at h
    subst h
    simp only at e
    subst e
    exact cCode_native hcode
   ·simp at h
  ·simp at h
 ·simp at h
section
variable {C:Ctx} {G:Nat→SFunc}
theorem cOpers_cons{P:Program}{ψ:FuncId→Option Nat}{N:Nat}{os:Array Oper}{ol:List Oper}{s:SOper}{l:List SOper}(h:cOpers P ψ N os ol=some (s::l)):∃o r,ol=o::r∧cOper P ψ N os o=some s∧cOpers P ψ N os r=some l:=by
 cases ol with
 | nil=>simp[cOpers]at h
 | cons o r=>
  simp only[cOpers]at h
  split at h
  ·rename_i a m h1 h2
   simp only[Option.some.injEq,List.cons.injEq]at h
   obtain⟨rfl,rfl⟩:=h
   exact⟨o,r,rfl,h1,h2⟩
  ·simp at h
theorem wpList_on{P:Program}{os:Array Oper}{Q:Exit→Act→World→Prop}{o:Oper}{r:List Oper}{a:Act}{w:World}(hw:Region.wanted o (yielded os a.tmps)=true)(h:o.wp P a w (wpList P os Q r) Q):wpList P os Q (o::r) a w:=by
 unfold wpList
 rw[if_pos hw]
 exact .inl h
theorem wpList_off{P:Program}{os:Array Oper}{Q:Exit→Act→World→Prop}{o:Oper}{r:List Oper}{a:Act}{w:World}(hw:Region.wanted o (yielded os a.tmps)=false)(h:wpList P os Q r (a.put o.dst undef) w):wpList P os Q (o::r) a w:=by
 unfold wpList
 rw[if_neg (by rw[hw];simp)]
 exact h
theorem from_get{args:List Value}{t:Nat}{v:Value}(h:(Fr.from 0 args).get t=some v):args[t]?=some v:=by
 rw[Fr.get_from]at h
 simpa using h
theorem seqE_post{e:SExit}{K:Act→World→Prop}{Q:Exit→Act→World→Prop}{a:Act}{w:World}(hne:e≠.normal)(h:Q e.conc a w):Exit.then K Q e.conc a w:=by
 cases e with
 | normal=>exact absurd rfl hne
 | ret=>exact h
 | exit id=>exact h
theorem mapM_arr{P:Program}{w:World}{rv:Array ResultVar}{f g:ResultVar→Sem Value}{vs:List Value}(hfg:∀x,f x=g x)(h:(rv.toList.mapM f).run P w=.ok vs w):(rv.mapM g).run P w=.ok vs.toArray w:=by
 have:f=g:=funext hfg
 subst this
 rw[Array.mapM_eq_mapM_toList,Sem.run_map,h]
 rfl
theorem no_native{j:Job}{r:Res}(H:Run G j r):∀k F h,j≠.code (.native k) F h:=by
 induction H with
 | gcB _ _ _ ih=>intro k F h e;cases e;exact ih _ _ _ rfl
 | _=>intro k F h e;cases e
theorem sound(tab:Tab C G){j:Job}{r:Res}(H:Run G j r):Snd C G j r:=by
 induction H with
 | skip=>
  refine⟨Nat.le_refl _,fun N cd ls ls' hc γ w a hh hf=>?_⟩
  have post:Post C γ _ N .normal _ _ .normal a w:=⟨rfl,γ,.same (Nat.le_refl _),hh,hf⟩
  cases cd<;>(try simp only[cCode]at hc)<;>try (simp at hc;done)
  case skip=>exact⟨wp_skip post,fun b e=>by simp at e⟩
  case label=>exact⟨wp_label post,fun b e=>by simp at e⟩
  all_goals first|((repeat' split at hc)<;>simp at hc;done)|(cases ls<;>simp only[cCode]at hc<;>(repeat' split at hc)<;>simp at hc;done)
 | ret=>
  refine⟨Nat.le_refl _,fun N cd ls ls' hc γ w a hh hf=>?_⟩
  have post:Post C γ _ N .ret _ _ .ret a w:=⟨rfl,γ,.same (Nat.le_refl _),hh,hf⟩
  cases cd<;>(try simp only[cCode]at hc)<;>try (simp at hc;done)
  case ret=>exact⟨wp_ret post,fun b e=>by simp at e⟩
  all_goals first|((repeat' split at hc)<;>simp at hc;done)|(cases ls<;>simp only[cCode]at hc<;>(repeat' split at hc)<;>simp at hc;done)
 | exit=>
  rename_i id _ _
  refine⟨Nat.le_refl _,fun N cd ls ls' hc γ w a hh hf=>?_⟩
  have post:Post C γ _ N (.exit id) _ _ (.exit id) a w:=⟨rfl,γ,.same (Nat.le_refl _),hh,hf⟩
  cases cd<;>(try simp only[cCode]at hc)<;>try (simp at hc;done)
  case exit=>simp at hc;obtain⟨rfl,_⟩:=hc;exact⟨wp_exit post,fun b e=>by simp at e⟩
  all_goals first|((repeat' split at hc)<;>simp at hc;done)|(cases ls<;>simp only[cCode]at hc<;>(repeat' split at hc)<;>simp at hc;done)
 | seqN h1 h2 i1 i2=>
  rename_i a b F F1 h hh1 r
  cases r with
  | ops=>trivial
  | val=>trivial
  | code e F2 h2'=>
   obtain⟨n1,i1⟩:=i1
   obtain⟨n2,i2⟩:=i2
   refine⟨Nat.le_trans n1 n2,fun N cd ls ls' hc γ w ac hh hf=>?_⟩
   cases cd<;>(try simp only[cCode]at hc)<;>try (simp at hc;done)
   case seq x y=>
    split at hc
    ·rename_i sx ls1 hx
     split at hc
     ·rename_i sy ls2 hy
      simp only[Option.some.injEq,Prod.mk.injEq,SCode.seq.injEq]at hc
      obtain⟨⟨rfl,rfl⟩,rfl⟩:=hc
      refine⟨wp_seq (Code.wp_mono ?_ (i1 N x ls ls1 hx γ w ac hh hf).1),fun b e=>by simp at e⟩
      intro e' a' w' hp
      obtain⟨rfl,γ',g1,g2,g3⟩:=hp
      exact Code.wp_mono (fun e2 a2 w2 hp2=>Post.mono g1 hp2) (i2 N y ls1 ls2 hy γ' w' a' g2 g3).1
     ·simp at hc
    ·simp at hc
   all_goals first|((repeat' split at hc)<;>simp at hc;done)|(cases ls<;>simp only[cCode]at hc<;>(repeat' split at hc)<;>simp at hc;done)
 | seqE h1 hne i1=>
  obtain⟨n1,i1⟩:=i1
  refine⟨n1,fun N cd ls ls' hc γ w ac hh hf=>?_⟩
  cases cd<;>(try simp only[cCode]at hc)<;>try (simp at hc;done)
  case seq x y=>
   split at hc
   ·rename_i sx ls1 hx
    split at hc
    ·rename_i sy ls2 hy
     simp only[Option.some.injEq,Prod.mk.injEq,SCode.seq.injEq]at hc
     obtain⟨⟨rfl,rfl⟩,rfl⟩:=hc
     refine⟨wp_seq (Code.wp_mono ?_ (i1 N x ls ls1 hx γ w ac hh hf).1),fun b e=>by simp at e⟩
     intro e' a' w' hp
     have he':=hp.1
     subst he'
     exact seqE_post hne hp
    ·simp at hc
   ·simp at hc
  all_goals first|((repeat' split at hc)<;>simp at hc;done)|(cases ls<;>simp only[cCode]at hc<;>(repeat' split at hc)<;>simp at hc;done)
 | cond hv h1 i1=>
  rename_i c t a b F h r
  cases r with
  | ops=>trivial
  | val=>trivial
  | code e F2 h2'=>
   obtain⟨n1,i1⟩:=i1
   refine⟨n1,fun N cd ls ls' hc γ w ac hh hf=>?_⟩
   cases cd<;>(try simp only[cCode]at hc)<;>try (simp at hc;done)
   case cond oc x y=>
    split at hc
    ·rename_i sc sx ls1 h0 hx
     split at hc
     ·rename_i sy ls2 hy
      simp only[Option.some.injEq,Prod.mk.injEq,SCode.cond.injEq]at hc
      obtain⟨⟨rfl,rfl,rfl⟩,rfl⟩:=hc
      have hb:=(hf.or oc sc _ h0 hv).bool_inv
      refine⟨wp_cond hb ?_,fun b e=>by simp at e⟩
      cases t with
      | true=>exact(i1 N x ls ls1 hx γ w ac hh hf).1
      | false=>exact(i1 N y ls1 ls2 hy γ w ac hh hf).1
     ·simp at hc
    ·simp at hc
   all_goals first|((repeat' split at hc)<;>simp at hc;done)|(cases ls<;>simp only[cCode]at hc<;>(repeat' split at hc)<;>simp at hc;done)
 | block h1 i1=>
  obtain⟨n1,i1⟩:=i1
  refine⟨n1,fun N cd ls ls' hc γ w ac hh hf=>?_⟩
  cases cd<;>(try simp only[cCode]at hc)<;>try (simp at hc;done)
  case block id x=>
   split at hc
   ·rename_i sx ls1 hx
    simp only[Option.some.injEq,Prod.mk.injEq,SCode.block.injEq]at hc
    obtain⟨⟨rfl,rfl⟩,rfl⟩:=hc
    exact⟨wp_block (Code.wp_mono (fun e' a' w' hp=>exit_block hp) (i1 N x ls ls1 hx γ w ac hh hf).1),fun b e=>by simp at e⟩
   ·simp at hc
  all_goals first|((repeat' split at hc)<;>simp at hc;done)|(cases ls<;>simp only[cCode]at hc<;>(repeat' split at hc)<;>simp at hc;done)
 | loopN h1 h2 i1 i2=>
  rename_i live a F F1 h hh1 r
  cases r with
  | ops=>trivial
  | val=>trivial
  | code e F2 h2'=>
   obtain⟨n1,i1⟩:=i1
   obtain⟨n2,i2⟩:=i2
   refine⟨Nat.le_trans n1 n2,fun N cd ls ls' hc γ w ac hh hf=>?_⟩
   cases cd<;>(try simp only[cCode]at hc)<;>try (simp at hc;done)
   case loop x=>
    have hc0:=hc
    cases ls with
    | nil=>simp[cCode]at hc
    | cons l0 ls0=>
     simp only[cCode]at hc
     split at hc
     ·rename_i sx ls1 hx
      simp only[Option.some.injEq,Prod.mk.injEq,SCode.loop.injEq]at hc
      obtain⟨⟨rfl,rfl⟩,rfl⟩:=hc
      have key:LoopWp C.P x (Post C γ h N e F2 h2') ac w:=by
       refine LoopWp.round (Code.wp_mono ?_ (i1 N x ls0 ls1 hx γ w ac hh (hf.keep _)).1)
       intro e' a' w' hp
       obtain⟨rfl,γ',g1,g2,g3⟩:=hp
       have:=(i2 N (.loop x) _ _ hc0 γ' w' a' g2 g3).2 x rfl
       intro b k cs
       obtain⟨e3,a3,w3,q3,r3⟩:=this b k cs
       exact⟨e3,a3,w3,Post.mono g1 q3,r3⟩
      exact⟨key.wp,fun b eb=>by simp only[Code.loop.injEq]at eb;subst eb;exact key⟩
     ·simp at hc
   all_goals first|((repeat' split at hc)<;>simp at hc;done)|(cases ls<;>simp only[cCode]at hc<;>(repeat' split at hc)<;>simp at hc;done)
 | loopE h1 hne i1=>
  rename_i live a F F1 h hh1 e
  obtain⟨n1,i1⟩:=i1
  refine⟨n1,fun N cd ls ls' hc γ w ac hh hf=>?_⟩
  cases cd<;>(try simp only[cCode]at hc)<;>try (simp at hc;done)
  case loop x=>
   cases ls with
   | nil=>simp[cCode]at hc
   | cons l0 ls0=>
    simp only[cCode]at hc
    split at hc
    ·rename_i sx ls1 hx
     simp only[Option.some.injEq,Prod.mk.injEq,SCode.loop.injEq]at hc
     obtain⟨⟨rfl,rfl⟩,rfl⟩:=hc
     have key:LoopWp C.P x (Post C γ h N e F1 hh1) ac w:=by
      refine LoopWp.round (Code.wp_mono ?_ (i1 N x ls0 ls1 hx γ w ac hh (hf.keep _)).1)
      intro e' a' w' hp
      obtain⟨rfl,g⟩:=hp
      cases e with
      | normal=>exact absurd rfl hne
      | ret=>exact⟨rfl,g⟩
      | exit id=>exact⟨rfl,g⟩
     exact⟨key.wp,fun b eb=>by simp only[Code.loop.injEq]at eb;subst eb;exact key⟩
    ·simp at hc
  all_goals first|((repeat' split at hc)<;>simp at hc;done)|(cases ls<;>simp only[cCode]at hc<;>(repeat' split at hc)<;>simp at hc;done)
 | reg h1 i1=>
  obtain⟨n1,i1⟩:=i1
  refine⟨n1,fun N cd ls ls' hc γ w ac hh hf=>?_⟩
  cases cd<;>(try simp only[cCode]at hc)<;>try (simp at hc;done)
  case region id ops draw=>
   cases ls with
   | nil=>simp[cCode]at hc
   | cons lv ls=>
   simp only[cCode]at hc
   split at hc
   ·rename_i l hl
    cases draw with
    | true=>
     simp only[if_true]at hc
     (repeat' split at hc)<;>simp at hc
    | false=>
     simp only[Bool.false_eq_true,if_false,Option.some.injEq,Prod.mk.injEq,SCode.reg.injEq]at hc
     obtain⟨⟨rfl,rfl⟩,rfl⟩:=hc
     exact⟨wp_region_list (i1 N ops ops.toList hl γ w ac _ hh hf fun γ' w' a' g1 g2 g3=>⟨rfl,γ',g1,g2,g3.keep _⟩),fun b e=>by simp at e⟩
   ·simp at hc
  all_goals first|((repeat' split at hc)<;>simp at hc;done)|(cases ls<;>simp only[cCode]at hc<;>(repeat' split at hc)<;>simp at hc;done)
 | qreg h1 i1=>
  obtain⟨e1,i1⟩:=i1
  subst e1
  refine⟨Nat.le_refl _,fun N cd ls ls' hc γ w ac hh hf=>?_⟩
  cases cd<;>(try simp only[cCode]at hc)<;>try (simp at hc;done)
  case region id ops draw=>
   cases ls with
   | nil=>simp[cCode]at hc
   | cons lv ls=>
   simp only[cCode]at hc
   split at hc
   ·rename_i l hl
    cases draw with
    | false=>simp at hc
    | true=>
     simp only[if_true]at hc
     split at hc
     ·simp at hc
     ·rename_i hm
      split at hc
      ·rename_i l' hsp
       split at hc
       ·rename_i hk
        simp only[Option.some.injEq,Prod.mk.injEq,SCode.qreg.injEq]at hc
        obtain⟨⟨rfl,rfl⟩,rfl⟩:=hc
        simp only[Bool.and_eq_true]at hk
        obtain⟨T,rs',d⟩:=i1 hk.2 N ops [] (by simp)
        have R:Reg C N ops l' [] _ _ _ _ _ _ _ T []:=⟨d,hk.1.1,by simpa using hk.1.2,fun s hs=>((dSplit_src hl).1 _ l' hsp s (by simpa using hs)).comp,rfl,trivial,trivial⟩
        exact⟨Code.wp_mono (fun _ _ _ ⟨k1,γ',k2,k3,k4⟩=>⟨k1,γ',k2,k3,k4.keep _⟩) (draw_wp R (by simpa using hm) hh hf),fun b e=>by simp at e⟩
       ·simp at hc
      ·split at hc<;>simp at hc
      ·simp at hc
   ·simp at hc
  all_goals first|((repeat' split at hc)<;>simp at hc;done)|(cases ls<;>simp only[cCode]at hc<;>(repeat' split at hc)<;>simp at hc;done)
 | dreg h1 i1=>
  obtain⟨n1,i1⟩:=i1
  refine⟨n1,fun N cd ls ls' hc γ w ac hh hf=>?_⟩
  cases cd<;>(try simp only[cCode]at hc)<;>try (simp at hc;done)
  case region id ops draw=>
   cases ls with
   | nil=>simp[cCode]at hc
   | cons lv ls=>
   simp only[cCode]at hc
   split at hc
   ·rename_i l hl
    cases draw with
    | false=>simp at hc
    | true=>
     simp only[if_true]at hc
     split at hc
     ·simp at hc
     ·rename_i hm
      split at hc
      ·split at hc<;>simp at hc
      ·rename_i l' b' hsp
       split at hc
       ·rename_i hk
        simp only[Option.some.injEq,Prod.mk.injEq,SCode.dreg.injEq]at hc
        obtain⟨⟨rfl,rfl,rfl⟩,rfl⟩:=hc
        simp only[Bool.and_eq_true]at hk
        obtain⟨T,hK,Y,rs',fl',ss,d,e1,e2,e3,rfl⟩:=i1 N ops
        have R:Reg C N ops l' b' _ _ _ _ _ _ _ T ss:=⟨d,hk.1,hk.2,fun s hs=>((dSplit_src hl).2 _ l' b' hsp s hs).comp,e1,e2,e3⟩
        exact⟨Code.wp_mono (fun _ _ _ ⟨k1,γ',k2,k3,k4⟩=>⟨k1,γ',k2,k3,k4.keep _⟩) (draw_wp R (by simpa using hm) hh hf),fun b e=>by simp at e⟩
       ·simp at hc
      ·simp at hc
   ·simp at hc
  all_goals first|((repeat' split at hc)<;>simp at hc;done)|(cases ls<;>simp only[cCode]at hc<;>(repeat' split at hc)<;>simp at hc;done)
 | nil=>
  refine⟨Nat.le_refl _,fun N os ol hc γ w a Q hh hf k=>?_⟩
  cases ol with
  | nil=>exact k γ w a (.same (Nat.le_refl _)) hh hf
  | cons o r=>simp only[cOpers]at hc;split at hc<;>simp at hc
 | off hg h1 i1=>
  rename_i s l F h r
  cases r with
  | code=>trivial
  | val=>trivial
  | ops F2 h2=>
   obtain⟨n1,i1⟩:=i1
   refine⟨n1,fun N os ol hc γ w a Q hh hf k=>?_⟩
   obtain⟨o,r,rfl,c1,c2⟩:=cOpers_cons hc
   obtain⟨g1,g2,g3,_⟩:=cOper_parts c1
   refine wpList_off (hf.guard g3 hg) (i1 N os r c2 γ w _ Q hh (by rw[←g1];exact hf.undo (by rw[g1];exact g2)) k)
 | val hg hs h1 i1=>
  rename_i s l F h hh1 v r
  cases r with
  | code=>trivial
  | val=>trivial
  | ops F2 h2=>
   obtain⟨n1,i1⟩:=i1
   have n0:=sop_next hs
   refine⟨Nat.le_trans n0 n1,fun N os ol hc γ w a Q hh hf k=>?_⟩
   obtain⟨o,r,rfl,c1,c2⟩:=cOpers_cons hc
   obtain⟨g1,g2,g3,_⟩:=cOper_parts c1
   refine wpList_on (hf.guard g3 hg) ?_
   obtain⟨v',w',γ',q1,q2,q3,q4⟩:=(good_oper c1 hf.or).all h w hh _ hs
   simp only[Oper.wp,q1,Oper.upon_value]
   refine i1 N os r c2 γ' w' _ Q q3 ?_ fun γ2 w2 a2 z1 z2 z3=>k γ2 w2 a2 (q2.trans z1) z2 z3
   have:=(hf.mono q2.1).put (d:=o.dst) g2 q4
   rwa [←g1]at this ⊢
 | stp hg hs h1 i1=>
  rename_i s l F h hh1 r
  cases r with
  | code=>trivial
  | val=>trivial
  | ops F2 h2=>
   obtain⟨n1,i1⟩:=i1
   have n0:=sop_next hs
   refine⟨Nat.le_trans n0 n1,fun N os ol hc γ w a Q hh hf k=>?_⟩
   obtain⟨o,r,rfl,c1,c2⟩:=cOpers_cons hc
   obtain⟨g1,g2,g3,_⟩:=cOper_parts c1
   refine wpList_on (hf.guard g3 hg) ?_
   obtain⟨w',q1,q2,q3⟩:=(good_oper c1 hf.or).all h w hh _ hs
   simp only[Oper.wp,q1,Oper.upon_skip]
   exact i1 N os r c2 γ w' _ Q q3 (by rw[←g1];exact hf.unput _ _) fun γ2 w2 a2 z1 z2 z3=>k γ2 w2 a2 (GX.trans (.same q2) z1) z2 z3
 | call hg hs h0 h1 i0 i1=>
  rename_i s l F h hh1 f args v r
  cases r with
  | code=>trivial
  | val=>trivial
  | ops F2 h2=>
   obtain⟨n0,i0⟩:=i0
   obtain⟨n1,i1⟩:=i1
   refine⟨Nat.le_trans n0 n1,fun N os ol hc γ w a Q hh hf k=>?_⟩
   obtain⟨o,r,rfl,c1,c2⟩:=cOpers_cons hc
   obtain⟨g1,g2,g3,_⟩:=cOper_parts c1
   refine wpList_on (hf.guard g3 hg) ?_
   obtain⟨args',q1,q2,q3⟩:=(good_oper c1 hf.or).all h w hh _ hs
   simp only[Oper.wp,q1,Oper.upon_enter]
   refine(i0 q3 γ w args' hh q2).mono fun e w'' hd=>?_
   obtain⟨v',γ',rfl,z1,z2,z3⟩:=hd
   refine i1 N os r c2 γ' w'' _ Q z2 ?_ fun γ2 w2 a2 y1 y2 y3=>k γ2 w2 a2 (z1.trans y1) y2 y3
   have:=(hf.mono z1.1).put (d:=o.dst) g2 z3
   rwa [←g1]at this ⊢
 | qnil=>exact⟨rfl,fun _ N os rs hrs=>⟨[],rs,.nil fun x hx _=>hrs x hx⟩⟩
 | qoff hg h1 i1=>
  rename_i s l F h r
  cases r with
  | code=>trivial
  | val=>trivial
  | ops F2 h2=>
   obtain⟨e1,i1⟩:=i1
   refine⟨e1,fun hall N os rs hrs=>?_⟩
   simp only[List.all_cons,Bool.and_eq_true]at hall
   obtain⟨T,rs',d⟩:=i1 hall.2 N os rs hrs
   exact⟨_,rs',.free (val:=none) (by simp[SOper.moves,hall.1]) (fun h'=>ex_off hg h') d⟩
 | qval hg hs h1 i1=>
  rename_i s l F h v r
  cases r with
  | code=>trivial
  | val=>trivial
  | ops F2 h2=>
   obtain⟨e1,i1⟩:=i1
   refine⟨e1,fun hall N os rs hrs=>?_⟩
   simp only[List.all_cons,Bool.and_eq_true]at hall
   cases hq:s.op.quiet with
   | true=>
    obtain⟨T,rs',d⟩:=i1 hall.2 N os rs hrs
    exact⟨_,rs',.free (val:=some v) (by simp[SOper.moves,hall.1]) (fun h'=>ex_quiet hg hq hs h') d⟩
   | false=>
    obtain⟨T,rs',d⟩:=i1 hall.2 N os (⟨s.id,s.op,F.keep s.uses,v,s.hi⟩::rs) (by
     intro x hx
     rcases List.mem_cons.1 hx with rfl|hx
     ·exact hs
     ·exact hrs x hx)
    exact⟨_,rs',.still hall.1 hq hg (by simp) d⟩
 | dnil hr he hk hx=>
  rename_i batch F h past rs fl ss
  exact⟨by rw[foldl_put_next];exact Nat.le_refl _,fun N os=>⟨[],h,[h],rs,fl,ss,.nil hr,he,hk,hx,rfl⟩⟩
 | doff hm hg h1 i1=>
  rename_i s l batch F h past rs fl r
  cases r with
  | code=>trivial
  | val=>trivial
  | ops F2 h2=>
   obtain⟨n1,i1⟩:=i1
   refine⟨n1,fun N os=>?_⟩
   obtain⟨T,hK,Y,rs',fl',ss,d,rest⟩:=i1 N os
   exact⟨_,hK,Y,rs',fl',ss,.free (val:=none) hm (fun h'=>ex_off hg h') d,rest⟩
 | dquiet hq hg hs h1 i1=>
  rename_i s l batch F h past rs fl v r
  cases r with
  | code=>trivial
  | val=>trivial
  | ops F2 h2=>
   obtain⟨n1,i1⟩:=i1
   refine⟨n1,fun N os=>?_⟩
   obtain⟨T,hK,Y,rs',fl',ss,d,rest⟩:=i1 N os
   have hm:s.moves=false:=by
    have:s.op.still=true:=by cases hop:s.op<;>rw[hop]at hq<;>first|rfl|simp[SOp.quiet]at hq
    simp[SOper.moves,this]
   exact⟨_,hK,Y,rs',fl',ss,.free (val:=some v) hm (fun h'=>ex_quiet hg hq hs h') d,rest⟩
 | dstill hst hq hg hs hp h1 i1=>
  rename_i s l batch F h past rs fl v r
  cases r with
  | code=>trivial
  | val=>trivial
  | ops F2 h2=>
   obtain⟨n1,i1⟩:=i1
   refine⟨n1,fun N os=>?_⟩
   obtain⟨T,hK,Y,rs',fl',ss,d,rest⟩:=i1 N os
   exact⟨_,hK,Y,rs',fl',ss,.still hst hq hg hp d,rest⟩
 | dfloat hf hg hs h1 i1=>
  rename_i s l batch F h past rs fl v blk r
  cases r with
  | code=>trivial
  | val=>trivial
  | ops F2 h2=>
   obtain⟨n1,i1⟩:=i1
   refine⟨by rw[AH.alloc_next]at n1;omega,fun N os=>?_⟩
   obtain⟨T,hK,Y,rs',fl',ss,d,rest⟩:=i1 N os
   exact⟨_,hK,Y,rs',fl',ss,.float hf (ex_float hg hf hs) d,rest⟩
 | dval hm hgn hr hs hu h1 i1=>
  rename_i s l batch F h hh1 past rs fl v r
  cases r with
  | code=>trivial
  | val=>trivial
  | ops F2 h2=>
   obtain⟨n1,i1⟩:=i1
   have n0:=sop_next hs
   refine⟨Nat.le_trans n0 n1,fun N os=>?_⟩
   obtain⟨T,hK,Y,rs',fl',ss,d,rest⟩:=i1 N os
   exact⟨_,hK,h::Y,rs',fl',ss,.moves (val:=some v) hm hr (ex_val hgn hs) n0 hu d,rest⟩
 | dstp hm hgn hr hs hu h1 i1=>
  rename_i s l batch F h hh1 past rs fl r
  cases r with
  | code=>trivial
  | val=>trivial
  | ops F2 h2=>
   obtain⟨n1,i1⟩:=i1
   have n0:=sop_next hs
   refine⟨Nat.le_trans n0 n1,fun N os=>?_⟩
   obtain⟨T,hK,Y,rs',fl',ss,d,rest⟩:=i1 N os
   exact⟨_,hK,h::Y,rs',fl',ss,.moves (val:=none) hm hr (ex_skip hgn hs) n0 hu d,rest⟩
 | dskip hm hgn hr hu h1 i1=>
  rename_i s l batch F h past rs fl r
  cases r with
  | code=>trivial
  | val=>trivial
  | ops F2 h2=>
   obtain⟨n1,i1⟩:=i1
   refine⟨n1,fun N os=>?_⟩
   obtain⟨T,hK,Y,rs',fl',ss,d,rest⟩:=i1 N os
   exact⟨_,hK,h::Y,rs',fl',ss,.moves (val:=none) hm hr (ex_off hgn h) (Nat.le_refl _) hu d,rest⟩
 | doffU hm hg h1 i1=>
  rename_i s l batch F h past rs fl r
  cases r with
  | code=>trivial
  | val=>trivial
  | ops F2 h2=>
   obtain⟨n1,i1⟩:=i1
   refine⟨n1,fun N os=>?_⟩
   obtain⟨T,hK,Y,rs',fl',ss,d,rest⟩:=i1 N os
   exact⟨_,hK,Y,rs',fl',ss,.free (val:=some (.tuple #[])) hm (fun h'=>ex_offU hg h') d,rest⟩
 | dskipU hm hgn hr hu h1 i1=>
  rename_i s l batch F h past rs fl r
  cases r with
  | code=>trivial
  | val=>trivial
  | ops F2 h2=>
   obtain⟨n1,i1⟩:=i1
   refine⟨n1,fun N os=>?_⟩
   obtain⟨T,hK,Y,rs',fl',ss,d,rest⟩:=i1 N os
   exact⟨_,hK,h::Y,rs',fl',ss,.moves (val:=some (.tuple #[])) hm hr (ex_offU hgn h) (Nat.le_refl _) hu d,rest⟩
 | dcall hm hgn hr hs h0 hu h1 i0 i1=>
  rename_i s l batch F h hh1 past rs fl f args v r
  cases r with
  | code=>trivial
  | val=>trivial
  | ops F2 h2=>
   obtain⟨n0,i0⟩:=i0
   obtain⟨n1,i1⟩:=i1
   refine⟨Nat.le_trans n0 n1,fun N os=>?_⟩
   obtain⟨T,hK,Y,rs',fl',ss,d,rest⟩:=i1 N os
   exact⟨_,hK,h::Y,rs',fl',ss,.moves (val:=some v) hm hr (ex_call hgn hs fun γ w args' hL=>i0 hL γ w args') n0 hu d,rest⟩
 | enter hn h1 he hv i1=>
  rename_i f args F1 h hh1 e vs
  obtain⟨n1,i1⟩:=i1
  refine⟨n1,fun hL γ w args' hh hargs=>?_⟩
  rcases tab f hL with⟨fn,ls,hfn,hc⟩|⟨k,hk,_⟩
  case inr=>rw[hk]at h1;exact absurd rfl (no_native h1 _ _ _)
  unfold cFunc at hc
  split at hc
  ·rename_i cd hbody
   split at hc
   ·rename_i sc rsl hcode hres
    split at hc
    ·rename_i hsz
     simp only[Option.some.injEq]at hc
     rw[←hc]at hn h1 hv i1
     simp only at hn h1 hv i1
     have hal:args'.size=fn.params.size+fn.nfree:=by rw[←Array.length_toList,←hargs.length,hn]
     have hf:FR C γ fn.ntmps (Fr.from 0 args) { tmps:=args'++Array.replicate (fn.ntmps-args'.size) undef,defers:=[] }:=by
      refine⟨by simp;omega,rfl,fun t v ht=>?_⟩
      obtain⟨v',q1,q2⟩:=hargs.get (from_get ht)
      refine⟨v',?_,q2⟩
      have hlt:t<args'.size:=by
       have:=(List.getElem?_eq_some_iff.1 q1).1
       simpa using this
      rw[Array.getElem?_append_left hlt]
      simpa using q1
     refine calls_of_wp hfn hbody (Code.wp_mono ?_ (i1 fn.ntmps cd ls [] hcode γ w _ hh hf).1)
     intro e' a' w' hp
     obtain⟨rfl,γ',z1,z2,z3⟩:=hp
     obtain⟨vs',r1,r2⟩:=results_run z2 z3 hres hv
     have hrun:(results fn a'.tmps).run C.P w'=.ok (if hh:vs'.toArray.size=1 then vs'.toArray[0]else .tuple vs'.toArray) w':=by
      simp only[results,Sem.run_bind]
      rw[mapM_arr (fun x=>by cases x<;>rfl) r1]
      rfl
     have hpost:a'.defers=[]∧∃v,(results fn a'.tmps).run C.P w'=.ok v w'∧Called C γ h (oneOf vs) hh1 (.returned v) w':=⟨z3.defers,_,hrun,_,γ',rfl,z1,z2,oneOf_VR r2⟩
     rcases he with rfl|rfl
     ·exact hpost
     ·exact hpost
    ·simp at hc
   ·simp at hc
  ·simp at hc
 | native hb hv=>
  rename_i f k args h v
  refine⟨Nat.le_refl _,fun hL γ w args' hh hargs=>?_⟩
  rcases tab f hL with⟨fn,ls,hfn,hc⟩|⟨k',hk,ok⟩
  ·exact absurd hb (cFunc_native hc)
  ·rw[hb]at hk
   simp only[SCode.native.injEq]at hk
   subst hk
   exact ok.1 h γ w args args' v hv hh hargs
 | nativeA hb hv=>
  rename_i f k args h h1 v
  refine⟨natHeap_next hv,fun hL γ w args' hh hargs=>?_⟩
  rcases tab f hL with⟨fn,ls,hfn,hc⟩|⟨k',hk,ok⟩
  ·exact absurd hb (cFunc_native hc)
  ·rw[hb]at hk
   simp only[SCode.native.injEq]at hk
   subst hk
   exact ok.2 h γ w args args' v h1 hv hh hargs
 | qoffU hg h1 i1=>
  rename_i s l F h r
  cases r with
  | code=>trivial
  | val=>trivial
  | ops F2 h2=>
   obtain⟨e1,i1⟩:=i1
   refine⟨e1,fun hall N os rs hrs=>?_⟩
   simp only[List.all_cons,Bool.and_eq_true]at hall
   obtain⟨T,rs',d⟩:=i1 hall.2 N os rs hrs
   exact⟨_,rs',.free (val:=some (.tuple #[])) (by simp[SOper.moves,hall.1]) (fun h'=>ex_offU hg h') d⟩
 | gcC h1 V hv i1=>
  obtain⟨n1,i1⟩:=i1
  exact⟨V.lo,fun hL γ w args' hh hargs=>Calls.mono (i1 hL γ w args' hh hargs) fun e w' k=>Called.view hh hargs k V hv⟩
 | gcB h1 V hv i1=>
  obtain⟨n1,i1⟩:=i1
  refine⟨V.lo,fun N cd ls ls' hc γ w a hh hf=>?_⟩
  obtain⟨k1,k2⟩:=i1 N cd ls ls' hc γ w a hh hf
  refine⟨Code.wp_mono (fun e' a' w' k=>Post.view hh hf k V hv) k1,fun body eb b k cs=>?_⟩
  obtain⟨e',a',w',q,arr⟩:=k2 body eb b k cs
  exact⟨e',a',w',Post.view hh hf q V hv,arr⟩
end
end Go.Jq
namespace Go.Jq
def getv(o:Option Value)(h:AH)(K:Value→AH→Prop):Prop:=match o with|some v=>K v h|none=>False
def geth(o:Option AH)(K:AH→Prop):Prop:=match o with|some h=>K h|none=>False
def getvh(o:Option (Value×AH))(K:Value→AH→Prop):Prop:=match o with|some x=>K x.1 x.2|none=>False
def getc(o:Option (Nat×List Value))(K:Nat→List Value→Prop):Prop:=match o with|some x=>K x.1 x.2|none=>False
section
variable {h h1:AH} {K:Value→AH→Prop} {v:Value} {c:Prop} [Decidable c]
@[simp] theorem getv_some:getv (some v) h K=K v h:=rfl
@[simp] theorem getv_none:getv none h K=False:=rfl
@[simp] theorem getv_ite {o:Option Value}:getv (if c then o else none) h K=(c∧getv o h K):=by
 by_cases hc:c<;>simp[hc]
@[simp] theorem getv_ite' {o:Option Value}:getv (if c then none else o) h K=(¬c∧getv o h K):=by
 by_cases hc:c<;>simp[hc]
@[simp] theorem geth_some {K:AH→Prop}:geth (some h) K=K h:=rfl
@[simp] theorem geth_none {K:AH→Prop}:geth none K=False:=rfl
@[simp] theorem geth_ite {K:AH→Prop} {o:Option AH}:geth (if c then o else none) K=(c∧geth o K):=by
 by_cases hc:c<;>simp[hc]
@[simp] theorem getvh_some:getvh (some (v,h)) K=K v h:=rfl
@[simp] theorem getvh_none:getvh none K=False:=rfl
@[simp] theorem getvh_ite {o:Option (Value×AH)}:getvh (if c then o else none) K=(c∧getvh o K):=by
 by_cases hc:c<;>simp[hc]
@[simp] theorem getvh_ite' {o:Option (Value×AH)}:getvh (if c then none else o) K=(¬c∧getvh o K):=by
 by_cases hc:c<;>simp[hc]
@[simp] theorem getc_some {K:Nat→List Value→Prop} {f:Nat} {l:List Value}:getc (some (f,l)) K=K f l:=rfl
@[simp] theorem getc_none {K:Nat→List Value→Prop}:getc none K=False:=rfl
theorem bind_ite{α β:Type}{x:Option α}{f:α→Option β}:(if c then x else none).bind f=if c then x.bind f else none:=by
 by_cases hc:c<;>simp[hc]
theorem map_ite{α β:Type}{x:Option α}{f:α→β}:(if c then x else none).map f=if c then x.map f else none:=by
 by_cases hc:c<;>simp[hc]
end
def pickB:Option Value→Option Value→Option Value→Option Value
 | some (.bool t),some x,some y=>some (if t then x else y)
 | some (.bool true),some x,none=>some x
 | some (.bool false),none,some y=>some y
 | _,_,_=>none
def boxB(h:AH)(x:Option Value):Option (Value×AH):=(x.bind vcells).map fun cs=>(.pointer (some ⟨h.next,0,none⟩),h.alloc (.cells cs false false))
def buildB(zs:List Value)(ps:Option (List (Nat×Nat×Value))):Option Value:=(ps.bind fun l=>sfill l zs).map fun cs=>.agg cs.toArray
def mksliceB(h:AH)(n:Nat)(zs:List Value)(ps:Option (List (Nat×Nat×Value))):Option (Value×AH):=
 (ps.bind fun l=>sfill l zs).map fun cs=>(.slice (some ⟨h.next,0,none⟩) n n,h.alloc (.cells cs false false))
def load1B(h:AH)(a:Option Value):Option Value:=(a.bind ptr).bind fun p=>h.load1 p.1 p.2
def loadNB(h:AH)(n:Nat)(a:Option Value):Option Value:=(a.bind ptr).bind fun p=>(h.load p.1 p.2 n).map fun cs=>.agg cs.toArray
def one1:List Value→Option Value
 | [u]=>some u
 | _=>none
def store1B(h:AH)(a x:Option Value):Option AH:=(a.bind ptr).bind fun p=>((x.bind vcells).bind one1).bind fun u=>h.store1 p.1 p.2 u
def storeNB(h:AH)(n:Nat)(a x:Option Value):Option AH:=(a.bind ptr).bind fun p=>(x.bind vcells).bind fun cs=>if cs.length=n then h.store p.1 p.2 cs else none
def nilchkB:Option Value→Option Value
 | some (.pointer (some a))=>some (.pointer (some a))
 | _=>none
def binB(op:BinOp):Option Value→Option Value→Option Value
 | some a,some b=>sbin op a b
 | _,_=>none
def eqBB(neg:Bool):Option Value→Option Value→Option Value
 | some (.bool a),some (.bool b)=>some (.bool (if neg then !(a == b)else(a == b)))
 | _,_=>none
def eqNB(neg:Bool)(ks:List Nat):Option Value→Option Value→Option Value
 | some (.agg a),some (.agg b)=>(cellsEq ks a.toList b.toList).map fun t=>.bool (if neg then !t else t)
 | _,_=>none
def isnilB(k:Nat)(neg:Bool)(x:Option Value):Option Value:=(x.bind (snil k)).map fun t=>.bool (if neg then !t else t)
def unB(op:UnOp):Option Value→Option Value
 | some a=>sun op a
 | none=>none
def convB(k:IntKind):Option Value→Option Value
 | some (.int _ n)=>some (.int k (k.wrap n))
 | _=>none
def mkfuncB(f:Nat):Option (List Value)→Option (List Value)→Option Value
 | some a,some b=>some (.func (.func f) a.toArray b.toArray)
 | _,_=>none
def mkrowB(h:AH)(size bytes:Nat)(zs:List Value):Option Value→Option Value→Option (Value×AH)
 | some (.int _ l),some (.int _ c)=>
   if 0≤l∧l≤c∧c*bytes≤70368744177664∧c≤70368744177664∧zs.length=size then
    some (.slice (some ⟨h.next,0,none⟩) l.toNat c.toNat,h.alloc (.cells (List.replicate c.toNat zs).flatten false false))
   else none
 | _,_=>none
def slstrB:Option Value→Option (Option Value)→Option (Option Value)→Option Value
 | some (.string s),some lo,some hi=>(sbounds s.size s.size lo hi none).map fun x=>.string (s.extract x.1 x.2.1)
 | _,_,_=>none
def slslB(size:Nat):Option Value→Option (Option Value)→Option (Option Value)→Option (Option Value)→Option Value
 | some (.slice a len cap),some lo,some hi,some mx=>sslice size a len cap lo hi mx
 | _,_,_,_=>none
def slarrB(n size:Nat):Option (Nat×Nat)→Option (Option Value)→Option (Option Value)→Option (Option Value)→Option Value
 | some (b,o),some lo,some hi,some mx=>sslice size (some ⟨b,o,none⟩) n n lo hi mx
 | _,_,_,_=>none
def fldB(off:Nat):Option (Nat×Nat)→Option Value
 | some (b,o)=>some (.pointer (some ⟨b,o+off,none⟩))
 | none=>none
def idxSB(size:Nat):Option Value→Option Value→Option Value
 | some (.slice (some a) len _),some (.int _ i)=>if 0≤i∧i<len then some (.pointer (some ⟨a.block,a.off+i.toNat*size,none⟩))else none
 | _,_=>none
def idxAB(n size:Nat):Option (Nat×Nat)→Option Value→Option Value
 | some (b,o),some (.int _ i)=>if 0≤i∧i<n then some (.pointer (some ⟨b,o+i.toNat*size,none⟩))else none
 | _,_=>none
def idxV1B(n:Nat):Option Value→Option Value→Option Value
 | some (.agg cs),some (.int _ i)=>if 0≤i∧i<n then cs.toList[i.toNat]? else none
 | _,_=>none
def idxVNB(n size:Nat):Option Value→Option Value→Option Value
 | some (.agg cs),some (.int _ i)=>if 0≤i∧i<n then some (.agg ((cs.toList.drop (i.toNat*size)).take size).toArray)else none
 | _,_=>none
def idxTB:Option Value→Option Value→Option Value
 | some (.string s),some (.int _ i)=>if 0≤i then(s.data.toList[i.toNat]?).map fun b=>.int .u8 b.toNat else none
 | _,_=>none
def part1B(off:Nat):Option Value→Option Value
 | some (.agg cs)=>cs.toList[off]?
 | _=>none
def partNB(off n:Nat):Option Value→Option Value
 | some (.agg cs)=>some (.agg ((cs.toList.drop off).take n).toArray)
 | _=>none
def extrB(i:Nat):Option Value→Option Value
 | some (.tuple vs)=>vs.toList[i]?
 | _=>none
def callvB:Option Value→Option (List Value)→Option (Nat×List Value)
 | some (.func (.func f) first caps),some l=>some (f,first.toList++(l++caps.toList))
 | _,_=>none
def appendB(h:AH)(size bytes:Nat):Option Value→Option Value→Option (Value×AH)
 | some a,some b=>sappend h size bytes a b
 | _,_=>none
def copyB(h:AH)(size:Nat):Option Value→Option Value→Option (Value×AH)
 | some a,some b=>scopy h size a b
 | _,_=>none
def lenSB:Option Value→Option Value
 | some (.slice _ n _)=>some (.int .i64 n)
 | _=>none
def lenTB:Option Value→Option Value
 | some (.string s)=>some (.int .i64 s.size)
 | _=>none
def lenMB(h:AH):Option Value→Option Value
 | some (.map none)=>some (.int .i64 0)
 | some (.map (some r))=>match h.get r with
   | .map es _=>some (.int .i64 es.length)
   | _=>none
 | _=>none
def markB(h:AH):Option Value→Option Value
 | some (.slice (some a) n c)=>match h.get a.block with
  | .cells _ _ false=>some (.slice (some a) n c)
  | _=>none
 | _=>none
def tostrB:Option Value→Option Value
 | some (.int _ n)=>some (.string (Utf8.encode n))
 | _=>none
def clearB(h:AH)(zs:List Value):Option Value→Option (Value×AH)
 | some (.slice (some a) n _)=>if n=0 then none else match h.store a.block a.off (Builtin.zeroCells zs.toArray n).toList with
  | some h'=>some (.tuple #[],h')
  | none=>none
 | _=>none
def bstrB(h:AH):Option Value→Option Value
 | some (.slice (some a) n _)=>if n=0 then none else((h.load a.block a.off n).bind bytesV).map fun bs=>.string ⟨bs.toArray⟩
 | _=>none
def mmB(mx:Bool):Option (List Value)→Option Value
 | some (x::r)=>smm mx x r
 | _=>none
def wop(op:SOp)(ρ:SOpd→Option Value)(h:AH)(kv:Value→AH→Prop)(ks:AH→Prop)(kc:Nat→List Value→Prop):Prop:=
 match op with
 | .bad=>False
 | .mov x=>getv (ρ x) h kv
 | .pick c a b=>getv (pickB (ρ c) (ρ a) (ρ b)) h kv
 | .alloc zs=>kv (.pointer (some ⟨h.next,0,none⟩)) (h.alloc (.cells zs false false))
 | .box x=>getvh (boxB h (ρ x)) kv
 | .build zs ps=>getv (buildB zs (vparts ρ ps)) h kv
 | .mkslice n zs ps=>getvh (mksliceB h n zs (vparts ρ ps)) kv
 | .load1 a=>getv (load1B h (ρ a)) h kv
 | .loadN n a=>getv (loadNB h n (ρ a)) h kv
 | .store1 a x=>geth (store1B h (ρ a) (ρ x)) ks
 | .storeN n a x=>geth (storeNB h n (ρ a) (ρ x)) ks
 | .nilchk x=>getv (nilchkB (ρ x)) h kv
 | .bin op x y=>getv (binB op (ρ x) (ρ y)) h kv
 | .eqB neg x y=>getv (eqBB neg (ρ x) (ρ y)) h kv
 | .eqN neg ks' x y=>getv (eqNB neg ks' (ρ x) (ρ y)) h kv
 | .isnil k neg x=>getv (isnilB k neg (ρ x)) h kv
 | .un op x=>getv (unB op (ρ x)) h kv
 | .conv k x=>getv (convB k (ρ x)) h kv
 | .mkfunc f a b=>getv (mkfuncB f (vals ρ a) (vals ρ b)) h kv
 | .mkmap=>kv (.map (some h.next)) (h.alloc (.map [] 0))
 | .mkrow size bytes zs l c=>getvh (mkrowB h size bytes zs (ρ l) (ρ c)) kv
 | .slstr x lo hi=>getv (slstrB (ρ x) (optVal ρ lo) (optVal ρ hi)) h kv
 | .slsl size x lo hi mx=>getv (slslB size (ρ x) (optVal ρ lo) (optVal ρ hi) (optVal ρ mx)) h kv
 | .slarr n size a lo hi mx=>getv (slarrB n size ((ρ a).bind ptr) (optVal ρ lo) (optVal ρ hi) (optVal ρ mx)) h kv
 | .fld off a=>getv (fldB off ((ρ a).bind ptr)) h kv
 | .idxS size x i=>getv (idxSB size (ρ x) (ρ i)) h kv
 | .idxA n size a i=>getv (idxAB n size ((ρ a).bind ptr) (ρ i)) h kv
 | .idxV1 n x i=>getv (idxV1B n (ρ x) (ρ i)) h kv
 | .idxVN n size x i=>getv (idxVNB n size (ρ x) (ρ i)) h kv
 | .idxT x i=>getv (idxTB (ρ x) (ρ i)) h kv
 | .part1 off x=>getv (part1B off (ρ x)) h kv
 | .partN off n x=>getv (partNB off n (ρ x)) h kv
 | .extr x i=>getv (extrB i (ρ x)) h kv
 | .call f args=>getc ((vals ρ args).map (f,·)) kc
 | .callv f args=>getc (callvB (ρ f) (vals ρ args)) kc
 | .append size bytes x y=>getvh (appendB h size bytes (ρ x) (ρ y)) kv
 | .copy size x y=>getvh (copyB h size (ρ x) (ρ y)) kv
 | .lenS x=>getv (lenSB (ρ x)) h kv
 | .lenT x=>getv (lenTB (ρ x)) h kv
 | .lenM x=>getv (lenMB h (ρ x)) h kv
 | .mm mx xs=>getv (mmB mx (vals ρ xs)) h kv
 | .mark x=>getv (markB h (ρ x)) h kv
 | .clear zs x=>getvh (clearB h zs (ρ x)) kv
 | .tostr x=>getv (tostrB (ρ x)) h kv
 | .bstr x=>getv (bstrB h (ρ x)) h kv
def outK(kv:Value→AH→Prop)(ks:AH→Prop)(kc:Nat→List Value→Prop):Out→Prop
 | .val v h=>kv v h
 | .skip h=>ks h
 | .call f args=>kc f args
theorem getv_inv{o:Option Value}{h:AH}{K:Value→AH→Prop}(H:getv o h K):∃v,o=some v∧K v h:=by
 cases o with
 | none=>exact H.elim
 | some v=>exact⟨v,rfl,H⟩
theorem geth_inv{o:Option AH}{K:AH→Prop}(H:geth o K):∃h,o=some h∧K h:=by
 cases o with
 | none=>exact H.elim
 | some v=>exact⟨v,rfl,H⟩
theorem getvh_inv{o:Option (Value×AH)}{K:Value→AH→Prop}(H:getvh o K):∃v h,o=some (v,h)∧K v h:=by
 cases o with
 | none=>exact H.elim
 | some v=>exact⟨v.1,v.2,rfl,H⟩
theorem getc_inv{o:Option (Nat×List Value)}{K:Nat→List Value→Prop}(H:getc o K):∃f l,o=some (f,l)∧K f l:=by
 cases o with
 | none=>exact H.elim
 | some v=>exact⟨v.1,v.2,rfl,H⟩
theorem wop_sop{op:SOp}{ρ:SOpd→Option Value}{h:AH}{kv:Value→AH→Prop}{ks:AH→Prop}{kc:Nat→List Value→Prop}(H:wop op ρ h kv ks kc):
  ∃o,sop op ρ h=some o∧outK kv ks kc o:=by
 cases op<;>simp only[wop]at H<;>try (exact H.elim)
 case alloc=>exact⟨_,rfl,H⟩
 case mkmap=>exact⟨_,rfl,H⟩
 case store1 a x=>
  obtain⟨h',e,H⟩:=geth_inv H
  refine⟨.skip h',?_,H⟩
  simp only[store1B,Option.bind_eq_some_iff]at e
  obtain⟨⟨b,o⟩,⟨p,e1,e2⟩,u,⟨cs,⟨y,e3,e4⟩,e5⟩,e6⟩:=e
  simp only[sop,e1,e3,Option.bind_some,e2,e4]
  match cs,e5 with
  | [u'],e5=>simp only[one1,Option.some.injEq]at e5;subst e5;simp only[e6]
 case storeN n a x=>
  obtain⟨h',e,H⟩:=geth_inv H
  refine⟨.skip h',?_,H⟩
  simp only[storeNB,Option.bind_eq_some_iff]at e
  obtain⟨⟨b,o⟩,⟨p,e1,e2⟩,cs,⟨y,e3,e4⟩,e5⟩:=e
  simp only[sop,e1,e3,Option.bind_some,e2,e4]
  split at e5
  ·rename_i hl;rw[if_pos hl,e5]
  ·simp at e5
 case call f args=>
  obtain⟨f',l,e,H⟩:=getc_inv H
  refine⟨.call f' l,?_,H⟩
  simp only[Option.map_eq_some_iff,Prod.mk.injEq]at e
  obtain⟨l',e1,rfl,rfl⟩:=e
  simp only[sop,e1]
 case callv f args=>
  obtain⟨f',l,e,H⟩:=getc_inv H
  refine⟨.call f' l,?_,H⟩
  simp only[sop]
  revert e
  cases ρ f with
  | none=>simp[callvB]
  | some v=>
   cases vals ρ args with
   | none=>cases v<;>simp[callvB]
   | some a=>
    unfold callvB
    split
    ·rename_i f2 first caps l2 h1 h2
     simp only[Option.some.injEq,Prod.mk.injEq]at h1 h2 ⊢
     subst h1;subst h2
     rintro⟨rfl,rfl⟩
     rfl
    ·simp
 case box x=>
  obtain⟨v,h1,e,H⟩:=getvh_inv H
  refine⟨.val v h1,?_,H⟩
  simp only[sop]
  simp only[boxB,Option.map_eq_some_iff,Option.bind_eq_some_iff,Prod.mk.injEq]at e
  obtain⟨cs,⟨y,e1,e2⟩,rfl,rfl⟩:=e
  simp only[e1,e2]
 case mkslice n zs ps=>
  obtain⟨v,h1,e,H⟩:=getvh_inv H
  refine⟨.val v h1,?_,H⟩
  simp only[sop]
  simp only[mksliceB,Option.map_eq_some_iff,Option.bind_eq_some_iff,Prod.mk.injEq]at e
  obtain⟨cs,⟨y,e1,e2⟩,rfl,rfl⟩:=e
  simp only[e1,e2]
 case mkrow size bytes zs l c=>
  obtain⟨v,h1,e,H⟩:=getvh_inv H
  refine⟨.val v h1,?_,H⟩
  simp only[sop]
  revert e;unfold mkrowB;split
  ·rename_i e1 e2;intro e;rw[e1,e2];simp only;split at e
   ·rename_i hc;rw[if_pos hc];simp only[Option.some.injEq,Prod.mk.injEq]at e;obtain⟨rfl,rfl⟩:=e;rfl
   ·simp at e
  ·simp
 case append size bytes x y=>
  obtain⟨v,h1,e,H⟩:=getvh_inv H
  refine⟨.val v h1,?_,H⟩
  simp only[sop]
  revert e;unfold appendB;split
  ·rename_i e1 e2;intro e;rw[e1,e2];simp only[e]
  ·simp
 case clear zs x=>
  obtain⟨v,h1,e,H⟩:=getvh_inv H
  refine⟨.val v h1,?_,H⟩
  simp only[sop]
  revert e;unfold clearB;split
  ·rename_i e1;rw[e1];simp only;split
   ·simp
   ·split
    ·rename_i e2;intro e;simp only[Option.some.injEq,Prod.mk.injEq]at e;obtain⟨rfl,rfl⟩:=e;simp only[e2]
    ·simp
  ·simp
 case copy size x y=>
  obtain⟨v,h1,e,H⟩:=getvh_inv H
  refine⟨.val v h1,?_,H⟩
  simp only[sop]
  revert e;unfold copyB;split
  ·rename_i e1 e2;intro e;rw[e1,e2];simp only[e]
  ·simp
 all_goals
  obtain⟨v,e,H⟩:=getv_inv H
  refine⟨.val v h,?_,H⟩
  clear H
  simp only[sop]
 case mov=>rw[e]
 case pick c a b=>
  revert e;cases ρ c with
  | none=>simp[pickB]
  | some x=>cases ρ a with
   | none=>cases ρ b with
    | none=>cases x<;>simp[pickB]
    | some z=>cases x<;>simp[pickB];rename_i t;cases t<;>simp[pickB]
   | some y=>cases ρ b with
    | none=>cases x<;>simp[pickB];rename_i t;cases t<;>simp[pickB]
    | some z=>cases x<;>simp[pickB]
 case build zs ps=>
  simp only[buildB,Option.map_eq_some_iff,Option.bind_eq_some_iff]at e
  obtain⟨cs,⟨y,e1,e2⟩,rfl⟩:=e
  simp only[e1,e2]
 case load1 a=>
  simp only[load1B,Option.bind_eq_some_iff]at e
  obtain⟨⟨b,o⟩,⟨p,e1,e2⟩,e3⟩:=e
  simp only[e1,e2,e3,Option.bind_some]
 case loadN n a=>
  simp only[loadNB,Option.bind_eq_some_iff,Option.map_eq_some_iff]at e
  obtain⟨⟨b,o⟩,⟨p,e1,e2⟩,cs,e3,rfl⟩:=e
  simp only[e1,e2,e3,Option.bind_some]
 case nilchk x=>
  revert e;unfold nilchkB;split
  ·rename_i e1;intro e;rw[e1];simp at e;subst e;rfl
  ·simp
 case bin op x y=>
  revert e;unfold binB;split
  ·rename_i e1 e2;intro e;rw[e1,e2];simp only[e]
  ·simp
 case eqB neg x y=>
  revert e;unfold eqBB;split
  ·rename_i e1 e2;intro e;rw[e1,e2];simp only[Option.some.injEq]at e;subst e;rfl
  ·simp
 case eqN neg ks x y=>
  revert e;unfold eqNB;split
  ·rename_i e1 e2;intro e;rw[e1,e2];simp only[Option.map_eq_some_iff]at e;obtain⟨t,e3,rfl⟩:=e;simp only[e3]
  ·simp
 case isnil k neg x=>
  simp only[isnilB,Option.map_eq_some_iff]at e
  obtain⟨t,e1,rfl⟩:=e
  simp only[e1]
 case un op x=>
  revert e;unfold unB;split
  ·rename_i e1;intro e;rw[e1];simp only[e]
  ·simp
 case conv k x=>
  revert e;unfold convB;split
  ·rename_i e1;intro e;rw[e1];simp only[Option.some.injEq]at e;subst e;rfl
  ·simp
 case mkfunc f a b=>
  revert e;unfold mkfuncB;split
  ·rename_i e1 e2;intro e;rw[e1,e2];simp only[Option.some.injEq]at e;subst e;rfl
  ·simp
 case slstr x lo hi=>
  revert e;unfold slstrB;split
  ·rename_i e1 e2 e3;intro e;rw[e1,e2,e3];simp only[Option.map_eq_some_iff]at e;obtain⟨⟨l,h',m⟩,e4,rfl⟩:=e;simp only[e4]
  ·simp
 case slsl size x lo hi mx=>
  revert e;unfold slslB;split
  ·rename_i e1 e2 e3 e4;intro e;rw[e1,e2,e3,e4];simp only[e]
  ·simp
 case slarr n size a lo hi mx=>
  revert e;unfold slarrB;split
  ·rename_i e1 e2 e3 e4;intro e;rw[e1,e2,e3,e4];simp only[e]
  ·simp
 case fld off a=>
  revert e;unfold fldB;split
  ·rename_i e1;intro e;rw[e1];simp only[Option.some.injEq]at e;subst e;rfl
  ·simp
 case idxS size x i=>
  revert e;unfold idxSB;split
  ·rename_i e1 e2;intro e;rw[e1,e2];simp only;split at e
   ·rename_i hc;rw[if_pos hc];simp only[Option.some.injEq]at e;subst e;rfl
   ·simp at e
  ·simp
 case idxA n size a i=>
  revert e;unfold idxAB;split
  ·rename_i e1 e2;intro e;rw[e1,e2];simp only;split at e
   ·rename_i hc;rw[if_pos hc];simp only[Option.some.injEq]at e;subst e;rfl
   ·simp at e
  ·simp
 case idxV1 n x i=>
  revert e;unfold idxV1B;split
  ·rename_i e1 e2;intro e;rw[e1,e2];simp only;split at e
   ·rename_i hc;rw[if_pos hc];simp only[e]
   ·simp at e
  ·simp
 case idxVN n size x i=>
  revert e;unfold idxVNB;split
  ·rename_i e1 e2;intro e;rw[e1,e2];simp only;split at e
   ·rename_i hc;rw[if_pos hc];simp only[Option.some.injEq]at e;subst e;rfl
   ·simp at e
  ·simp
 case idxT x i=>
  revert e;unfold idxTB;split
  ·rename_i e1 e2;intro e;rw[e1,e2];simp only;split at e
   ·rename_i hc;rw[if_pos hc];simp only[Option.map_eq_some_iff]at e;obtain⟨b,e3,rfl⟩:=e;simp only[e3]
   ·simp at e
  ·simp
 case part1 off x=>
  revert e;unfold part1B;split
  ·rename_i e1;intro e;rw[e1];simp only[e]
  ·simp
 case partN off n x=>
  revert e;unfold partNB;split
  ·rename_i e1;intro e;rw[e1];simp only[Option.some.injEq]at e;subst e;rfl
  ·simp
 case extr x i=>
  revert e;unfold extrB;split
  ·rename_i e1;intro e;rw[e1];simp only[e]
  ·simp
 case lenS x=>
  revert e;unfold lenSB;split
  ·rename_i e1;intro e;rw[e1];simp only[Option.some.injEq]at e;subst e;rfl
  ·simp
 case lenT x=>
  revert e;unfold lenTB;split
  ·rename_i e1;intro e;rw[e1];simp only[Option.some.injEq]at e;subst e;rfl
  ·simp
 case lenM x=>
  revert e;unfold lenMB;split
  ·rename_i e1;intro e;rw[e1];simp only[Option.some.injEq]at e;subst e;rfl
  ·rename_i r e1;rw[e1];simp only;split
   ·rename_i e2;intro e;simp only[Option.some.injEq]at e;subst e;simp only[*]
   ·simp
  ·simp
 case mm mx xs=>
  revert e;unfold mmB;split
  ·rename_i e1;intro e;rw[e1];simp only[e]
  ·simp
 case tostr x=>
  revert e;unfold tostrB;split
  ·rename_i e1;intro e;rw[e1];simp only[Option.some.injEq]at e;subst e;rfl
  ·simp
 case bstr x=>
  revert e;unfold bstrB;split
  ·rename_i ad n c e1;rw[e1]
   intro e
   split at e
   ·simp at e
   ·rename_i hn
    simp only[Option.map_eq_some_iff,Option.bind_eq_some_iff]at e
    obtain⟨bs,⟨cs,e2,e3⟩,rfl⟩:=e
    simp only[e2,e3,if_neg hn]
  ·simp
 case mark x=>
  revert e;unfold markB;split
  ·rename_i e1;rw[e1];simp only;split
   ·rename_i e2;intro e;simp only[Option.some.injEq]at e;subst e;simp only[*]
   ·simp
  ·simp
end Go.Jq
namespace Go.Jq
theorem still_out{op:SOp}{ρ:SOpd→Option Value}{h:AH}{o:Out}(hs:op.still=true)(H:sop op ρ h=some o):∃v,o=.val v h:=by
 cases op<;>simp[SOp.still,SOp.quiet]at hs<;>simp only[sop]at H<;>(repeat' split at H)<;>first|(simp only[Option.some.injEq]at H;exact⟨_,H.symm⟩)|simp at H
theorem float_out{op:SOp}{ρ:SOpd→Option Value}{h:AH}{o:Out}(hs:op.float=true)(H:sop op ρ h=some o):∃v blk,o=.val v (h.alloc blk):=by
 cases op<;>simp[SOp.float]at hs<;>simp only[sop]at H<;>(repeat' split at H)<;>first|(simp only[Option.some.injEq]at H;exact⟨_,_,H.symm⟩)|simp at H
section
variable (G:Nat→SFunc)
def WC(f:Nat)(args:List Value)(h:AH)(R:Value→AH→Prop):Prop:=∃v h1,Run G (.call f args h) (.val v h1)∧R v h1
def wguard(t:Option Value)(w:Bool)(k:Bool→Prop):Prop:=match t with|some (.bool b)=>k (b == w)|some (.tuple _)=>k false|_=>False
def gd(F:Fr)(g:Option (Nat×Bool))(k:Bool→Prop):Prop:=match g with|none=>k true|some (t,w)=>wguard (F.get t) w k
def wcond(t:Option Value)(k:Bool→Prop):Prop:=match t with|some (.bool b)=>k b|_=>False
def pick2(t:Bool)(a b:Prop):Prop:=match t with|true=>a|false=>b
def wO:List SOper→Fr→AH→(Fr→AH→Prop)→Prop
 | [],F,h,K=>K F h
 | o::l,F,h,K=>gd F o.guard fun t=>pick2 t
   (wop o.op F.val h (fun v h1=>wO l (F.put o.dst v) h1 K) (fun h1=>wO l (F.unput o.dst) h1 K) (fun f args=>WC G f args h fun v h1=>wO l (F.put o.dst v) h1 K))
   (wO l (F.undo o.dst) h K)
def wQ:List SOper→Fr→AH→(Fr→AH→Prop)→Prop
 | [],F,h,K=>K F h
 | o::l,F,h,K=>gd (F.keep o.uses) o.guard fun t=>pick2 t
   (wop o.op (F.keep o.uses).val h (fun v h1=>h1=h∧wQ l (F.put o.dst v) h K) (fun _=>False) (fun _ _=>False))
   (wQ l (F.put o.dst (.tuple #[])) h K)
def recsOk(n:Nat)(h:AH):List Rec→Prop
 | []=>True
 | r::l=>(n≤r.hi→r.same h)∧recsOk n h l
def stillOk(r:Rec):List AH→Prop
 | []=>True
 | x::l=>r.same x∧stillOk r l
def flOk(dep:List Nat)(h:AH):List (Nat×Nat×ABlk)→Prop
 | []=>True
 | x::l=>(dep.contains x.1=true∨h.get x.2.1=x.2.2)∧flOk dep h l
def getss(o:Option (List St))(K:List St→Prop):Prop:=match o with|some ss=>K ss|none=>False
def wD(batch:List SOper):List SOper→Fr→AH→List AH→List Rec→List (Nat×Nat×ABlk)→(Fr→AH→Prop)→Prop
 | [],F,h,past,rs,fl,K=>recsOk past.length h rs∧getss (stsOf F batch) fun ss=>stsOk h ss∧crossOk rs fl batch ss∧K F (ss.foldl St.put h)
 | o::l,F,h,past,rs,fl,K=>
  match o.moves with
  | true=>gd (F.keep o.uses) o.guard fun t=>recsOk past.length h rs∧pick2 t (wop o.op (F.keep o.uses).val h
    (fun v h1=>flOk o.dep h1 fl∧wD batch l (F.put o.dst v) h1 (h::past) rs fl K)
    (fun h1=>flOk o.dep h1 fl∧wD batch l (F.unput o.dst) h1 (h::past) rs fl K)
    (fun f args=>WC G f args h fun v h1=>flOk o.dep h1 fl∧wD batch l (F.put o.dst v) h1 (h::past) rs fl K))
    (flOk o.dep h fl∧wD batch l (F.put o.dst (.tuple #[])) h (h::past) rs fl K)
  | false=>gd (F.keep o.uses) o.guard fun t=>pick2 t
    (wop o.op (F.keep o.uses).val h
     (fun v h1=>match o.op.float,o.op.quiet with
      | true,_=>wD batch l (F.put o.dst v) h1 past rs ((o.id,h.next,h1.get h.next)::fl) K
      | false,true=>h1=h∧wD batch l (F.put o.dst v) h past rs fl K
      | false,false=>h1=h∧stillOk ⟨o.id,o.op,F.keep o.uses,v,o.hi⟩ (past.take (past.length-o.lo))∧wD batch l (F.put o.dst v) h past (⟨o.id,o.op,F.keep o.uses,v,o.hi⟩::rs) fl K)
     (fun _=>False) (fun _ _=>False))
    (wD batch l (F.put o.dst (.tuple #[])) h past rs fl K)
def thenK(b:Fr→AH→(SExit→Fr→AH→Prop)→Prop)(R:SExit→Fr→AH→Prop):SExit→Fr→AH→Prop
 | .normal,F,h=>b F h R
 | .exit id,F,h=>R (.exit id) F h
 | .ret,F,h=>R .ret F h
def blockK(id:Nat)(R:SExit→Fr→AH→Prop):SExit→Fr→AH→Prop
 | .normal,F,h=>R .normal F h
 | .exit i,F,h=>R (if i=id then .normal else .exit i) F h
 | .ret,F,h=>R .ret F h
def W:SCode→Fr→AH→(SExit→Fr→AH→Prop)→Prop
 | .skip,F,h,R=>R .normal F h
 | .reg live l,F,h,R=>wO G l F h fun F h=>R .normal (F.keep live) h
 | .qreg live l,F,h,R=>wQ l F h fun F h=>R .normal (F.keep live) h
 | .dreg live l b,F,h,R=>wD G b l F h [] [] [] fun F h=>R .normal (F.keep live) h
 | .seq a b,F,h,R=>W a F h (thenK (W b) R)
 | .cond c a b,F,h,R=>wcond (F.val c) fun t=>pick2 t (W a F h R) (W b F h R)
 | .block id a,F,h,R=>W a F h (blockK id R)
 | .loop live a,F,h,R=>∃e F1 h1,Run G (.code (.loop live a) F h) (.code e F1 h1)∧R e F1 h1
 | .exit id,F,h,R=>R (.exit id) F h
 | .ret,F,h,R=>R .ret F h
 | .native _,_,_,_=>False
end
variable {G:Nat→SFunc}
theorem wguard_inv{t:Option Value}{w:Bool}{k:Bool→Prop}(h:wguard t w k):(∃b,t=some (.bool b)∧k (b == w))∨∃vs,t=some (.tuple vs)∧k false:=by
 unfold wguard at h;split at h
 ·exact .inl ⟨_,rfl,h⟩
 ·exact .inr ⟨_,rfl,h⟩
 ·exact h.elim
theorem wcond_inv{t:Option Value}{k:Bool→Prop}(h:wcond t k):∃b,t=some (.bool b)∧k b:=by
 unfold wcond at h;split at h
 ·exact⟨_,rfl,h⟩
 ·exact h.elim
theorem gd_inv{F:Fr}{g:Option (Nat×Bool)}{k:Bool→Prop}(h:gd F g k):∃b,gok F g=some b∧k b:=by
 unfold gd at h;split at h
 ·exact⟨true,rfl,h⟩
 ·rcases wguard_inv h with⟨b,h1,h2⟩|⟨vs,h1,h2⟩
  ·exact⟨_,by simp[gok,h1],h2⟩
  ·exact⟨_,by simp[gok,h1],h2⟩
theorem recsOk_all{n:Nat}{h:AH}{rs:List Rec}(H:recsOk n h rs):∀x∈rs,n≤x.hi→x.same h:=by
 induction rs with
 | nil=>simp
 | cons r l ih=>
  intro x hx
  rcases List.mem_cons.1 hx with rfl|hx
  ·exact H.1
  ·exact ih H.2 x hx
theorem stillOk_all{r:Rec}{l:List AH}(H:stillOk r l):∀x∈l,r.same x:=by
 induction l with
 | nil=>simp
 | cons y l ih=>
  intro x hx
  rcases List.mem_cons.1 hx with rfl|hx
  ·exact H.1
  ·exact ih H.2 x hx
theorem flOk_all{dep:List Nat}{h:AH}{fl:List (Nat×Nat×ABlk)}(H:flOk dep h fl):∀x∈fl,dep.contains x.1=true∨h.get x.2.1=x.2.2:=by
 induction fl with
 | nil=>simp
 | cons y l ih=>
  intro x hx
  rcases List.mem_cons.1 hx with rfl|hx
  ·exact H.1
  ·exact ih H.2 x hx
theorem wO_run{l:List SOper}{F:Fr}{h:AH}{K:Fr→AH→Prop}(H:wO G l F h K):∃F1 h1,Run G (.ops l F h) (.ops F1 h1)∧K F1 h1:=by
 induction l generalizing F h with
 | nil=>exact⟨F,h,.nil,H⟩
 | cons o l ih=>
  obtain⟨t,g,H⟩:=gd_inv H
  cases t with
  | false=>obtain⟨F1,h1,r,k⟩:=ih H;exact⟨F1,h1,.off g r,k⟩
  | true=>
   obtain⟨u,e,H⟩:=wop_sop H
   cases u with
   | val v h'=>obtain⟨F1,h1,r,k⟩:=ih H;exact⟨F1,h1,.val g e r,k⟩
   | skip h'=>obtain⟨F1,h1,r,k⟩:=ih H;exact⟨F1,h1,.stp g e r,k⟩
   | call f args=>obtain⟨v,h',c,H⟩:=H;obtain⟨F1,h1,r,k⟩:=ih H;exact⟨F1,h1,.call g e c r,k⟩
theorem wQ_run{l:List SOper}{F:Fr}{h:AH}{K:Fr→AH→Prop}(H:wQ l F h K):∃F1 h1,Run G (.qops l F h) (.ops F1 h1)∧K F1 h1:=by
 induction l generalizing F h with
 | nil=>exact⟨F,h,.qnil,H⟩
 | cons o l ih=>
  obtain⟨t,g,H⟩:=gd_inv H
  cases t with
  | false=>obtain⟨F1,h1,r,k⟩:=ih H;exact⟨F1,h1,.qoffU g r,k⟩
  | true=>
   obtain⟨u,e,H⟩:=wop_sop H
   cases u with
   | val v h'=>obtain⟨rfl,H⟩:=H;obtain⟨F1,h1,r,k⟩:=ih H;exact⟨F1,h1,.qval g e r,k⟩
   | skip h'=>exact H.elim
   | call f args=>exact H.elim
theorem wD_run{batch l:List SOper}{F:Fr}{h:AH}{past:List AH}{rs:List Rec}{fl:List (Nat×Nat×ABlk)}{K:Fr→AH→Prop}(H:wD G batch l F h past rs fl K):
  ∃F1 h1,Run G (.dops l batch F h past rs fl) (.ops F1 h1)∧K F1 h1:=by
 induction l generalizing F h past rs fl with
 | nil=>
  obtain⟨H1,H2⟩:=H
  unfold getss at H2
  split at H2
  ·rename_i ss hss
   exact⟨_,_,.dnil (recsOk_all H1) hss H2.1 H2.2.1,H2.2.2⟩
  ·exact H2.elim
 | cons o l ih=>
  unfold wD at H
  split at H
  ·rename_i hm
   obtain⟨t,g,H1,H⟩:=gd_inv H
   cases t with
   | false=>obtain⟨H2,H⟩:=H;obtain⟨F1,h1,r,k⟩:=ih H;exact⟨F1,h1,.dskipU hm g (recsOk_all H1) (flOk_all H2) r,k⟩
   | true=>
   obtain⟨u,e,H⟩:=wop_sop H
   cases u with
   | val v h'=>obtain⟨H2,H⟩:=H;obtain⟨F1,h1,r,k⟩:=ih H;exact⟨F1,h1,.dval hm g (recsOk_all H1) e (flOk_all H2) r,k⟩
   | skip h'=>obtain⟨H2,H⟩:=H;obtain⟨F1,h1,r,k⟩:=ih H;exact⟨F1,h1,.dstp hm g (recsOk_all H1) e (flOk_all H2) r,k⟩
   | call f args=>obtain⟨v,h',c,H2,H⟩:=H;obtain⟨F1,h1,r,k⟩:=ih H;exact⟨F1,h1,.dcall hm g (recsOk_all H1) e c (flOk_all H2) r,k⟩
  ·rename_i hm
   obtain⟨t,g,H⟩:=gd_inv H
   cases t with
   | false=>obtain⟨F1,h1,r,k⟩:=ih H;exact⟨F1,h1,.doffU hm g r,k⟩
   | true=>
    obtain⟨u,e,H⟩:=wop_sop H
    cases u with
    | skip h'=>exact H.elim
    | call f args=>exact H.elim
    | val v h'=>
     simp only[outK]at H
     split at H
     ·rename_i _ hf
      obtain⟨v',blk,e'⟩:=float_out hf e
      simp only[Out.val.injEq]at e'
      obtain⟨rfl,rfl⟩:=e'
      simp only[AH.alloc_get,if_true]at H
      obtain⟨F1,h1,r,k⟩:=ih H
      exact⟨F1,h1,.dfloat hf g e r,k⟩
     ·rename_i hf hq
      obtain⟨rfl,H⟩:=H
      obtain⟨F1,h1,r,k⟩:=ih H
      exact⟨F1,h1,.dquiet hq g e r,k⟩
     ·rename_i hf hq
      obtain⟨rfl,H1,H⟩:=H
      obtain⟨F1,h1,r,k⟩:=ih H
      have hst:o.op.still=true:=by simpa[SOper.moves,hf]using hm
      exact⟨F1,h1,.dstill hst hq g e (stillOk_all H1) r,k⟩
theorem W_run{c:SCode}{F:Fr}{h:AH}{R:SExit→Fr→AH→Prop}(H:W G c F h R):∃e F1 h1,Run G (.code c F h) (.code e F1 h1)∧R e F1 h1:=by
 induction c generalizing F h R with
 | skip=>exact⟨_,_,_,.skip,H⟩
 | reg live l=>obtain⟨F1,h1,r,k⟩:=wO_run H;exact⟨_,_,_,.reg r,k⟩
 | qreg live l=>obtain⟨F1,h1,r,k⟩:=wQ_run (G:=G) H;exact⟨_,_,_,.qreg r,k⟩
 | dreg live l b=>obtain⟨F1,h1,r,k⟩:=wD_run H;exact⟨_,_,_,.dreg r,k⟩
 | seq a b ia ib=>
  obtain⟨e,F1,h1,r,k⟩:=ia H
  cases e with
  | normal=>obtain⟨e2,F2,h2,r2,k2⟩:=ib k;exact⟨_,_,_,.seqN r r2,k2⟩
  | exit id=>exact⟨_,_,_,.seqE r (by simp),k⟩
  | ret=>exact⟨_,_,_,.seqE r (by simp),k⟩
 | cond c a b ia ib=>
  obtain⟨t,e,H⟩:=wcond_inv H
  cases t with
  | true=>obtain⟨e2,F2,h2,r2,k2⟩:=ia H;exact⟨_,_,_,.cond e r2,k2⟩
  | false=>obtain⟨e2,F2,h2,r2,k2⟩:=ib H;exact⟨_,_,_,.cond e r2,k2⟩
 | block id a ia=>
  obtain⟨e,F1,h1,r,k⟩:=ia H
  refine⟨_,_,_,.block r,?_⟩
  cases e with
  | normal=>exact k
  | ret=>exact k
  | exit i=>simp only[blockK]at k;by_cases hi:i=id<;>simp[hi]at k ⊢<;>exact k
 | loop live a ia=>exact H
 | exit id=>exact⟨_,_,_,.exit,H⟩
 | ret=>exact⟨_,_,_,.ret,H⟩
 | native k=>exact H.elim
theorem WC_native{f k:Nat}{args:List Value}{h:AH}{v:Value}{R:Value→AH→Prop}(hb:(G f).body=.native k)(hv:natOf k h args=some v)(H:R v h):WC G f args h R:=⟨v,h,.native hb hv,H⟩
theorem WC.mono{f:Nat}{args:List Value}{h:AH}{R R':Value→AH→Prop}(H:WC G f args h R)(k:∀v h1,R v h1→R' v h1):WC G f args h R':=by
 obtain⟨v,h1,r,q⟩:=H;exact⟨v,h1,r,k _ _ q⟩
section
variable (G)
def keepK(live:List Nat)(R:SExit→Fr→AH→Prop)(F:Fr)(h:AH):Prop:=R .normal (F.keep live) h
def putK(l:List SOper)(d:Option Nat)(F:Fr)(K:Fr→AH→Prop)(v:Value)(h:AH):Prop:=wO G l (F.put d v) h K
def skipK(l:List SOper)(d:Option Nat)(F:Fr)(K:Fr→AH→Prop)(h:AH):Prop:=wO G l (F.unput d) h K
def callK(h:AH)(k:Value→AH→Prop)(f:Nat)(args:List Value):Prop:=WC G f args h k
def guardK(op:SOp)(l:List SOper)(d:Option Nat)(F:Fr)(h:AH)(K:Fr→AH→Prop)(t:Bool):Prop:=
 pick2 t (wop op F.val h (putK G l d F K) (skipK G l d F K) (callK G h (putK G l d F K))) (wO G l (F.undo d) h K)
def putQ(l:List SOper)(d:Option Nat)(F:Fr)(h:AH)(K:Fr→AH→Prop)(v:Value)(h1:AH):Prop:=h1=h∧wQ l (F.put d v) h K
def noK(_:AH):Prop:=False
def noC(_:Nat)(_:List Value):Prop:=False
def guardQ(op:SOp)(u:List Nat)(l:List SOper)(d:Option Nat)(F:Fr)(h:AH)(K:Fr→AH→Prop)(t:Bool):Prop:=
 pick2 t (wop op (F.keep u).val h (putQ l d F h K) noK noC) (wQ l (F.put d (.tuple #[])) h K)
def branchK(a b:SCode)(F:Fr)(h:AH)(R:SExit→Fr→AH→Prop)(t:Bool):Prop:=pick2 t (W G a F h R) (W G b F h R)
def putM(batch l:List SOper)(d:Option Nat)(dep:List Nat)(F:Fr)(h:AH)(past:List AH)(rs:List Rec)(fl:List (Nat×Nat×ABlk))(K:Fr→AH→Prop)(v:Value)(h1:AH):Prop:=
 flOk dep h1 fl∧wD G batch l (F.put d v) h1 (h::past) rs fl K
def skipM(batch l:List SOper)(d:Option Nat)(dep:List Nat)(F:Fr)(h:AH)(past:List AH)(rs:List Rec)(fl:List (Nat×Nat×ABlk))(K:Fr→AH→Prop)(h1:AH):Prop:=
 flOk dep h1 fl∧wD G batch l (F.unput d) h1 (h::past) rs fl K
def putF(batch l:List SOper)(d:Option Nat)(id:Nat)(F:Fr)(h:AH)(past:List AH)(rs:List Rec)(fl:List (Nat×Nat×ABlk))(K:Fr→AH→Prop)(v:Value)(h1:AH):Prop:=
 wD G batch l (F.put d v) h1 past rs ((id,h.next,h1.get h.next)::fl) K
def putS(batch l:List SOper)(d:Option Nat)(F:Fr)(h:AH)(past:List AH)(rs:List Rec)(fl:List (Nat×Nat×ABlk))(K:Fr→AH→Prop)(v:Value)(h1:AH):Prop:=
 h1=h∧wD G batch l (F.put d v) h past rs fl K
def putL(op:SOp)(u:List Nat)(id lo hi:Nat)(batch l:List SOper)(d:Option Nat)(F:Fr)(h:AH)(past:List AH)(rs:List Rec)(fl:List (Nat×Nat×ABlk))(K:Fr→AH→Prop)(v:Value)(h1:AH):Prop:=
 h1=h∧stillOk ⟨id,op,F.keep u,v,hi⟩ (past.take (past.length-lo))∧wD G batch l (F.put d v) h past (⟨id,op,F.keep u,v,hi⟩::rs) fl K
def putD(op:SOp)(u:List Nat)(id lo hi:Nat)(batch l:List SOper)(d:Option Nat)(F:Fr)(h:AH)(past:List AH)(rs:List Rec)(fl:List (Nat×Nat×ABlk))(K:Fr→AH→Prop):Value→AH→Prop:=
 match op.float,op.quiet with
 | true,_=>putF G batch l d id F h past rs fl K
 | false,true=>putS G batch l d F h past rs fl K
 | false,false=>putL G op u id lo hi batch l d F h past rs fl K
def guardD(op:SOp)(u:List Nat)(id lo hi:Nat)(batch l:List SOper)(d:Option Nat)(F:Fr)(h:AH)(past:List AH)(rs:List Rec)(fl:List (Nat×Nat×ABlk))(K:Fr→AH→Prop)(t:Bool):Prop:=
 pick2 t (wop op (F.keep u).val h (putD G op u id lo hi batch l d F h past rs fl K) noK noC) (wD G batch l (F.put d (.tuple #[])) h past rs fl K)
def guardM(op:SOp)(u:List Nat)(batch l:List SOper)(d:Option Nat)(dep:List Nat)(F:Fr)(h:AH)(past:List AH)(rs:List Rec)(fl:List (Nat×Nat×ABlk))(K:Fr→AH→Prop)(t:Bool):Prop:=
 recsOk past.length h rs∧pick2 t (wop op (F.keep u).val h (putM G batch l d dep F h past rs fl K) (skipM G batch l d dep F h past rs fl K) (callK G h (putM G batch l d dep F h past rs fl K)))
  (flOk dep h fl∧wD G batch l (F.put d (.tuple #[])) h (h::past) rs fl K)
def endK(batch:List SOper)(F:Fr)(h:AH)(rs:List Rec)(fl:List (Nat×Nat×ABlk))(K:Fr→AH→Prop)(ss:List St):Prop:=stsOk h ss∧crossOk rs fl batch ss∧K F (ss.foldl St.put h)
end
def loopK(J:Fr→AH→Prop)(R:SExit→Fr→AH→Prop):SExit→Fr→AH→Prop
 | .normal,F,h=>J F h
 | .exit i,F,h=>R (.exit i) F h
 | .ret,F,h=>R .ret F h
def getr(o:Option (List Value))(K:Value→Prop):Prop:=match o with|some vs=>K (oneOf vs)|none=>False
def retK(rs:List SRes)(R:Value→AH→Prop):SExit→Fr→AH→Prop
 | .exit _,_,_=>False
 | .normal,F,h=>getr (resultsOf F h rs) (R · h)
 | .ret,F,h=>getr (resultsOf F h rs) (R · h)
section
variable {F:Fr} {h h1:AH} {R:SExit→Fr→AH→Prop} {K:Fr→AH→Prop} {l batch:List SOper} {d:Option Nat} {op:SOp} {u p dep live:List Nat} {id lo hi t:Nat} {w:Bool} {v:Value}
 {past:List AH}{rs:List Rec}{fl:List (Nat×Nat×ABlk)}{a b:SCode}{c:SOpd}
@[simp] theorem W_skip:W G .skip F h R=R .normal F h:=rfl
@[simp] theorem W_exit:W G (.exit id) F h R=R (.exit id) F h:=rfl
@[simp] theorem W_ret:W G .ret F h R=R .ret F h:=rfl
@[simp] theorem W_reg:W G (.reg live l) F h R=wO G l F h (keepK live R):=rfl
@[simp] theorem W_qreg:W G (.qreg live l) F h R=wQ l F h (keepK live R):=rfl
@[simp] theorem W_dreg:W G (.dreg live l batch) F h R=wD G batch l F h [] [] [] (keepK live R):=rfl
@[simp] theorem W_seq:W G (.seq a b) F h R=W G a F h (thenK (W G b) R):=rfl
@[simp] theorem W_block:W G (.block id a) F h R=W G a F h (blockK id R):=rfl
@[simp] theorem W_cond:W G (.cond c a b) F h R=wcond (F.val c) (branchK G a b F h R):=rfl
@[simp] theorem keepK_eq:keepK live R F h=R .normal (F.keep live) h:=rfl
@[simp] theorem thenK_n {B:Fr→AH→(SExit→Fr→AH→Prop)→Prop}:thenK B R .normal F h=B F h R:=rfl
@[simp] theorem thenK_e {B:Fr→AH→(SExit→Fr→AH→Prop)→Prop}:thenK B R (.exit id) F h=R (.exit id) F h:=rfl
@[simp] theorem thenK_r {B:Fr→AH→(SExit→Fr→AH→Prop)→Prop}:thenK B R .ret F h=R .ret F h:=rfl
@[simp] theorem blockK_n:blockK id R .normal F h=R .normal F h:=rfl
@[simp] theorem blockK_e {i:Nat}:blockK id R (.exit i) F h=R (if i=id then .normal else .exit i) F h:=rfl
@[simp] theorem blockK_r:blockK id R .ret F h=R .ret F h:=rfl
@[simp] theorem wguard_b {k:Bool→Prop} {x:Bool}:wguard (some (.bool x)) w k=k (x == w):=rfl
@[simp] theorem wguard_u {k:Bool→Prop} {vs:Array Value}:wguard (some (.tuple vs)) w k=k false:=rfl
@[simp] theorem wcond_b {k:Bool→Prop} {x:Bool}:wcond (some (.bool x)) k=k x:=rfl
@[simp] theorem branchK_t:branchK G a b F h R true=W G a F h R:=rfl
@[simp] theorem branchK_f:branchK G a b F h R false=W G b F h R:=rfl
@[simp] theorem wO_nil:wO G [] F h K=K F h:=rfl
@[simp] theorem wO_cons:wO G (⟨d,op,none,u,id,p,lo,hi,dep⟩::l) F h K=wop op F.val h (putK G l d F K) (skipK G l d F K) (callK G h (putK G l d F K)):=rfl
@[simp] theorem wO_consg:wO G (⟨d,op,some (t,w),u,id,p,lo,hi,dep⟩::l) F h K=wguard (F.get t) w (guardK G op l d F h K):=rfl
@[simp] theorem guardK_t:guardK G op l d F h K true=wop op F.val h (putK G l d F K) (skipK G l d F K) (callK G h (putK G l d F K)):=rfl
@[simp] theorem guardK_f:guardK G op l d F h K false=wO G l (F.undo d) h K:=rfl
@[simp] theorem putK_eq:putK G l d F K v h=wO G l (F.put d v) h K:=rfl
@[simp] theorem skipK_eq:skipK G l d F K h=wO G l (F.unput d) h K:=rfl
@[simp] theorem callK_eq {k:Value→AH→Prop} {f:Nat} {args:List Value}:callK G h k f args=WC G f args h k:=rfl
@[simp] theorem wQ_nil:wQ [] F h K=K F h:=rfl
@[simp] theorem wQ_cons:wQ (⟨d,op,none,u,id,p,lo,hi,dep⟩::l) F h K=wop op (F.keep u).val h (putQ l d F h K) noK noC:=rfl
@[simp] theorem wQ_consg:wQ (⟨d,op,some (t,w),u,id,p,lo,hi,dep⟩::l) F h K=wguard ((F.keep u).get t) w (guardQ op u l d F h K):=rfl
@[simp] theorem guardQ_t:guardQ op u l d F h K true=wop op (F.keep u).val h (putQ l d F h K) noK noC:=rfl
@[simp] theorem guardQ_f:guardQ op u l d F h K false=wQ l (F.put d (.tuple #[])) h K:=rfl
@[simp] theorem putQ_eq:putQ l d F h K v h1=(h1=h∧wQ l (F.put d v) h K):=rfl
@[simp] theorem noK_eq:noK h=False:=rfl
@[simp] theorem noC_eq {f:Nat} {args:List Value}:noC f args=False:=rfl
@[simp] theorem wD_nil:wD G batch [] F h past rs fl K=(recsOk past.length h rs∧getss (stsOf F batch) (endK batch F h rs fl K)):=rfl
theorem wD_move(hm:SOp.still op=false∧SOp.float op=false):wD G batch (⟨d,op,none,u,id,p,lo,hi,dep⟩::l) F h past rs fl K=
  (recsOk past.length h rs∧wop op (F.keep u).val h (putM G batch l d dep F h past rs fl K) (skipM G batch l d dep F h past rs fl K) (callK G h (putM G batch l d dep F h past rs fl K))):=by
 simp only[wD,SOper.moves,hm.1,hm.2,Bool.not_false,Bool.and_self]
 rfl
theorem wD_moveg(hm:SOp.still op=false∧SOp.float op=false):wD G batch (⟨d,op,some (t,w),u,id,p,lo,hi,dep⟩::l) F h past rs fl K=
  wguard ((F.keep u).get t) w (guardM G op u batch l d dep F h past rs fl K):=by
 simp only[wD,SOper.moves,hm.1,hm.2,Bool.not_false,Bool.and_self,gd]
 rfl
@[simp] theorem guardM_t:guardM G op u batch l d dep F h past rs fl K true=
  (recsOk past.length h rs∧wop op (F.keep u).val h (putM G batch l d dep F h past rs fl K) (skipM G batch l d dep F h past rs fl K) (callK G h (putM G batch l d dep F h past rs fl K))):=rfl
@[simp] theorem guardM_f:guardM G op u batch l d dep F h past rs fl K false=(recsOk past.length h rs∧flOk dep h fl∧wD G batch l (F.put d (.tuple #[])) h (h::past) rs fl K):=rfl
theorem wD_keep(hm:(SOp.still op||SOp.float op)=true):wD G batch (⟨d,op,none,u,id,p,lo,hi,dep⟩::l) F h past rs fl K=
  wop op (F.keep u).val h (putD G op u id lo hi batch l d F h past rs fl K) noK noC:=by
 have:(!op.still&&!op.float)=false:=by cases h1:op.still<;>cases h2:op.float<;>simp[h1,h2]at hm ⊢
 simp only[wD,SOper.moves,this,gd,pick2]
 congr 1
 funext v h'
 unfold putD
 cases op.float<;>cases op.quiet<;>rfl
theorem wD_keepg(hm:(SOp.still op||SOp.float op)=true):wD G batch (⟨d,op,some (t,w),u,id,p,lo,hi,dep⟩::l) F h past rs fl K=
  wguard ((F.keep u).get t) w (guardD G op u id lo hi batch l d F h past rs fl K):=by
 have:(!op.still&&!op.float)=false:=by cases h1:op.still<;>cases h2:op.float<;>simp[h1,h2]at hm ⊢
 simp only[wD,SOper.moves,this,gd]
 congr 1
 funext t
 unfold guardD
 congr 1
 congr 1
 funext v h'
 unfold putD
 cases op.float<;>cases op.quiet<;>rfl
@[simp] theorem guardD_t:guardD G op u id lo hi batch l d F h past rs fl K true=wop op (F.keep u).val h (putD G op u id lo hi batch l d F h past rs fl K) noK noC:=rfl
@[simp] theorem guardD_f:guardD G op u id lo hi batch l d F h past rs fl K false=wD G batch l (F.put d (.tuple #[])) h past rs fl K:=rfl
@[simp] theorem putM_eq:putM G batch l d dep F h past rs fl K v h1=(flOk dep h1 fl∧wD G batch l (F.put d v) h1 (h::past) rs fl K):=rfl
@[simp] theorem skipM_eq:skipM G batch l d dep F h past rs fl K h1=(flOk dep h1 fl∧wD G batch l (F.unput d) h1 (h::past) rs fl K):=rfl
@[simp] theorem putF_eq:putF G batch l d id F h past rs fl K v h1=wD G batch l (F.put d v) h1 past rs ((id,h.next,h1.get h.next)::fl) K:=rfl
@[simp] theorem putS_eq:putS G batch l d F h past rs fl K v h1=(h1=h∧wD G batch l (F.put d v) h past rs fl K):=rfl
@[simp] theorem putL_eq:putL G op u id lo hi batch l d F h past rs fl K v h1=
  (h1=h∧stillOk ⟨id,op,F.keep u,v,hi⟩ (past.take (past.length-lo))∧wD G batch l (F.put d v) h past (⟨id,op,F.keep u,v,hi⟩::rs) fl K):=rfl
@[simp] theorem recsOk_nil {n:Nat}:recsOk n h []=True:=rfl
@[simp] theorem recsOk_cons {n:Nat} {r:Rec}:recsOk n h (r::rs)=((n≤r.hi→r.same h)∧recsOk n h rs):=rfl
@[simp] theorem stillOk_nil {r:Rec}:stillOk r []=True:=rfl
@[simp] theorem stillOk_cons {r:Rec}:stillOk r (h::past)=(r.same h∧stillOk r past):=rfl
@[simp] theorem flOk_nil:flOk dep h []=True:=rfl
@[simp] theorem flOk_cons {x:Nat×Nat×ABlk}:flOk dep h (x::fl)=((dep.contains x.1=true∨h.get x.2.1=x.2.2)∧flOk dep h fl):=rfl
@[simp] theorem getss_some {k:List St→Prop} {ss:List St}:getss (some ss) k=k ss:=rfl
@[simp] theorem endK_eq {ss:List St}:endK batch F h rs fl K ss=(stsOk h ss∧crossOk rs fl batch ss∧K F (ss.foldl St.put h)):=rfl
@[simp] theorem loopK_n {J:Fr→AH→Prop}:loopK J R .normal F h=J F h:=rfl
@[simp] theorem loopK_e {J:Fr→AH→Prop}:loopK J R (.exit id) F h=R (.exit id) F h:=rfl
@[simp] theorem loopK_r {J:Fr→AH→Prop}:loopK J R .ret F h=R .ret F h:=rfl
@[simp] theorem getr_some {k:Value→Prop} {vs:List Value}:getr (some vs) k=k (oneOf vs):=rfl
@[simp] theorem retK_n {q:List SRes} {k:Value→AH→Prop}:retK q k .normal F h=getr (resultsOf F h q) (k · h):=rfl
@[simp] theorem retK_r {q:List SRes} {k:Value→AH→Prop}:retK q k .ret F h=getr (resultsOf F h q) (k · h):=rfl
@[simp] theorem retK_e {q:List SRes} {k:Value→AH→Prop}:retK q k (.exit id) F h=False:=rfl
end
theorem W_loop{live:List Nat}{a:SCode}{F:Fr}{h:AH}{R:SExit→Fr→AH→Prop}(I:Nat→Fr→AH→Prop)(n:Nat)(H0:I n F h)
  (Hs:∀n F h,I n F h→W G a (F.keep live) h (loopK (fun F1 h1=>∃m,m<n∧I m F1 h1) R)):W G (.loop live a) F h R:=by
 induction n using Nat.strongRecOn generalizing F h with
 | _ n ih=>
  obtain⟨e,F1,h1,r,k⟩:=W_run (Hs n F h H0)
  cases e with
  | normal=>
   obtain⟨m,hm,k⟩:=k
   obtain⟨e2,F2,h2,r2,k2⟩:=ih m hm k
   exact⟨_,_,_,.loopN r r2,k2⟩
  | exit id=>exact⟨_,_,_,.loopE r (by simp),k⟩
  | ret=>exact⟨_,_,_,.loopE r (by simp),k⟩
theorem WC_enter{f:Nat}{args:List Value}{h:AH}{R:Value→AH→Prop}{s:SFunc}(hs:G f=s)(hn:args.length=s.nargs)
  (H:W G s.body (Fr.from 0 args) h (retK s.results R)):WC G f args h R:=by
 obtain⟨e,F1,h1,r,k⟩:=W_run H
 subst hs
 have he:e=.normal∨e=.ret:=by cases e<;>simp at k ⊢
 have k':getr (resultsOf F1 h1 (G f).results) (R · h1):=by rcases he with rfl|rfl<;>exact k
 unfold getr at k'
 split at k'
 ·rename_i vs hv;exact⟨_,_,.enter hn r he hv,k'⟩
 ·exact k'.elim
end Go.Jq
