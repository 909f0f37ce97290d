/- The document's order of executions. -/
import Derived.Test.YteobailpkkljpaaGreatDoorH2
set_option linter.unusedSimpArgs false
set_option linter.unusedVariables false
set_option maxRecDepth 8000
set_option maxHeartbeats 2000000
namespace Go.Jq
variable {G:Nat→SFunc} {h:AH} {R:Value→AH→Prop}
def befM(a b:Int):Int:=if a<b then -1 else if b<a then 1 else 0
def rowsM:List Int→List Int→Int
 | [],[]=>0
 | [],_::_=>-1
 | _::_,[]=>1
 | a::l,b::m=>if befM a b≠0 then befM a b else rowsM l m
def fnz:List Int→Int
 | []=>0
 | a::l=>if a≠0 then a else fnz l
def evM(a b:Ev6):Int:=fnz [befM a.t b.t,befM a.i b.i,befM a.kind b.kind,befM a.loc b.loc,befM a.r b.r,befM a.w b.w]
def evsM:List Ev6→List Ev6→Int
 | [],[]=>0
 | [],_::_=>-1
 | _::_,[]=>1
 | a::l,b::m=>if evM a b≠0 then evM a b else evsM l m
def coM:List (List Int)→List (List Int)→Int
 | [],[]=>0
 | [],_::_=>-1
 | _::_,[]=>1
 | a::l,b::m=>if rowsM a b≠0 then rowsM a b else coM l m
def cmpM(x y:Exe):Int:=if evsM x.evs y.evs≠0 then evsM x.evs y.evs else if rowsM x.rf y.rf≠0 then rowsM x.rf y.rf else coM x.co y.co
theorem drop_two{α:Type}{l:List α}{j:Nat}(h:j<l.length):l.drop j=l[j]::l.drop (j+1):=List.drop_eq_getElem_cons h
end Go.Jq
namespace Go.Jq
variable {G:Nat→SFunc} {h:AH} {R:Value→AH→Prop}
structure DocG(G:Nat→SFunc):Prop where
 g347:G 347=c347
 g343:G 343=c343
 g353:G 353=c353
 g354:G 354=c354
 g358:G 358=c358
 g357:G 357=c357
 g355:G 355=c355
theorem Reads_d(g:DocG G){e:Ev6}(k:R (.bool e.reads) h):WC G 347 [e.v] h R:=by
 have key:∀b,e.reads=b→R (.bool b) h:=fun b e=>e▸k
 unfold Ev6.reads at key
 by_cases k1:e.kind=1
 ·refine WC_pure (WC_enter g.g347 rfl ?_)
  simp -implicitDefEqProofs[c347,c347_body,c347_0,c347_1,Ev6.v,k1,Ext.lays]
  exact key _ (by simp[k1])
 ·by_cases k4:e.kind=4
  ·refine WC_pure (WC_enter g.g347 rfl ?_)
   simp -implicitDefEqProofs[c347,c347_body,c347_0,c347_1,Ev6.v,k1,k4,Ext.lays]
   exact key _ (by simp[k1,k4])
  ·refine WC_pure (WC_enter g.g347 rfl ?_)
   simp -implicitDefEqProofs[c347,c347_body,c347_0,c347_1,Ev6.v,k1,k4,Ext.lays]
   exact key _ (by simp[k1,k4])
theorem Writes_d(g:DocG G){e:Ev6}(k:R (.bool e.writes) h):WC G 343 [e.v] h R:=by
 have key:∀b,e.writes=b→R (.bool b) h:=fun b e=>e▸k
 unfold Ev6.writes at key
 by_cases k1:e.kind=2
 ·refine WC_pure (WC_enter g.g343 rfl ?_)
  simp -implicitDefEqProofs[c343,c343_body,c343_0,c343_1,Ev6.v,k1,Ext.lays]
  exact key _ (by simp[k1])
 ·refine WC_pure (WC_enter g.g343 rfl ?_)
  simp -implicitDefEqProofs[c343,c343_body,c343_0,c343_1,Ev6.v,k1,Ext.lays]
  exact key _ (by simp[k1])
theorem min64{b:Nat}(h:b<64):min b IntKind.u64.bits=b:=by
 have:IntKind.u64.bits=64:=rfl
 rw[this];omega
theorem wrap2{b:Nat}(h:b<64):IntKind.u64.wrap (2^b)=((2^b:Nat):Int):=by
 have hp:(2:Nat)^b<2^64:=Nat.pow_lt_pow_right (by omega) (by omega)
 have:(2:Int)^b=((2^b:Nat):Int):=by simp
 rw[this]
 have key:∀x:Nat,x<2^64→IntKind.u64.wrap (x:Int)=x:=fun x h=>wrapu (by omega)
 exact key _ hp
theorem Add_d(g:DocG G){n p a b:Nat}{r:Nat→Nat}(gp:h.get p=.cells (relC n r) false false)(hr:r a<2^64)(ha:a<64)(hb:b<64)(k:R (.tuple #[]) (h.put p (.cells (relC n (updR r a (r a ||| 2^b))) false false))):WC G 354 [.pointer (some ⟨p,0,none⟩),.int .i64 a,.int .i64 b] h R:=by
 have hp:(2:Nat)^b<2^64:=Nat.pow_lt_pow_right (by omega) (by omega)
 refine WC_enter g.g354 rfl ?_
 simp -implicitDefEqProofs only[c354,c354_body,W_dreg]
 have e5:splice (relC n r) (1+a) [stW (r a ||| 2^b)]=relC n (updR r a (r a ||| 2^b)):=by rw[splice_one (by simp;omega),relC_set]
 have i1:ior .u64 (r a) (2^b)=((r a ||| 2^b:Nat):Int):=by
  have:=ior_nat hr hp
  rwa [show((2^b:Nat):Int)=2^b by simp]at this
 simp -implicitDefEqProofs[c354_0,c354_0b,show(a:Int)<64 by omega,gp,relC_get ha,min64 hb,wrap2 hb]
 refine⟨by omega,?_⟩
 rw[if_pos (by omega),i1]
 rw[show [Value.int IntKind.u64 ((r a ||| 2^b:Nat):Int)]=[stW (r a ||| 2^b)] from rfl,e5]
 exact k
theorem fdivN{s b:Nat}:(s:Int).fdiv (2^b)=((s / 2^b:Nat):Int):=by
 rw[Int.fdiv_eq_ediv_of_nonneg _ (by have:(0:Int)<2^b:=Int.pow_pos (by omega);omega)]
 simp
theorem Has_d(g:DocG G){n p a b:Nat}{r:Nat→Nat}(gp:h.get p=.cells (relC n r) false false)(hr:r a<2^64)(ha:a<64)(hb:b<64)(k:R (.bool ((r a).testBit b)) h):WC G 358 [.pointer (some ⟨p,0,none⟩),.int .i64 a,.int .i64 b] h R:=by
 refine WC_enter g.g358 rfl ?_
 have lt:r a / 2^b<2^64:=Nat.lt_of_le_of_lt (Nat.div_le_self _ _) hr
 have i1:=iand_nat lt (show(1:Nat)<2^64 by decide)
 have e4:decide (((r a / 2^b &&& 1:Nat):Int)=1)=(r a).testBit b:=by
  rw[Nat.and_one_is_mod,Nat.testBit_eq_decide_div_mod_eq,Bool.eq_iff_iff,decide_eq_true_iff,decide_eq_true_iff]
  omega
 rw[←e4,←i1,←fdivN]at k
 simp -implicitDefEqProofs[c358,c358_body,c358_0,c358_1,show(a:Int)<64 by omega,gp,relC_get ha,min64 hb,sbin]
 simpa using k
end Go.Jq
namespace Go.Jq
variable {G:Nat→SFunc} {h:AH} {R:Value→AH→Prop}
def inv357a(h:AH)(n:Nat)(r:Nat→Nat)(mm:Nat)(F:Fr)(hh:AH):Prop:=
 ∃kk,mm=n-kk∧kk≤n∧hh=h.lays [.cells (relC n ((List.range kk).foldl (cloK n) r)) false false,.cells zrel false false]∧F=[(1,.pointer (some ⟨h.next,0,none⟩)),(2,.pointer (some ⟨h.next+1,0,none⟩)),(3,.int .i64 kk)]
def inv357b(h:AH)(n:Nat)(r:Nat→Nat)(kk:Nat)(mm:Nat)(F:Fr)(hh:AH):Prop:=
 ∃i,mm=n-i∧i≤n∧hh=h.lays [.cells (relC n ((List.range i).foldl (cloI kk) r)) false false,.cells zrel false false]∧F=[(1,.pointer (some ⟨h.next,0,none⟩)),(2,.pointer (some ⟨h.next+1,0,none⟩)),(3,.int .i64 kk),(4,.int .i64 i)]
theorem Closure_d(g:DocG G){n:Nat}{r:Nat→Nat}(hn:n≤64)(hr:RowsOk r)(k:R (relV n (clo n r)) h):WC G 357 [relV n r] h R:=by
 refine WC_pure (WC_enter g.g357 rfl ?_)
 simp -implicitDefEqProofs[c357,c357_body,c357_0,c357_1,relV,relC_take]
 refine W_loop (inv357a h n r) n ⟨0,rfl,by omega,rfl,rfl⟩ ?_
 rintro mm F hh ⟨kk,rfl,hk,rfl,rfl⟩
 simp -implicitDefEqProofs[c357_10,c357_2]
 by_cases h1:kk<n
 ·have w1:IntKind.i64.wrap ((kk:Int)+1)=((kk+1:Nat):Int):=by rw[wrap64 (by omega)];rfl
  have o1:RowsOk ((List.range kk).foldl (cloK n) r):=foldl_ok (fun _ _ h=>cloK_ok h) hr
  have e1:=@foldl_range _ (cloK n) r kk
  generalize (List.range kk).foldl (cloK n) r=q at*
  simp -implicitDefEqProofs[h1,c357_3]
  refine W_loop (inv357b h n q kk) n ⟨0,rfl,by omega,rfl,rfl⟩ ?_
  rintro mm F hh ⟨i,rfl,hi,rfl,rfl⟩
  simp -implicitDefEqProofs[c357_8,c357_4]
  have o2:RowsOk ((List.range i).foldl (cloI kk) q):=foldl_ok (fun _ _ h=>cloI_ok h) o1
  have e2:=@foldl_range _ (cloI kk) q i
  by_cases h2:i<n
  ·have w2:IntKind.i64.wrap ((i:Int)+1)=((i+1:Nat):Int):=by rw[wrap64 (by omega)];rfl
   generalize (List.range i).foldl (cloI kk) q=s at*
   simp -implicitDefEqProofs[h2,c357_5]
   refine Has_d (n:=n) g (by simp) (o2 i) (by omega) (by omega) ?_
   cases e:(s i).testBit kk with
   | false=>
    rw[cloI,if_neg (by rw[e];simp)]at e2
    simp -implicitDefEqProofs[c357_7,w2]
    exact⟨n-(i+1),by omega,i+1,rfl,by omega,by rw[e2],by simp⟩
   | true=>
    rw[cloI,if_pos e]at e2
    simp -implicitDefEqProofs[c357_6,c357_6b,show(i:Int)<64 by omega,show(kk:Int)<64 by omega,relC_get (show i<64 by omega),relC_get (show kk<64 by omega),ior_nat (o2 i) (o2 kk),c357_7,w2]
    refine⟨by omega,n-(i+1),by omega,i+1,rfl,by omega,?_,by simp⟩
    rw[if_pos (by omega),show [Value.int IntKind.u64 ((s i ||| s kk:Nat):Int)]=[stW (s i ||| s kk)] from rfl,relC_splice1 (by omega),e2]
  ·have e:i=n:=by omega
   subst e
   simp -implicitDefEqProofs[c357_9,w1]
   exact⟨i-(kk+1),by omega,kk+1,rfl,by omega,by rw[e1,cloK],by simp⟩
 ·have e:kk=n:=by omega
  subst e
  simp -implicitDefEqProofs[c357_11,relC_take,zrel_splice,zrel_length,Ext.lays]
  exact⟨(Clean_ints relC_int).fa,k⟩
def inv355(h:AH)(n:Nat)(q r:Nat→Nat)(mm:Nat)(F:Fr)(hh:AH):Prop:=
 ∃i,mm=n-i∧i≤n∧(∀j,j<i→(q j).testBit j=false)∧hh=h.lays [.cells (relC n r) false false,.cells (relC n q) false false]∧F=[(1,.pointer (some ⟨h.next,0,none⟩)),(3,.pointer (some ⟨h.next+1,0,none⟩)),(4,.int .i64 i)]
theorem Acyclic_d(g:DocG G){n:Nat}{r:Nat→Nat}(hn:n≤64)(hr:RowsOk r)(k:R (.bool (acyM n r)) h):WC G 355 [relV n r] h R:=by
 refine WC_pure (WC_enter g.g355 rfl ?_)
 simp -implicitDefEqProofs[c355,c355_body,c355_0,c355_1,relV,relC_take]
 refine Closure_d g hn hr ?_
 unfold acyM at k
 have oq:=clo_ok (n:=n) hr
 generalize clo n r=q at*
 simp -implicitDefEqProofs[c355_2,relV,relC_take,zrel_splice,zrel_length]
 refine W_loop (inv355 h n q r) n ⟨0,rfl,by omega,fun _ h=>by omega,rfl,rfl⟩ ?_
 rintro mm F hh ⟨i,rfl,hi,hno,rfl,rfl⟩
 simp -implicitDefEqProofs[c355_7,c355_3]
 by_cases h1:i<n
 ·have w1:IntKind.i64.wrap ((i:Int)+1)=((i+1:Nat):Int):=by rw[wrap64 (by omega)];rfl
  simp -implicitDefEqProofs[h1,c355_4]
  refine Has_d (n:=n) g (by simp) (oq i) (by omega) (by omega) ?_
  cases e:(q i).testBit i with
  | false=>
   simp -implicitDefEqProofs[c355_6,w1]
   refine⟨n-(i+1),by omega,i+1,rfl,by omega,fun j hj=>?_,rfl,by simp⟩
   by_cases ej:j=i
   ·subst ej;exact e
   ·exact hno j (by omega)
  | true=>
   have ea:((List.range n).all fun i=>!(q i).testBit i)=false:=by
    rw[List.all_eq_false]
    exact⟨i,List.mem_range.2 h1,by simp[e]⟩
   rw[ea]at k
   simp -implicitDefEqProofs[c355_5,Ext.lays]
   exact k
 ·have ea:((List.range n).all fun i=>!(q i).testBit i)=true:=by
   rw[List.all_eq_true]
   intro j hj
   rw[List.mem_range]at hj
   simp[hno j (by omega)]
  rw[ea]at k
  simp -implicitDefEqProofs[h1,c355_8,Ext.lays]
  exact k
theorem addUp{n a b:Nat}{r:Nat→Nat}(hn:n≤64)(ha:a<n)(hb:b<n):updR r a (r a ||| 2^b)=addR n r a b:=by
 unfold addR
 rw[if_pos (by simp[inB];omega)]
 unfold withN bitN
 rw[if_pos (by omega)]
 simp
def inv353(h:AH)(l:List Ev6)(v:Value)(mm:Nat)(F:Fr)(hh:AH):Prop:=
 ∃i:Nat,mm=l.length-i∧i≤l.length∧F=[(0,v),(2,.pointer (some ⟨h.next,0,none⟩)),(3,.pointer (some ⟨h.next+1,0,none⟩)),(4,.int .i64 i)]∧
  hh=h.lays [.cells zrel false false,.cells (relC l.length (relOf l.length fun a b=>poP l a b&&cutB i 0 a b)) false false]
def inv353b(h:AH)(l:List Ev6)(v:Value)(i:Nat)(mm:Nat)(F:Fr)(hh:AH):Prop:=
 ∃k:Nat,mm=l.length-k∧k≤l.length∧F=[(0,v),(2,.pointer (some ⟨h.next,0,none⟩)),(3,.pointer (some ⟨h.next+1,0,none⟩)),(4,.int .i64 i),(5,.int .i64 k)]∧
  hh=h.lays [.cells zrel false false,.cells (relC l.length (relOf l.length fun a b=>poP l a b&&cutB i k a b)) false false]
theorem zrel_set0{n:Nat}:zrel.set 0 (.int .i64 (n:Int))=relC n fun _=>0:=rfl
theorem PO_d(g:DocG G){l:List Ev6}{v:Value}(s:SlV 6 h l.length (l.flatMap Ev6.c) v)(k:R (relV (poN l) (relOf (poN l) (poP l))) h):WC G 353 [v] h R:=by
 obtain⟨a,c,rfl⟩:=s.len
 refine WC_pure (WC_enter g.g353 rfl ?_)
 unfold poN at k
 have zb:zrel.toArray.toList=zrel:=by simp
 simp -implicitDefEqProofs[c353,c353_body,c353_0,c353_1,zrel_splice,zrel_length,splice_all,c353_2]
 by_cases h1:64<l.length
 ·rw[if_pos h1]at k
  have tz:zrel.take 65=zrel:=List.take_of_length_le (by simp[zrel_length])
  have sz:splice zrel 0 zrel=zrel:=splice_all rfl
  simp -implicitDefEqProofs[h1,show(64:Int)<l.length by omega,c353_3,tz,sz,zrel_length,Ext.lays]
  have e0:relV 0 (relOf 0 (poP l))=.agg zrel.toArray:=by rw[zrel_eq];unfold relV;congr 2
  rw[e0]at k
  exact⟨by rw[zrel_eq];exact(Clean_ints relC_int).fa,k⟩
 ·rw[if_neg h1]at k
  have hn:l.length≤64:=by omega
  simp -implicitDefEqProofs[h1,show ¬(64:Int)<l.length by omega,c353_4,c353_5,zrel_set0,zrel_length]
  refine W_loop (inv353 h l (.slice a l.length c)) l.length ⟨0,rfl,by omega,rfl,by rw[cut_none (n:=l.length) (P:=poP l)]⟩ ?_
  rintro mm F hh ⟨i,rfl,hi,rfl,rfl⟩
  simp -implicitDefEqProofs[c353_14,c353_6]
  by_cases hi':i<l.length
  ·have w1:IntKind.i64.wrap ((i:Int)+1)=((i+1:Nat):Int):=by rw[wrap64 (by omega)];rfl
   obtain⟨b,o,sp,c0,gg,ro,rfl,hb,hg,rds⟩:=s.rds Ev6.c_length (by omega)
   have hg:∀L,(h.lays L).get b=.cells c0 gg ro:=fun L=>(AH.lays_lt hb).trans hg
   have A0:=(rds i hi').2.2 0 (by omega)
   have A1:=(rds i hi').2.2 1 (by omega)
   rw[←evA_of hi']at A0 A1
   simp only[Ev6.c,Nat.add_zero,List.getElem?_cons_zero,List.getElem?_cons_succ]at A0 A1
   simp -implicitDefEqProofs[hi',c353_7]
   refine W_loop (inv353b h l (.slice (some ⟨b,o,sp⟩) l.length c) i) l.length ⟨0,rfl,by omega,rfl,rfl⟩ ?_
   rintro mm F hh ⟨k,rfl,hk,rfl,rfl⟩
   simp -implicitDefEqProofs[c353_12,c353_8]
   by_cases hk':k<l.length
   ·have w2:IntKind.i64.wrap ((k:Int)+1)=((k+1:Nat):Int):=by rw[wrap64 (by omega)];rfl
    have B0:=(rds k hk').2.2 0 (by omega)
    have B1:=(rds k hk').2.2 1 (by omega)
    rw[←evA_of hk']at B0 B1
    simp only[Ev6.c,Nat.add_zero,List.getElem?_cons_zero,List.getElem?_cons_succ]at B0 B1
    simp -implicitDefEqProofs[hk']
    generalize eQ:wQ c353_9 _ _ _=Q
    by_cases a1:(evA l i).t<0
    ·have a1':¬0≤(evA l i).t:=by omega
     by_cases a2:0≤(evA l k).t
     ·skip
      subst eQ
      have cT:=cut_true (P:=poP l) (i:=i) (k:=k) hn (by simp[poP,poE,a1,a1',a2])
      simp -implicitDefEqProofs[c353_9,a1,a1',a2,hi',hk',hg,A0,A1,B0,B1,c353_10]
      refine Add_d (n:=l.length) (p:=h.next+1) (a:=i) (b:=k) (r:=relOf l.length fun a b=>poP l a b&&cutB i k a b) g (by simp) (relOf_ok hn i) (by omega) (by omega) ?_
      rw[addUp hn hi' hk',cT]
      simp -implicitDefEqProofs[c353_11,w2]
      exact⟨l.length-(k+1),by omega,k+1,rfl,by omega,by simp,rfl⟩
     ·skip
      subst eQ
      have cF:=cut_false (n:=l.length) (P:=poP l) (i:=i) (k:=k) (by simp[poP,poE,a1,a1',a2])
      simp -implicitDefEqProofs[c353_9,a1,a1',a2,hi',hk',hg,A0,A1,B0,B1,c353_11,w2]
      exact⟨l.length-(k+1),by omega,k+1,rfl,by omega,by simp,by rw[←cF]⟩
    ·have a1':0≤(evA l i).t:=by omega
     by_cases a3:(evA l i).t=(evA l k).t
     ·by_cases a4:(evA l i).i<(evA l k).i
      ·skip
       subst eQ
       have cT:=cut_true (P:=poP l) (i:=i) (k:=k) hn (by simp[poP,poE,a1,a1',eq_true a3,a4])
       simp -implicitDefEqProofs[c353_9,a1,a1',eq_true a3,a4,hi',hk',hg,A0,A1,B0,B1,c353_10]
       refine Add_d (n:=l.length) (p:=h.next+1) (a:=i) (b:=k) (r:=relOf l.length fun a b=>poP l a b&&cutB i k a b) g (by simp) (relOf_ok hn i) (by omega) (by omega) ?_
       rw[addUp hn hi' hk',cT]
       simp -implicitDefEqProofs[c353_11,w2]
       exact⟨l.length-(k+1),by omega,k+1,rfl,by omega,by simp,rfl⟩
      ·skip
       subst eQ
       have cF:=cut_false (n:=l.length) (P:=poP l) (i:=i) (k:=k) (by simp[poP,poE,a1,a1',eq_true a3,a4])
       simp -implicitDefEqProofs[c353_9,a1,a1',eq_true a3,a4,hi',hk',hg,A0,A1,B0,B1,c353_11,w2]
       exact⟨l.length-(k+1),by omega,k+1,rfl,by omega,by simp,by rw[←cF]⟩
     ·skip
      subst eQ
      have cF:=cut_false (n:=l.length) (P:=poP l) (i:=i) (k:=k) (by simp[poP,poE,a1,a1',a3])
      simp -implicitDefEqProofs[c353_9,a1,a1',a3,hi',hk',hg,A0,A1,B0,B1,c353_11,w2]
      exact⟨l.length-(k+1),by omega,k+1,rfl,by omega,by simp,by rw[←cF]⟩
   ·have e:k=l.length:=by omega
    subst e
    simp -implicitDefEqProofs[c353_13,w1]
    exact⟨l.length-(i+1),by omega,i+1,rfl,by omega,by simp,by rw[←cut_next]⟩
  ·have e:i=l.length:=by omega
   subst e
   simp -implicitDefEqProofs[c353_15,relC_take,zrel_splice,zrel_length,Ext.lays]
   rw[cut_end]
   exact⟨by simpa[relV]using Clean_rel (m:=h.next),k⟩
end Go.Jq
namespace Go.Jq
variable {G:Nat→SFunc} {h h0 h1:AH} {R:Value→AH→Prop}
structure Xt(h h1:AH):Prop where
 next:h.next≤h1.next
 get:∀b c g ro,b<h.next→h.get b=.cells c g ro→h1.get b=.cells c g ro
theorem Xt.refl(h:AH):Xt h h:=⟨Nat.le_refl _,fun _ _ _ _ _ e=>e⟩
theorem Xt.trans{a b c:AH}(x:Xt a b)(y:Xt b c):Xt a c:=⟨Nat.le_trans x.next y.next,fun i cs g ro hi e=>y.get i cs g ro (Nat.lt_of_lt_of_le hi x.next) (x.get i cs g ro hi e)⟩
theorem Ext.xt(x:Ext h h1):Xt h h1:=⟨x.next,fun b c g ro hb e=>by rw[x.get b hb];exact e⟩
section
variable {k n:Nat} {cs:List Value} {v:Value}
theorem SlV.xt(s:SlV k h n cs v)(x:Xt h h1):SlV k h1 n cs v:=by
 obtain⟨s1,s2⟩:=s
 refine⟨s1,?_⟩
 rcases s2 with s2|⟨b,o,sp,c,c0,g,ro,e1,e2,e3,e4,e5⟩
 ·exact .inl s2
 ·exact .inr ⟨b,o,sp,c,c0,g,ro,e1,Nat.lt_of_lt_of_le e2 x.next,x.get _ _ _ _ e2 e3,e4,e5⟩
theorem SlX.xt(s:SlX k h n cs v)(x:Xt h h1):SlX k h1 n cs v:=by
 obtain⟨s1,s2⟩:=s
 refine⟨s1,?_⟩
 rcases s2 with s2|⟨b,o,sp,c,c0,g,ro,e1,e6,e7,e2,e3,e4,e5⟩
 ·exact .inl s2
 ·exact .inr ⟨b,o,sp,c,c0,g,ro,e1,e6,e7,Nat.lt_of_lt_of_le e2 x.next,x.get _ _ _ _ e2 e3,e4,e5⟩
theorem NestX.xt{α:Type}{f:α→List Value}{ths:List (List α)}(n:NestX f k h ths v)(x:Xt h h1):NestX f k h1 ths v:=by
 obtain⟨tvs,h1,h2⟩:=n
 exact⟨tvs,h1.xt x,h2.imp fun _ _ _ _ s=>s.xt x⟩
theorem ExeV.xt{x:Exe}{ev rv cv:Value}(e:ExeV h x ev rv cv)(y:Xt h h1):ExeV h1 x ev rv cv:=⟨e.evs.xt y,e.rf.xt y,e.co.xt y⟩
end
def Sd(h:AH)(ob:Nat)(v:Value):AH:=⟨h.next,fun b=>if b=ob∨blkOf v=some b then .dead else h.get b⟩
section
variable {ob:Nat} {v v1:Value}
theorem Sd.xt:Xt (Sd h ob v) h:=⟨Nat.le_refl _,fun b c g ro _ e=>by
 simp only[Sd]at e
 split at e
 ·simp at e
 ·exact e⟩
theorem Sd.get{b:Nat}(h1:b≠ob)(h2:blkOf v≠some b):(Sd h ob v).get b=h.get b:=if_neg (by simp[h1,h2])
theorem Sd.up{b:Nat}{c:List Value}{g ro:Bool}(e:(Sd h ob v).get b=.cells c g ro):b≠ob∧blkOf v≠some b∧h.get b=.cells c g ro:=by
 simp only[Sd]at e
 split at e
 ·simp at e
 ·rename_i q;exact⟨fun x=>q (.inl x),fun x=>q (.inr x),e⟩
theorem Sd.ext(x:Ext h h1):Xt (Sd h ob v) (Sd h1 ob v):=⟨x.next,fun b c g ro hb e=>by
 obtain⟨q1,q2,q3⟩:=Sd.up e
 rw[Sd.get q1 q2,x.get b hb];exact q3⟩
theorem Sd.chg(hn:h.next≤h1.next)(hg:∀b,b<h.next→b≠ob→blkOf v≠some b→h1.get b=h.get b)(hv:∀b,blkOf v1=some b→blkOf v=some b∨h.next≤b):Xt (Sd h ob v) (Sd h1 ob v1):=⟨hn,fun b c g ro hb e=>by
 obtain⟨q1,q2,q3⟩:=Sd.up e
 have hb:b<h.next:=hb
 rw[Sd.get q1 (fun e=>by rcases hv b e with q|q;exact q2 q;omega),hg b hb q1 q2];exact q3⟩
theorem SlX.sd{k n:Nat}{cs:List Value}{u:Value}(s:SlX k h n cs u)(hu:∀b,blkOf u=some b→b≠ob∧blkOf v≠some b):SlX k (Sd h ob v) n cs u:=by
 obtain⟨s1,s2⟩:=s
 refine⟨s1,?_⟩
 rcases s2 with s2|⟨b,o,sp,c,c0,g,ro,rfl,e6,e7,e2,e3,e4,e5⟩
 ·exact .inl s2
 ·have:=hu b rfl
  exact .inr ⟨b,o,sp,c,c0,g,ro,rfl,e6,e7,e2,by rw[Sd.get this.1 this.2];exact e3,e4,e5⟩
end
def c3(w:Value×Value×Value):List Value:=[w.1,w.2.1,w.2.2]
theorem c3_length(w:Value×Value×Value):(c3 w).length=3:=rfl
structure Sm(x:Exe):Prop where
 evs:x.evs.length≤60
 rf:x.rf.length≤60
 co:x.co.length≤64
 rows:∀l∈x.co,l.length≤64
def ExW(h:AH)(x:Exe)(w:Value×Value×Value):Prop:=ExeV h x w.1 w.2.1 w.2.2
structure OutSt(h:AH)(ob:Nat)(L:List Exe)(v:Value):Prop where
 at':h.get ob=.cells [v] false false
 hob:ob<h.next
 ne:blkOf v≠some ob
 sm:∀x∈L,Sm x
 ws:∃ws,SlG 3 h 0 L.length (ws.flatMap c3) v∧All2 (ExW (Sd h ob v)) L ws
theorem SlG.blk{k lo n:Nat}{cs:List Value}{v:Value}(s:SlG k h lo n cs v){b:Nat}(hb:blkOf v=some b):lo≤b∧b<h.next:=by
 rcases s.2 with⟨_,rfl⟩|⟨b',h1,h2,h3,rfl⟩
 ·simp[blkOf]at hb
 ·simp[blkOf]at hb;omega
theorem OutSt.ext{ob:Nat}{L:List Exe}{v:Value}(O:OutSt h ob L v)(x:Ext h h1):OutSt h1 ob L v:=by
 obtain⟨ws,s,a⟩:=O.ws
 exact⟨by rw[x.get _ O.hob];exact O.at',Nat.lt_of_lt_of_le O.hob x.next,O.ne,O.sm,ws,s.ext x,a.imp fun _ _ _ _ e=>ExeV.xt e (Sd.ext x)⟩
def OutK(h:AH)(ob:Nat)(v:Value)(R:Value→AH→Prop)(r:Bool×List Exe):Prop:=∀h1 v1,h.next≤h1.next→Xt (Sd h ob v) (Sd h1 ob v1)→OutSt h1 ob r.2 v1→R (.bool r.1) h1
theorem SlG.app{k bytes m m' t o:Nat}{sp:Option Nat}{hh:AH}{lo n:Nat}{cs ec:List Value}{v:Value}{K:Value→AH→Prop}(s:SlG k hh lo n cs v)(he:hh.load t o (m*k)=some ec)(hm:0<m)(hb:(n+m)*bytes≤70368744177664)(hlo:lo≤hh.next)
  (hK:∀h',SlG k h' lo (n+m) (cs++ec) (.slice (some ⟨hh.next,0,some k⟩) (n+m) (n+m))→h'.next=hh.next+1→(∀y,y<hh.next→blkOf v≠some y→h'.get y=hh.get y)→K (.slice (some ⟨hh.next,0,some k⟩) (n+m) (n+m)) h'):
  getvh (sappend hh k bytes v (.slice (some ⟨t,o,sp⟩) m m')) K:=by
 obtain⟨h',e1,e2,e3,e5,e4⟩:=s.append (m:=m) (m':=m') (bytes:=bytes) (sp:=sp) he hm hb hlo
 rw[e1,getvh_some]
 exact hK _ e2 e3 fun y hy hv=>e5 y hy fun n' e=>hv (by rw[e];rfl)
def exA(L:List Exe)(i:Nat):Exe:=(L[i]?).getD ⟨[],[],[]⟩
def bsM(L:List Exe)(x:Exe):Nat→Nat→Nat→Nat
 | 0,lo,_=>lo
 | f+1,lo,hi=>if lo<hi then(if cmpM (exA L ((lo+hi) / 2)) x<0 then bsM L x f ((lo+hi) / 2+1) hi else bsM L x f lo ((lo+hi) / 2))else lo
def posM(L:List Exe)(x:Exe):Nat:=bsM L x L.length 0 L.length
def insM(L:List Exe)(x:Exe):List Exe:=if posM L x<L.length∧cmpM (exA L (posM L x)) x=0 then L else L.take (posM L x)++x::L.drop (posM L x)
def z3:Value×Value×Value:=(.slice none 0 0,.slice none 0 0,.slice none 0 0)
structure PutR(h:AH)(ob:Nat)(v:Value)(x:Exe)(L L1:List Exe)(h1:AH)(v1:Value):Prop where
 next:h.next≤h1.next
 get:∀b,b<h.next→blkOf v≠some b→h1.get b=h.get b
 blk:∀b,blkOf v1=some b→blkOf v=some b∨h.next≤b
 ws:∃ws,SlG 3 h1 0 L1.length (ws.flatMap c3) v1∧All2 (ExW (Sd h ob v)) L1 ws
end Go.Jq
namespace Go.Jq
variable {G:Nat→SFunc} {h h0 h1:AH} {R:Value→AH→Prop}
def leftB(x:Exe)(i:Nat):Bool:=(evA x.evs i).writes&&(decide ((evA x.evs i).loc=x.co.length)&&decide (i≠x.co.length))
def leftN(x:Exe)(j:Nat):List Int:=((List.range j).filter (leftB x)).map fun(i:Nat)=>(i:Int)
def leftM(x:Exe):List Int:=leftN x x.evs.length
mutual
def ordF:Nat→Nat→Exe→List Exe→Nat→Bool×List Exe
 | 0,_,_,out,_=>(false,out)
 | n+1,nl,x,out,most=>if x.co.length=nl then(decide ((insM out x).length≤most),insM out x)else perF n nl x [(x.co.length:Int)] (leftM x) out most
def perF:Nat→Nat→Exe→List Int→List Int→List Exe→Nat→Bool×List Exe
 | 0,_,_,_,_,out,_=>(false,out)
 | n+1,nl,x,row,left,out,most=>if left.length=0 then ordF n nl { x with co:=x.co++[row] } out most
  else(List.range left.length).foldl (fun s i=>if s.1 then perF n nl x (row++[intA left i]) (left.take i++left.drop (i+1)) s.2 most else s) (true,out)
end
def ptrV(b:Nat):Value:=.pointer (some ⟨b,0,none⟩)
theorem OutK.after{ob:Nat}{v v1:Value}{r:Bool×List Exe}(k:OutK h ob v R r)(hn:h.next≤h1.next)(x:Xt (Sd h ob v) (Sd h1 ob v1)):OutK h1 ob v1 R r:=
 fun h2 v2 n2 x2 O=>k h2 v2 (Nat.le_trans hn n2) (x.trans x2) O
theorem OutSt.put{ob:Nat}{L L1:List Exe}{v v1:Value}{x:Exe}(O:OutSt h ob L v)(P:PutR h ob v x L L1 h1 v1)(hs:∀y∈L1,Sm y):OutSt (h1.put ob (.cells [v1] false false)) ob L1 v1∧Xt (Sd h ob v) (Sd (h1.put ob (.cells [v1] false false)) ob v1):=by
 obtain⟨ws,s,a⟩:=P.ws
 have hob:=O.hob
 have nb:blkOf v1≠some ob:=fun e=>by
  rcases P.blk _ e with q|q
  ·exact O.ne q
  ·omega
 have xt:Xt (Sd h ob v) (Sd (h1.put ob (.cells [v1] false false)) ob v1):=Sd.chg (by simpa using P.next) (fun b hb hne hv=>by rw[AH.put_get,if_neg hne,P.get b hb hv]) P.blk
 refine⟨⟨by simp,by simpa using Nat.lt_of_lt_of_le hob P.next,nb,hs,ws,⟨s.1,?_⟩,a.imp fun _ _ _ _ e=>ExeV.xt e xt⟩,xt⟩
 rcases s.2 with q|⟨b,b1,b2,b3,rfl⟩
 ·exact .inl q
 ·exact .inr ⟨b,b1,by simpa using b2,by rw[AH.put_get,if_neg (fun e=>nb (by rw[←e];rfl))];exact b3,rfl⟩
end Go.Jq
namespace Go.Jq
variable {G:Nat→SFunc} {h h0 h1:AH} {R:Value→AH→Prop}
theorem append_blk {h h' : AH} {k bytes : Nat} {v y v' : Value} (e : sappend h k bytes v y = some (v', h')) {x : Nat} (hx : blkOf v' = some x) : blkOf v = some x ∨ x = h.next := by
  unfold sappend at e
  repeat' split at e
  all_goals first
    | (simp at e; done)
    | (simp only [Option.some.injEq, Prod.mk.injEq] at e
       obtain ⟨rfl, _⟩ := e
       first
         | (simp [blkOf] at hx; done)
         | exact .inl (by simpa [blkOf] using hx)
         | (right; simpa [blkOf] using hx.symm)
         | (right; simp [blkOf] at hx; omega))
theorem OutSt.lt{ob:Nat}{L:List Exe}{v:Value}(O:OutSt h ob L v){b:Nat}(e:blkOf v=some b):b<h.next:=by obtain⟨ws,s,_⟩:=O.ws;exact(s.blk e).2
theorem ExW.co{h0:AH}{x:Exe}{ev rv cv:Value}(X:ExeV h0 x ev rv cv):∃tvs,SlX 1 h0 x.co.length tvs cv∧All2 (fun(l:List Int) u=>SlX 1 h0 l.length (l.flatMap intC) u) x.co tvs:=X.co
end Go.Jq
namespace Go.Jq
variable {G:Nat→SFunc} {h h0 h1:AH} {R:Value→AH→Prop}
def srcOk(evs:List Ev6)(i k:Nat):Bool:=decide (k≠i)&&((evA evs k).writes&&(decide ((evA evs k).loc=(evA evs i).loc)&&decide ((evA evs k).w=(evA evs i).r)))
def srcR(evs:List Ev6)(rf:List Int)(j a b:Nat):Bool:=poP evs a b||(decide (b<j)&&decide (intA rf b=a))
def srcF:Nat→Nat→List Ev6→List Int→List Exe→Nat→Bool×List Exe
 | 0,_,_,_,out,_=>(false,out)
 | n+1,nl,evs,rf,out,most=>if rf.length=evs.length then(if acyM evs.length (relOf evs.length (srcR evs rf rf.length))then ordF 5000 nl ⟨evs,rf,[]⟩ out most else(true,out))
  else if(evA evs rf.length).reads then(List.range evs.length).foldl (fun s k=>if s.1&&srcOk evs rf.length k then srcF n nl evs (rf++[(k:Int)]) s.2 most else s) (true,out)
  else srcF n nl evs (rf++[-1]) out most
def rfOk(n:Nat)(rf:List Int):Prop:=∀y∈rf,-1≤y∧y<n
end Go.Jq
namespace Go.Jq
variable {G:Nat→SFunc} {h h0 h1:AH} {R:Value→AH→Prop}
structure UnV(h:AH)(un:List (List (List Ev6)))(uvs:List Value):Prop where
 len:uvs.length=4
 lenU:un.length=4
 row:∀t (hu:t<un.length) (hv:t<uvs.length),NestX Ev6.c 6 h un[t] uvs[t]
theorem UnV.xt{un:List (List (List Ev6))}{uvs:List Value}(U:UnV h un uvs)(x:Xt h h1):UnV h1 un uvs:=⟨U.len,U.lenU,fun t hu hv=>(U.row t hu hv).xt x⟩
end Go.Jq
