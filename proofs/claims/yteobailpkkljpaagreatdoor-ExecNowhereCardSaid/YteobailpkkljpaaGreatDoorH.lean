/- Sets of few numbers, and relations: what they are in memory, and what their functions answer. -/
import Derived.Test.YteobailpkkljpaaGreatDoorC1
set_option linter.unusedSimpArgs false
set_option linter.unusedVariables false
set_option maxHeartbeats 2000000
namespace Go.Jq
variable {G:Nat→SFunc} {h:AH} {R:Value→AH→Prop}
theorem wrapu{n:Int}(h:0≤n∧n<18446744073709551616):IntKind.u64.wrap n=n:=by
 simp only[IntKind.wrap,IntKind.bits,IntKind.signed]
 simp;omega
theorem iand_nat{a b:Nat}(ha:a<2^64)(hb:b<2^64):iand .u64 a b=((a &&& b:Nat):Int):=by
 have e:(BitVec.ofInt IntKind.u64.bits (a:Int) &&& BitVec.ofInt IntKind.u64.bits (b:Int)).toNat=a &&& b:=by
  rw[BitVec.toNat_and,BitVec.ofInt_natCast,BitVec.ofInt_natCast,BitVec.toNat_ofNat,BitVec.toNat_ofNat]
  show a % 2^64 &&& b % 2^64=_
  rw[Nat.mod_eq_of_lt ha,Nat.mod_eq_of_lt hb]
 rw[iand,e,wrapu]
 have:a &&& b≤a:=Nat.and_le_left
 omega
theorem ior_nat{a b:Nat}(ha:a<2^64)(hb:b<2^64):ior .u64 a b=((a ||| b:Nat):Int):=by
 have e:(BitVec.ofInt IntKind.u64.bits (a:Int) ||| BitVec.ofInt IntKind.u64.bits (b:Int)).toNat=a ||| b:=by
  rw[BitVec.toNat_or,BitVec.ofInt_natCast,BitVec.ofInt_natCast,BitVec.toNat_ofNat,BitVec.toNat_ofNat]
  show a % 2^64 ||| b % 2^64=_
  rw[Nat.mod_eq_of_lt ha,Nat.mod_eq_of_lt hb]
 rw[ior,e,wrapu]
 have:a ||| b<2^64:=Nat.or_lt_two_pow ha hb
 omega
abbrev stW(s:Nat):Value:=.int .u64 (s:Int)
def bitN(i:Int):Nat:=if 0≤i∧i<64 then 2^i.toNat else 0
theorem bitN_lt{i:Int}:bitN i<2^64:=by
 unfold bitN;split
 ·exact Nat.pow_lt_pow_right (by omega) (by omega)
 ·decide
def hasB(s:Nat)(i:Int):Bool:=decide (0≤i∧i<64)&&s.testBit i.toNat
theorem and_bit{s:Nat}{i:Int}:decide (¬(s &&& bitN i)=0)=hasB s i:=by
 unfold bitN hasB
 by_cases h:0≤i∧i<64
 ·rw[if_pos h,decide_eq_true h,Bool.true_and]
  have e:s &&& 2^i.toNat=(s.testBit i.toNat).toNat*2^i.toNat:=by
   apply Nat.eq_of_testBit_eq
   intro j
   rw[Nat.testBit_and,Nat.testBit_two_pow]
   cases hb:s.testBit i.toNat with
   | false=>
    simp
    rintro h1 rfl;rw[hb]at h1;simp at h1
   | true=>
    simp only[Bool.toNat_true,Nat.one_mul,Nat.testBit_two_pow]
    by_cases hj:i.toNat=j
    ·subst hj;simp[hb]
    ·simp[hj]
  rw[e]
  have:0<2^i.toNat:=Nat.pow_pos (by omega)
  cases s.testBit i.toNat<;>simp
 ·rw[if_neg h,decide_eq_false h];simp
def withN(s:Nat)(i:Int):Nat:=s ||| bitN i
theorem withN_lt{s:Nat}{i:Int}(h:s<2^64):withN s i<2^64:=Nat.or_lt_two_pow h bitN_lt
theorem withN_bit{s:Nat}{i:Int}{j:Nat}:(withN s i).testBit j=(s.testBit j||(decide (0≤i∧i<64)&&decide (i=j))):=by
 unfold withN bitN
 rw[Nat.testBit_or]
 congr 1
 by_cases h:0≤i∧i<64
 ·rw[if_pos h,decide_eq_true h,Nat.testBit_two_pow,Bool.true_and]
  congr 1
  apply propext;omega
 ·rw[if_neg h,decide_eq_false h];simp
structure SetG(G:Nat→SFunc):Prop where
 g103:G 103=c103
 g58:G 58=c58
 g102:G 102=c102
theorem bit_spec(g:SetG G){i:Int}(k:R (stW (bitN i)) h):WC G 103 [.int .i64 i] h R:=by
 refine WC_enter g.g103 rfl ?_
 show W G c103_body _ _ (retK [.tmp 2] R)
 unfold c103_body c103_0 c103_1 c103_2 c103_3
 by_cases h1:i<0
 ·have:bitN i=0:=by unfold bitN;rw[if_neg];omega
  rw[this]at k
  simp -implicitDefEqProofs[h1]
  exact k
 ·by_cases h2:64≤i
  ·have:bitN i=0:=by unfold bitN;rw[if_neg];omega
   rw[this]at k
   simp -implicitDefEqProofs[h1,h2]
   exact k
  ·have e:bitN i=2^i.toNat:=by unfold bitN;rw[if_pos];omega
   have e1:IntKind.u64.wrap i=i:=wrapu (by omega)
   have e2:min i.toNat IntKind.u64.bits=i.toNat:=by
    have:IntKind.u64.bits=64:=rfl
    rw[this];omega
   have hp:(2:Nat)^i.toNat<2^64:=Nat.pow_lt_pow_right (by omega) (by omega)
   have e3:IntKind.u64.wrap ((1:Int)*2^i.toNat)=((2^i.toNat:Nat):Int):=by
    rw[Int.one_mul]
    have:(2:Int)^i.toNat=((2^i.toNat:Nat):Int):=by simp
    rw[this]
    exact wrapu ⟨by omega,by omega⟩
   rw[e]at k
   simp -implicitDefEqProofs only[W_seq,W_reg,W_cond,W_ret,W_skip]
   simp -implicitDefEqProofs[h1,h2,e1,e2,sbin]
   rw[Int.one_mul]at e3
   rw[e3]
   simp at k ⊢
   exact k
theorem Has_spec(g:SetG G){s:Nat}{i:Int}(hs:s<2^64)(k:R (.bool (hasB s i)) h):WC G 58 [stW s,.int .i64 i] h R:=by
 refine WC_enter g.g58 rfl ?_
 show W G c58_body _ _ (retK [.tmp 4] R)
 unfold c58_body c58_0 c58_1
 simp -implicitDefEqProofs
 refine bit_spec g ?_
 have e:((s &&& bitN i:Nat):Int)=0↔(s &&& bitN i)=0:=by omega
 rw[←and_bit]at k
 simp -implicitDefEqProofs[iand_nat hs bitN_lt,e]
 simpa using k
theorem With_spec(g:SetG G){s:Nat}{i:Int}(hs:s<2^64)(k:R (stW (withN s i)) h):WC G 102 [stW s,.int .i64 i] h R:=by
 refine WC_enter g.g102 rfl ?_
 show W G c102_body _ _ (retK [.tmp 4] R)
 unfold c102_body c102_0 c102_1
 simp -implicitDefEqProofs
 refine bit_spec g ?_
 simp -implicitDefEqProofs[ior_nat hs bitN_lt]
 exact k
def rowC(r:Nat→Nat):List Value:=(List.range 64).map fun i=>stW (r i)
def relC(n:Nat)(r:Nat→Nat):List Value:=.int .i64 (n:Int)::rowC r
def relV(n:Nat)(r:Nat→Nat):Value:=.agg (relC n r).toArray
theorem rowC_length{r:Nat→Nat}:(rowC r).length=64:=by simp[rowC]
@[simp] theorem relC_length {n:Nat} {r:Nat→Nat}:(relC n r).length=65:=by simp[relC,rowC_length]
theorem rowC_get{r:Nat→Nat}{i:Nat}(h:i<64):(rowC r)[i]?=some (stW (r i)):=by simp[rowC,h]
@[simp] theorem relC_get0 {n:Nat} {r:Nat→Nat}:(relC n r)[0]?=some (.int .i64 (n:Int)):=rfl
@[simp] theorem relC_g0 {n:Nat} {r:Nat→Nat} {h:0<(relC n r).length}:(relC n r)[0]=.int .i64 (n:Int):=rfl
theorem relC_get{n:Nat}{r:Nat→Nat}{i:Nat}(h:i<64):(relC n r)[1+i]?=some (stW (r i)):=by
 rw[Nat.add_comm,relC,List.getElem?_cons_succ,rowC_get h]
def updR(r:Nat→Nat)(i v:Nat):Nat→Nat:=fun j=>if j=i then v else r j
theorem rowC_set{r:Nat→Nat}{i v:Nat}:(rowC r).set i (stW v)=rowC (updR r i v):=by
 apply List.ext_getElem?
 intro j
 rw[List.getElem?_set,rowC_length]
 by_cases hj:j<64
 ·rw[rowC_get hj,rowC_get hj]
  by_cases h:i=j
  ·subst h;simp[updR,hj]
  ·have:¬j=i:=fun e=>h e.symm
   simp[h,updR,this]
 ·by_cases h:i=j
  ·subst h
   rw[if_pos rfl,if_neg hj,List.getElem?_eq_none (by rw[rowC_length];omega)]
  ·rw[if_neg h,List.getElem?_eq_none (by rw[rowC_length];omega),List.getElem?_eq_none (by rw[rowC_length];omega)]
theorem relC_set{n:Nat}{r:Nat→Nat}{i v:Nat}:(relC n r).set (1+i) (stW v)=relC n (updR r i v):=by
 rw[Nat.add_comm,relC,List.set_cons_succ,rowC_set];rfl
theorem zrel_eq:zrel=relC 0 fun _=>0:=rfl
theorem zrel_length:zrel.length=65:=rfl
theorem relC_take{n:Nat}{r:Nat→Nat}:(relC n r).take 65=relC n r:=List.take_of_length_le (by simp)
structure RelG(G:Nat→SFunc):Prop extends SetG G where
 g38:G 38=c38
 g98:G 98=c98
 g56:G 56=c56
 g57:G 57=c57
def inB(n:Nat)(a:Int):Bool:=decide (0≤a)&&decide (a<n)
def newN(a:Int):Nat:=if a≤0 then 0 else if 64≤a then 64 else a.toNat
theorem newN_of{a:Nat}(h:a≤64):newN (a:Int)=a:=by unfold newN;split<;>(try split)<;>omega
theorem zrel_put{n:Nat}:splice zrel 0 [.int .i64 (n:Int)]=relC n fun _=>0:=rfl
theorem zrel_splice{n:Nat}{r:Nat→Nat}:splice zrel 0 (relC n r)=relC n r:=splice_all (by simp[zrel_length])
theorem New_rel(g:RelG G){a:Int}(k:∀h1,Ext h h1→R (relV (newN a) fun _=>0) h1):WC G 38 [.int .i64 a] h R:=by
 refine WC_enter g.g38 rfl ?_
 show W G c38_body _ _ (retK [.cellN 2 65] R)
 unfold c38_body c38_0 c38_1
 have k1:∀o o',R (relV (newN a) fun _=>0) ((h.alloc o).put h.next o'):=fun o o'=>k _ (((Ext.refl h).alloc _).put (Nat.le_refl _) _)
 have e:(if 64<(if a<0 then(0:Int)else a)then(64:Int)else(if a<0 then(0:Int)else a))=(newN a:Int):=by
  unfold newN;split<;>split<;>(try split)<;>(try split)<;>omega
 have e':smm true (.int .i64 a) [.int .i64 0]=some (.int .i64 (if a<0 then 0 else a)):=by simp[smm]
 have e2:∀b:Int,smm false (.int .i64 b) [.int .i64 64]=some (.int .i64 (if b>64 then 64 else b)):=fun b=>by simp[smm]
 simp -implicitDefEqProofs[e',e2,e,zrel_put,zrel_splice,zrel_length,relC_take]
 exact k1 _ _
theorem in_rel(g:RelG G){n:Nat}{r:Nat→Nat}{a:Int}(k:∀h1,Ext h h1→R (.bool (inB n a)) h1):WC G 98 [relV n r,.int .i64 a] h R:=by
 refine WC_enter g.g98 rfl ?_
 show W G c98_body _ _ (retK [.tmp 4] R)
 unfold c98_body c98_0 c98_1
 have kk:∀o,R (.bool (inB n a)) (h.alloc o):=fun o=>k _ ((Ext.refl h).alloc o)
 by_cases h1:0≤a
 ·by_cases h2:a<n
  ·have e:inB n a=true:=by simp[inB,h1,h2]
   rw[e]at kk
   simp -implicitDefEqProofs[relV,h1,h2]
   exact kk _
  ·have e:inB n a=false:=by simp[inB,h2]
   rw[e]at kk
   simp -implicitDefEqProofs[relV,h1,h2]
   exact kk _
 ·have e:inB n a=false:=by simp[inB,h1]
  rw[e]at kk
  simp -implicitDefEqProofs[relV,h1]
  exact kk _
theorem inB_nat{n:Nat}{a:Int}(h:inB n a=true):∃i:Nat,a=i∧i<n:=by
 simp only[inB,Bool.and_eq_true,decide_eq_true_eq]at h
 exact⟨a.toNat,by omega,by omega⟩
def RowsOk(r:Nat→Nat):Prop:=∀i,r i<2^64
def addR(n:Nat)(r:Nat→Nat)(a b:Int):Nat→Nat:=if inB n a&&inB n b then updR r a.toNat (withN (r a.toNat) b)else r
def cloI(k:Nat)(r:Nat→Nat)(i:Nat):Nat→Nat:=if(r i).testBit k then updR r i (r i ||| r k)else r
def cloK(n:Nat)(r:Nat→Nat)(k:Nat):Nat→Nat:=(List.range n).foldl (cloI k) r
def clo(n:Nat)(r:Nat→Nat):Nat→Nat:=(List.range n).foldl (cloK n) r
theorem cloI_ok{k:Nat}{r:Nat→Nat}{i:Nat}(hr:RowsOk r):RowsOk (cloI k r i):=by
 unfold cloI;split
 ·intro j;unfold updR;split
  ·exact Nat.or_lt_two_pow (hr _) (hr _)
  ·exact hr _
 ·exact hr
theorem foldl_ok{α:Type}{f:(Nat→Nat)→α→(Nat→Nat)}(hf:∀r a,RowsOk r→RowsOk (f r a)):∀{l:List α} {r:Nat→Nat},RowsOk r→RowsOk (l.foldl f r)
 | [],_,h=>h
 | _::l,_,h=>foldl_ok hf (l:=l) (hf _ _ h)
theorem cloK_ok{n k:Nat}{r:Nat→Nat}(hr:RowsOk r):RowsOk (cloK n r k):=foldl_ok (fun _ _ h=>cloI_ok h) hr
theorem clo_ok{n:Nat}{r:Nat→Nat}(hr:RowsOk r):RowsOk (clo n r):=foldl_ok (fun _ _ h=>cloK_ok h) hr
theorem foldl_range{α:Type}{f:α→Nat→α}{a:α}{n:Nat}:(List.range (n+1)).foldl f a=f ((List.range n).foldl f a) n:=by
 rw[List.range_succ,List.foldl_append];rfl
theorem SlV.row{α:Type}{f:α→List Value}{k:Nat}(hf:∀x,(f x).length=k){l:List α}{v:Value}(s:SlV k h l.length (l.flatMap f) v){i:Nat}(hi:i<l.length):
  ∃b o sp c c0 g ro,v=.slice (some ⟨b,o,sp⟩) l.length c∧b<h.next∧h.get b=.cells c0 g ro∧o+i*k+k≤c0.length∧(c0.drop (o+i*k)).take k=f l[i]∧∀j,j<k→c0[o+i*k+j]?=(f l[i])[j]?:=by
 obtain⟨b,o,sp,c,c0,g,ro,e1,e2,e3,e4,e5,e6⟩:=s.cells hi
 refine⟨b,o,sp,c,c0,g,ro,e1,e2,e3,e5,?_,fun j hj=>?_⟩
 ·rw[e6]
  have:=fm_take_drop hf l i 1
  rw[Nat.one_mul]at this
  rw[this,List.drop_eq_getElem_cons hi,List.take_succ_cons,List.take_zero,List.flatMap_cons,List.flatMap_nil,List.append_nil]
 ·rw[e4 j hj,fm_get hf l i j hj,List.getElem?_eq_getElem hi];rfl
end Go.Jq
namespace Go.Jq
variable {G:Nat→SFunc} {h:AH} {R:Value→AH→Prop}
theorem SlG.app1{k bytes:Nat}{h0 hh:AH}{lo n:Nat}{cs ec:List Value}{v:Value}{K:Value→AH→Prop}(s:SlG k hh lo n cs v)(he:ec.length=k)(hb:(n+1)*bytes≤70368744177664)
  (x:Ext h0 hh)(h1:h0.next≤lo)(h2:lo≤hh.next)(hK:∀v' h',SlG k h' lo (n+1) (cs++ec) v'→Ext h0 h'→K v' h'):
  getvh (sappend (hh.alloc (.cells ec false false)) k bytes v (.slice (some ⟨hh.next,0,none⟩) 1 1)) K:=by
 have xa:Ext hh (hh.alloc (.cells ec false false)):=(Ext.refl hh).alloc _
 have hl:(hh.alloc (.cells ec false false)).load hh.next 0 (1*k)=some ec:=load_all (g:=false) (ro:=false) (by simp) (by omega)
 obtain⟨h',e1,e2,e3,_,e4⟩:=(s.ext xa).append (m:=1) (m':=1) (bytes:=bytes) (sp:=none) hl (by omega) hb (by simp;omega)
 rw[e1,getvh_some]
 refine hK _ _ e2 ⟨by have:=x.next;simp at e3;omega,fun y hy=>?_⟩
 rw[e4 y (by omega),xa.get y (by have:=x.next;omega),x.get y hy]
end Go.Jq
namespace Go.Jq
variable {G:Nat→SFunc} {h:AH} {R:Value→AH→Prop}
theorem low_bit{s:Nat}(h0:s≠0)(h:s<2^64):Lib.ctz 64 s<64∧s.testBit (Lib.ctz 64 s)=true∧(∀i,i<Lib.ctz 64 s→s.testBit i=false)∧∀i,(s &&& (s-1)).testBit i=(s.testBit i&&decide (i≠Lib.ctz 64 s)):=by
 obtain⟨m,hm,hk⟩:=Lib.ctzFrom_spec 64 s (by omega) h
 have e:Lib.ctz 64 s=Lib.ctzFrom 64 s:=by simp[Lib.ctz,h0]
 rw[e]
 generalize Lib.ctzFrom 64 s=j at*
 have hb:∀i,s.testBit i=(decide (j≤i)&&(2*m+1).testBit (i-j)):=fun i=>by
  rw[hm,Nat.testBit_two_pow_mul]
 have h1:(2*m+1).testBit 0=true:=by simp
 have hp:0<2^j:=Nat.pow_pos (by omega)
 have hs1:s-1=2^j*(2*m)+(2^j-1):=by
  rw[hm,Nat.mul_add,Nat.mul_one];omega
 refine⟨hk,?_,fun i hi=>?_,fun i=>?_⟩
 ·rw[hb];simp
 ·rw[hb];simp;omega
 ·rw[Nat.testBit_and,hs1,Nat.testBit_two_pow_mul_add _ (by omega),hb]
  by_cases hi:i<j
  ·rw[if_pos hi,decide_eq_false (by omega:¬j≤i)];simp
  ·rw[if_neg hi,decide_eq_true (by omega:j≤i)]
   by_cases e:i=j
   ·subst e;simp
   ·obtain⟨d,hd⟩:∃d,i-j=d+1:=⟨i-j-1,by omega⟩
    rw[hd]
    have:(2*m+1).testBit (d+1)=(2*m).testBit (d+1):=by
     rw[Nat.testBit_succ,Nat.testBit_succ];congr 1;omega
    simp[this,e]
def setL(s:Nat):List Nat:=(List.range 64).filter s.testBit
theorem setL_zero:setL 0=[]:=by
 unfold setL
 rw[List.filter_eq_nil_iff];simp
theorem setL_succ{s:Nat}(h0:s≠0)(h:s<2^64):setL s=Lib.ctz 64 s::setL (s &&& (s-1)):=by
 obtain⟨hk,h1,h2,h3⟩:=low_bit h0 h
 generalize Lib.ctz 64 s=j at*
 have e:List.range 64=List.range j++(j::List.range' (j+1) (63-j)):=by
  rw[List.range_eq_range',List.range_eq_range',←List.range'_succ]
  have:=@List.range'_append_1 0 j (63-j+1)
  rw[Nat.zero_add]at this
  rw[this];congr 1;omega
 unfold setL
 rw[e,List.filter_append,List.filter_append,List.filter_cons,List.filter_cons,if_pos h1]
 have a1:(List.range j).filter s.testBit=[]:=by
  rw[List.filter_eq_nil_iff]
  intro i hi;rw[List.mem_range]at hi;simp[h2 i hi]
 have a2:(List.range j).filter (s &&& (s-1)).testBit=[]:=by
  rw[List.filter_eq_nil_iff]
  intro i hi;rw[List.mem_range]at hi;rw[h3];simp[h2 i hi]
 have a3:(s &&& (s-1)).testBit j=false:=by rw[h3];simp
 rw[a1,a2,a3,List.nil_append,List.nil_append,if_neg (by simp)]
 congr 1
 apply List.filter_congr
 intro i hi
 rw[List.mem_range'_1]at hi
 rw[h3]
 have:i≠j:=by omega
 simp[this]
structure ListG(G:Nat→SFunc):Prop where
 g170:(G 170).body=.native 0
 g99:G 99=c99
def firstI(s:Nat):Int:=if s=0 then -1 else Lib.ctz 64 s
theorem First_spec(g:ListG G){s:Nat}(hs:s<2^64)(k:R (.int .i64 (firstI s)) h):WC G 99 [stW s] h R:=by
 refine WC_enter g.g99 rfl ?_
 show W G c99_body _ _ (retK [.tmp 2] R)
 unfold c99_body c99_0 c99_1 c99_2 c99_3
 by_cases h0:s=0
 ·subst h0
  simp -implicitDefEqProofs
  exact k
 ·have h0':¬(s:Int)=0:=by omega
  rw[firstI,if_neg h0]at k
  simp -implicitDefEqProofs[h0]
  refine WC_native g.g170 (v:=.int .i64 (Lib.ctz 64 s)) ?_ ?_
  ·simp only[natOf];rw[if_pos (by omega)];simp
  ·simp -implicitDefEqProofs
   exact k
structure PairG(G:Nat→SFunc):Prop extends ListG G where
end Go.Jq
namespace Go.Jq
variable {G:Nat→SFunc} {h:AH} {R:Value→AH→Prop}
def acyM(n:Nat)(r:Nat→Nat):Bool:=(List.range n).all fun i=>!(clo n r i).testBit i
end Go.Jq
namespace Go.Jq
variable {k n m bytes lo:Nat} {h h1:AH} {cs ec:List Value} {v y:Value}
def blkOf:Value→Option Nat
 | .slice (some a) _ _=>some a.block
 | _=>none
def SlX(k:Nat)(h:AH)(n:Nat)(cs:List Value)(v:Value):Prop:=
 cs.length=n*k∧((n=0∧v=.slice none 0 0)∨∃b o sp c c0 g ro,v=.slice (some ⟨b,o,sp⟩) n c∧(sp=none∨sp=some k)∧n≤c∧b<h.next∧h.get b=.cells c0 g ro∧o+n*k≤c0.length∧(c0.drop o).take (n*k)=cs)
theorem SlX.nil:SlX k h 0 [] (.slice none 0 0):=⟨by simp,.inl ⟨rfl,rfl⟩⟩
theorem SlX.view(s:SlX k h n cs v):SlV k h n cs v:=by
 obtain⟨s1,s2⟩:=s
 refine⟨s1,?_⟩
 rcases s2 with⟨rfl,rfl⟩|⟨b,o,sp,c,c0,g,ro,e1,_,_,e2,e3,e4,e5⟩
 ·exact .inl ⟨rfl,_,_,rfl⟩
 ·exact .inr ⟨b,o,sp,c,c0,g,ro,e1,e2,e3,e4,e5⟩
theorem SlX.same(s:SlX k h n cs v)(hn:h.next≤h1.next)(hg:∀b,blkOf v=some b→h1.get b=h.get b):SlX k h1 n cs v:=by
 obtain⟨s1,s2⟩:=s
 refine⟨s1,?_⟩
 rcases s2 with s2|⟨b,o,sp,c,c0,g,ro,rfl,e6,e7,e2,e3,e4,e5⟩
 ·exact .inl s2
 ·exact .inr ⟨b,o,sp,c,c0,g,ro,rfl,e6,e7,Nat.lt_of_lt_of_le e2 hn,by rw[hg b rfl];exact e3,e4,e5⟩
theorem SlX.lt(s:SlX k h n cs v){b:Nat}(hb:blkOf v=some b):b<h.next:=by
 rcases s.2 with⟨rfl,rfl⟩|⟨b',o,sp,c,c0,g,ro,rfl,e6,e7,e2,e3,e4,e5⟩
 ·simp[blkOf]at hb
 ·simp[blkOf]at hb;omega
theorem SlX.ext(s:SlX k h n cs v)(x:Ext h h1):SlX k h1 n cs v:=s.same x.next fun b hb=>x.get b (s.lt hb)
theorem SlX.len(s:SlX k h n cs v):∃a c,v=.slice a n c:=s.view.len
theorem SlG.x{lo:Nat}(s:SlG k h lo n cs v):SlX k h n cs v:=by
 obtain⟨s1,s2⟩:=s
 refine⟨s1,?_⟩
 rcases s2 with⟨rfl,rfl⟩|⟨b,h1,h2,h3,rfl⟩
 ·exact .inl ⟨rfl,rfl⟩
 ·exact .inr ⟨b,0,some k,_,cs,true,false,rfl,.inr rfl,Nat.le_refl _,h2,h3,by omega,by simp[←s1]⟩
theorem SlG.lo'{lo:Nat}(s:SlG k h lo n cs v){b:Nat}(hb:blkOf v=some b):lo≤b∧b<h.next:=by
 rcases s.2 with⟨_,rfl⟩|⟨b',h1,h2,h3,rfl⟩
 ·simp[blkOf]at hb
 ·simp[blkOf]at hb;omega
theorem SlX.take{a:Option Addr}{c i:Nat}(s:SlX k h n cs (.slice a n c))(hn:0<n)(hi:i≤n):∃v',sslice k a n c none (some (.int .i64 i)) none=some v'∧SlX k h i (cs.take (i*k)) v'∧blkOf v'=blkOf (.slice a n c):=by
 obtain⟨s1,s2⟩:=s
 rcases s2 with⟨h0,_⟩|⟨b,o,sp,c',c0,g,ro,e,esp,e7,e2,e3,e4,e5⟩
 ·omega
 ·simp only[Value.slice.injEq,true_and]at e
  obtain⟨rfl,rfl⟩:=e
  have hle:i*k≤n*k:=Nat.mul_le_mul_right k hi
  have fin:∀c2,i≤c2→SlX k h i (cs.take (i*k)) (.slice (some ⟨b,o,sp⟩) i c2):=fun c2 h2=>⟨by rw[List.length_take,s1];omega,.inr ⟨b,o,sp,c2,c0,g,ro,rfl,esp,h2,e2,e3,by omega,by rw[←e5,List.take_take,Nat.min_eq_left hle]⟩⟩
  unfold sslice
  rw[sbounds_h,if_pos (by omega)]
  simp only[Int.toNat_natCast,Nat.sub_zero]
  rcases esp with rfl|rfl
  ·refine⟨_,rfl,?_,?_⟩
   ·simp only[addrAdd,Nat.zero_mul,Nat.add_zero,ite_self]
    exact fin _ (by omega)
   ·simp[addrAdd,blkOf]
  ·simp only[if_true,Option.isSome_none,Bool.false_eq_true,false_and,if_false]
   refine⟨_,rfl,?_,?_⟩
   ·simp only[addrAdd,Nat.zero_mul,Nat.add_zero]
    exact fin _ (by omega)
   ·simp[addrAdd,blkOf]
theorem SlX.drop{a:Option Addr}{c i:Nat}(s:SlX k h n cs (.slice a n c))(hn:0<n)(hi:i≤n):∃v',sslice k a n c (some (.int .i64 i)) none none=some v'∧SlX k h (n-i) (cs.drop (i*k)) v'∧blkOf v'=blkOf (.slice a n c):=by
 obtain⟨s1,s2⟩:=s
 rcases s2 with⟨h0,_⟩|⟨b,o,sp,c',c0,g,ro,e,esp,e7,e2,e3,e4,e5⟩
 ·omega
 ·simp only[Value.slice.injEq,true_and]at e
  obtain⟨rfl,rfl⟩:=e
  have hle:i*k≤n*k:=Nat.mul_le_mul_right k hi
  have hs:(n-i)*k=n*k-i*k:=Nat.sub_mul n i k
  have fin:∀sp,(sp=none∨sp=some k)→SlX k h (n-i) (cs.drop (i*k)) (.slice (some ⟨b,o+i*k,sp⟩) (n-i) (c-i)):=fun sp h2=>⟨by rw[List.length_drop,s1,hs],.inr ⟨b,o+i*k,sp,c-i,c0,g,ro,rfl,h2,by omega,e2,e3,by omega,by rw[←e5,List.drop_take,List.drop_drop,hs]⟩⟩
  unfold sslice
  rw[sbounds_l,if_pos (by omega)]
  simp only[Int.toNat_natCast]
  rcases esp with rfl|rfl
  ·refine⟨_,rfl,?_,?_⟩
   ·by_cases hc:c=i
    ·have hn':n=i:=by omega
     simp only[if_pos hc]
     subst hn'
     refine⟨by rw[List.length_drop,s1,hs],.inr ⟨b,o,none,c-n,c0,g,ro,by simp,.inl rfl,by omega,e2,e3,by simp;omega,?_⟩⟩
     simp
     omega
    ·simp only[if_neg hc,addrAdd]
     exact fin _ (.inl rfl)
   ·by_cases hc:c=i<;>simp[hc,addrAdd,blkOf]
  ·simp only[if_true,Option.isSome_none,Bool.false_eq_true,false_and,if_false]
   refine⟨_,rfl,?_,?_⟩
   ·simp only[addrAdd]
    exact fin _ (.inr rfl)
   ·simp[addrAdd,blkOf]
def Own(k:Nat)(h:AH)(lo n:Nat)(cs:List Value)(v:Value):Prop:=
 cs.length=n*k∧((n=0∧∃b c g ro,lo≤b∧b<h.next∧h.get b=.cells c g ro∧v=.slice (some ⟨b,0,none⟩) 0 0)∨∃b,lo≤b∧b<h.next∧h.get b=.cells cs true false∧v=.slice (some ⟨b,0,some k⟩) n n)
theorem Own.x(s:Own k h lo n cs v):SlX k h n cs v:=by
 obtain⟨s1,s2⟩:=s
 refine⟨s1,?_⟩
 rcases s2 with⟨rfl,b,c,g,ro,h1,h2,h3,rfl⟩|⟨b,h1,h2,h3,rfl⟩
 ·exact .inr ⟨b,0,none,0,c,g,ro,rfl,.inl rfl,Nat.le_refl _,h2,h3,by omega,by simp at s1;simp[s1]⟩
 ·exact .inr ⟨b,0,some k,_,cs,true,false,rfl,.inr rfl,Nat.le_refl _,h2,h3,by omega,by simp[←s1]⟩
theorem Own.append(s:Own k h lo n cs v)(t:SlX k h m ec y)(hb:(n+m)*bytes≤70368744177664)(hlo:lo≤h.next)(hk:0<k):
  ∃v' h',sappend h k bytes v y=some (v',h')∧Own k h' lo (n+m) (cs++ec) v'∧h.next≤h'.next∧∀x,x<h.next→blkOf v≠some x→h'.get x=h.get x:=by
 have hl:lenOf y=some m∧firstOf h k m y=some ec:=by
  obtain⟨t1,t2⟩:=t
  rcases t2 with⟨rfl,rfl⟩|⟨b,o,sp,c,c0,g,ro,rfl,e6,e7,e2,e3,e4,e5⟩
  ·simp at t1;subst t1;exact⟨rfl,rfl⟩
  ·refine⟨rfl,?_⟩
   show h.load b o (m*k)=some ec
   rw[load_of e3 e4,e5]
 obtain⟨l1,l2⟩:=hl
 have tl:=t.1
 have hgt:¬(n+m)*bytes>70368744177664:=by omega
 obtain⟨s1,s2⟩:=s
 by_cases hm:m=0
 ·have ec0:ec=[]:=List.eq_nil_of_length_eq_zero (by rw[tl,hm];simp)
  refine⟨v,h,?_,by rw[hm,ec0,Nat.add_zero,List.append_nil];exact⟨s1,s2⟩,Nat.le_refl _,fun _ _ _=>rfl⟩
  rcases s2 with⟨rfl,b,c,g,ro,h1,h2,h3,rfl⟩|⟨b,h1,h2,h3,rfl⟩
  ·unfold sappend
   simp only[l1,l2]
   rw[if_neg hgt]
   simp[hm]
  ·unfold sappend
   simp only[l1,l2]
   rw[if_neg hgt]
   simp[hm]
 ·rcases s2 with⟨rfl,b,c,g,ro,h1,h2,h3,rfl⟩|⟨b,h1,h2,h3,rfl⟩
  ·have cs0:cs=[]:=List.eq_nil_of_length_eq_zero (by rw[s1];simp)
   subst cs0
   refine⟨.slice (some ⟨h.next,0,some k⟩) (0+m) (0+m),h.alloc (.cells ([]++ec) true false),?_,⟨by simp[tl],.inr ⟨h.next,hlo,by simp,by simp,rfl⟩⟩,by simp,fun x hx _=>by simp;omega⟩
   unfold sappend
   simp only[l1,l2]
   rw[if_neg hgt,if_neg (by omega)]
   have hz:h.load b (0:Nat) (0*k)=some []:=by rw[Nat.zero_mul,load_of h3 (by omega)];simp
   rw[hz,h3]
  ·refine⟨.slice (some ⟨h.next,0,some k⟩) (n+m) (n+m),(h.put b .dead).alloc (.cells (cs++ec) true false),?_,⟨by simp[s1,tl,Nat.add_mul],.inr ⟨h.next,hlo,by simp,by simp,rfl⟩⟩,by simp,fun x hx hne=>?_⟩
   ·unfold sappend
    simp only[l1,l2]
    rw[if_neg hgt,if_neg (by omega)]
    have hz:h.load b (0:Nat) (n*k)=some cs:=load_all h3 (by omega)
    rw[hz,h3]
    simp
   ·have:x≠b:=by rintro rfl;exact hne rfl
    simp[this];omega
end Go.Jq
namespace Go.Jq
variable {h:AH} {R:Value→AH→Prop}
structure Ins where
 kind:Int
 reg:Int
 loc:Int
 areg:Int
 aval:Int
 op:Int
 breg:Int
 bval:Int
 n:Int
 deriving DecidableEq,Inhabited
def Ins.c(i:Ins):List Value:=[.int .i64 i.kind,.int .i64 i.reg,.int .i64 i.loc,.int .i64 i.areg,.int .i64 i.aval,.int .i64 i.op,.int .i64 i.breg,.int .i64 i.bval,.int .i64 i.n]
def Ins.v(i:Ins):Value:=.agg i.c.toArray
theorem Ins.c_length(i:Ins):i.c.length=9:=rfl
def i2c(x:Int×Int):List Value:=[.int .i64 x.1,.int .i64 x.2]
theorem i2c_length(x:Int×Int):(i2c x).length=2:=rfl
def intC(x:Int):List Value:=[.int .i64 x]
theorem intC_length(x:Int):(intC x).length=1:=rfl
def bytC(x:Int):List Value:=[.int .u8 x]
theorem bytC_length(x:Int):(bytC x).length=1:=rfl
def oneC(x:Value):List Value:=[x]
theorem oneC_length(x:Value):(oneC x).length=1:=rfl
theorem oneC_fm{l:List Value}:l.flatMap oneC=l:=by
 induction l with
 | nil=>rfl
 | cons a l ih=>rw[List.flatMap_cons,ih];rfl
inductive All2 {α β:Type} (p:α→β→Prop):List α→List β→Prop where
 | nil:All2 p [] []
 | cons {a:α} {b:β} {l:List α} {m:List β}:p a b→All2 p l m→All2 p (a::l) (b::m)
theorem All2.len{α β:Type}{p:α→β→Prop}{l:List α}{m:List β}(h:All2 p l m):l.length=m.length:=by
 induction h with
 | nil=>rfl
 | cons _ _ ih=>simp[ih]
theorem All2.imp{α β:Type}{p q:α→β→Prop}{l:List α}{m:List β}(h:All2 p l m)(k:∀a b,a∈l→b∈m→p a b→q a b):All2 q l m:=by
 induction h with
 | nil=>exact .nil
 | cons h1 _ ih=>exact .cons (k _ _ List.mem_cons_self List.mem_cons_self h1) (ih fun a b ha hb=>k a b (List.mem_cons_of_mem _ ha) (List.mem_cons_of_mem _ hb))
theorem All2.snoc{α β:Type}{p:α→β→Prop}{l:List α}{m:List β}{a:α}{b:β}(h:All2 p l m)(hp:p a b):All2 p (l++[a]) (m++[b]):=by
 induction h with
 | nil=>exact .cons hp .nil
 | cons h1 _ ih=>exact .cons h1 ih
theorem All2.at{α β:Type}{p:α→β→Prop}{l:List α}{m:List β}(h:All2 p l m){i:Nat}(hi:i<l.length):∃hm:i<m.length,p l[i] m[i]:=by
 induction h generalizing i with
 | nil=>simp at hi
 | cons h1 _ ih=>cases i with
  | zero=>exact⟨by simp,h1⟩
  | succ i=>obtain⟨a,b⟩:=ih (i:=i) (by simpa using hi);exact⟨by simpa using a,b⟩
theorem SlG.app3{k bytes j:Nat}{hh:AH}{lo n:Nat}{cs ec:List Value}{v:Value}{K:Value→AH→Prop}(s:SlG k hh lo n cs v)(he:ec.length=j*k)(hj:0<j)(hb:(n+j)*bytes≤70368744177664)
  (h2:lo≤hh.next)(hK:∀v' h',SlG k h' lo (n+j) (cs++ec) v'→hh.next≤h'.next→(∀y,y<lo→h'.get y=hh.get y)→
   (∀k' m cs' v',SlV k' hh m cs' v'→(m=0∨∃x∈cs',x∉cs)→SlV k' h' m cs' v')→(∀k' l' m cs' v',SlG k' hh l' m cs' v'→(v'=.slice none 0 0∨∃x∈cs',x∉cs)→SlG k' h' l' m cs' v')→K v' h'):
  getvh (sappend (hh.alloc (.cells ec false false)) k bytes v (.slice (some ⟨hh.next,0,none⟩) j j)) K:=by
 have xa:Ext hh (hh.alloc (.cells ec false false)):=(Ext.refl hh).alloc _
 have hl:(hh.alloc (.cells ec false false)).load hh.next 0 (j*k)=some ec:=load_all (g:=false) (ro:=false) (by simp) he
 obtain⟨h',e1,e2,e3,e5,e4⟩:=(s.ext xa).append (m:=j) (m':=j) (bytes:=bytes) (sp:=none) hl hj hb (by simp;omega)
 rw[e1,getvh_some]
 have keep:∀y,y<hh.next→(∀n' ,v≠.slice (some ⟨y,0,some k⟩) n' n')→h'.get y=hh.get y:=fun y hy hv=>by
  rw[e5 y (by simp;omega) hv,xa.get y hy]
 refine hK _ _ e2 (by simp at e3;omega) (fun y hy=>?_) (fun k' m cs' v' s' hc=>?_) (fun k' l' m cs' v' s' hc=>?_)
 ·rw[e4 y (by omega),xa.get y (by omega)]
 ·obtain⟨s1,s2⟩:=s'
  refine⟨s1,?_⟩
  rcases s2 with s2|⟨b,o,sp,c,c0,g,ro,f1,f2,f3,f4,f5⟩
  ·exact .inl s2
  ·rcases hc with hc|⟨x,hx,hxn⟩
   ·subst hc;exact .inl ⟨rfl,_,_,f1⟩
   ·refine .inr ⟨b,o,sp,c,c0,g,ro,f1,Nat.lt_of_lt_of_le f2 (by simp at e3;omega),?_,f4,f5⟩
    rw[keep b f2 fun n' e=>?_]
    ·exact f3
    ·rcases s.2 with⟨_,q⟩|⟨b',q1,q2,q3,q4⟩
     ·rw[e]at q;simp at q
     ·rw[e]at q4;simp at q4
      rw[q4.1,q3]at f3
      simp only[ABlk.cells.injEq]at f3
      rw[←f5,←f3.1]at hx
      exact hxn (List.mem_of_mem_drop (List.mem_of_mem_take hx))
 ·obtain⟨s1,s2⟩:=s'
  refine⟨s1,?_⟩
  rcases s2 with s2|⟨b,f1,f2,f3,f4⟩
  ·exact .inl s2
  ·rcases hc with hc|⟨x,hx,hxn⟩
   ·rw[hc]at f4;simp at f4
   ·refine .inr ⟨b,f1,Nat.lt_of_lt_of_le f2 (by simp at e3;omega),?_,f4⟩
    rw[keep b f2 fun n' e=>?_]
    ·exact f3
    ·rcases s.2 with⟨_,q⟩|⟨b',q1,q2,q3,q4⟩
     ·rw[e]at q;simp at q
     ·rw[e]at q4;simp at q4
      rw[q4.1,q3]at f3
      simp only[ABlk.cells.injEq]at f3
      rw[←f3.1]at hx
      exact hxn hx
end Go.Jq
namespace Go.Jq
variable {G:Nat→SFunc} {h:AH} {R:Value→AH→Prop}
structure Ext1(b:Nat)(h h1:AH):Prop where
 next:h.next≤h1.next
 get:∀i,i<h.next→i≠b→h1.get i=h.get i
theorem Ext1.refl{b:Nat}(h:AH):Ext1 b h h:=⟨Nat.le_refl _,fun _ _ _=>rfl⟩
theorem Ext1.trans{b:Nat}{x y z:AH}(e:Ext1 b x y)(f:Ext1 b y z):Ext1 b x z:=
 ⟨Nat.le_trans e.next f.next,fun i hi hb=>by rw[f.get i (Nat.lt_of_lt_of_le hi e.next) hb,e.get i hi hb]⟩
theorem Ext.one{b:Nat}{x y:AH}(e:Ext x y):Ext1 b x y:=⟨e.next,fun i hi _=>e.get i hi⟩
theorem Ext1.put{b:Nat}{x y:AH}(e:Ext1 b x y){o:ABlk}:Ext1 b x (y.put b o):=⟨e.next,fun i hi hb=>by simp[hb,e.get i hi hb]⟩
theorem Ext1.alloc{b:Nat}{x y:AH}(e:Ext1 b x y)(o:ABlk):Ext1 b x (y.alloc o):=⟨Nat.le_trans e.next (Nat.le_succ _),fun i hi hb=>by
 have:=e.next
 simp[show i≠y.next by omega,e.get i hi hb]⟩
theorem SlG.ext1{b k:Nat}{x y:AH}{lo n:Nat}{cs:List Value}{v:Value}(s:SlG k x lo n cs v)(e:Ext1 b x y)(hb:b<lo):SlG k y lo n cs v:=by
 obtain⟨s1,s2⟩:=s
 refine⟨s1,?_⟩
 rcases s2 with s2|⟨c,h1,h2,h3,h4⟩
 ·exact .inl s2
 ·exact .inr ⟨c,h1,Nat.lt_of_lt_of_le h2 e.next,by rw[e.get c h2 (by omega)];exact h3,h4⟩
structure SmallG(G:Nat→SFunc):Prop where
 g275:G 275=c275
 g282:G 282=c282
theorem num_spec(g:SmallG G){hh:AH}{ba bl:Nat}{a:Nat}{lv:Value}{l:List Int}(hne:ba≠bl)(ha:hh.get ba=.cells [.int .i64 a] false false)(hl:hh.get bl=.cells [lv] false false)(s:∀o,SlV 1 (hh.put ba o) l.length (l.flatMap intC) lv)
  (hlen:l.length≤9223372036854775807)(hab:a≤1000000)(k:∀x:Int,0≤x→x≤65535→R (.int .i64 x) (hh.put ba (.cells [.int .i64 ((a+1:Nat):Int)] false false))):
  WC G 282 [.pointer (some ⟨ba,0,none⟩),.pointer (some ⟨bl,0,none⟩)] hh R:=by
 refine WC_enter g.g282 rfl ?_
 show W G c282_body _ _ (retK [.tmp 2] R)
 unfold c282_body c282_0 c282_1 c282_2
 have hw:IntKind.i64.wrap ((a:Int)+1)=((a+1:Nat):Int):=by rw[wrap64 (by omega)];rfl
 have s1:=s (.cells [.int .i64 ((a+1:Nat):Int)] false false)
 obtain⟨lb,lc,rfl⟩:=s1.len
 by_cases h1:l.length<a+1
 ·have h1':(l.length:Int)<(a:Int)+1:=by omega
  simp -implicitDefEqProofs[ha,hl,hw,hne,hne.symm,h1',c282_3]
  simpa using k 0 (by omega) (by omega)
 ·have h1':¬(l.length:Int)<(a:Int)+1:=by omega
  obtain⟨b,o,sp,c,c0,g',ro',hv,e2,e3,e4,e5,e6⟩:=s1.row intC_length (i:=a) (by omega)
  simp only[Value.slice.injEq,true_and]at hv
  obtain⟨rfl,rfl⟩:=hv
  have hw2:IntKind.i64.wrap (a:Int)=(a:Int):=wrap64 (by omega)
  have h2:(a:Int)<l.length:=by omega
  have e60:=e6 0 (by omega)
  simp[intC]at e60
  have hb:=iand_bound (a:=l[a]) (m:=65535) (by omega) (by omega)
  simp at e3
  have kk:=k _ hb.1 hb.2
  simp -implicitDefEqProofs[ha,hl,hw,hne,hne.symm,h1',c282_4,hw2,h2,e3,e60]
  exact kk
def aOk(i:Ins):Prop:=i.areg=-1∨i.areg=0∨i.areg=1
def rOk(i:Ins):Prop:=i.reg=0∨i.reg=1
def iOk(P:Int→Prop)(i:Ins):Prop:=
 (i.kind=1∧P i.loc∧aOk i∧i.op=0)∨(i.kind=2∧P i.loc∧rOk i∧i.op=0)∨(i.kind=3∧i.loc=0)∨(i.kind=4∧P i.loc∧rOk i∧aOk i∧i.breg=-1)∨
 (i.kind=5∧i.loc=0∧rOk i∧aOk i∧i.op=6∧i.breg=-1)∨(i.kind=6∧i.loc=0∧aOk i∧i.breg=-1∧i.n=1)
def isMem(i:Ins):Bool:=decide (i.kind=1)||decide (i.kind=2)||decide (i.kind=4)
def memN(l:List Ins):Nat:=(l.filter isMem).length
def vOk(i:Ins):Prop:=(0≤i.aval∧i.aval≤65535)∧(0≤i.bval∧i.bval≤65535)
def fOk(i:Ins):Prop:=
 (i.kind=1∧i.reg=0∧i.op=0∧i.breg=0∧i.bval=0∧i.n=0∧(i.areg=-1∨i.aval=0))∨(i.kind=2∧i.areg=0∧i.aval=0∧i.op=0∧i.breg=0∧i.bval=0∧i.n=0)∨
 (i.kind=3∧i.reg=0∧i.loc=0∧i.areg=0∧i.aval=0∧i.op=0∧i.breg=0∧i.bval=0∧i.n=0)∨(i.kind=4∧i.op=0∧i.n=0∧(i.areg=-1∨i.aval=0)∧i.breg=-1)∨
 (i.kind=5∧i.loc=0∧i.n=0∧i.op=6∧(i.areg=-1∨i.aval=0)∧i.breg=-1)∨(i.kind=6∧i.reg=0∧i.loc=0∧i.op=0∧(i.areg=-1∨i.aval=0)∧i.breg=-1)
structure TOk(P:Int→Prop)(l:List Ins):Prop where
 ok:∀i∈l,iOk P i
 val:∀i∈l,vOk i
 fld:∀i∈l,fOk i
 skip:∀k (hk:k<l.length),l[k].kind=6→k+1<l.length
def lP(x:Int):Prop:=x=120∨x=121∨x=122
theorem TOk.nil{P:Int→Prop}:TOk P []:=⟨by simp,by simp,by simp,by simp⟩
theorem TOk.one{P:Int→Prop}{l:List Ins}{i:Ins}(t:TOk P l)(h:iOk P i)(hv:vOk i)(hf:fOk i)(h6:i.kind≠6):TOk P (l++[i]):=by
 refine⟨fun j hj=>?_,fun j hj=>by
  rcases List.mem_append.1 hj with hj|hj
  ·exact t.val j hj
  ·simp at hj;subst hj;exact hv,fun j hj=>by
  rcases List.mem_append.1 hj with hj|hj
  ·exact t.fld j hj
  ·simp at hj;subst hj;exact hf,fun k hk hk6=>?_⟩
 ·rcases List.mem_append.1 hj with hj|hj
  ·exact t.ok j hj
  ·simp at hj;subst hj;exact h
 ·simp at hk ⊢
  by_cases e:k<l.length
  ·rw[List.getElem_append_left e]at hk6
   have:=t.skip k e hk6;omega
  ·rw[List.getElem_append_right (by omega)]at hk6
   simp at hk6
   exact absurd hk6 h6
theorem TOk.two{P:Int→Prop}{l:List Ins}{i j:Ins}(t:TOk P l)(h:iOk P i)(h':iOk P j)(hv:vOk i)(hv':vOk j)(hf:fOk i)(hf':fOk j)(h6:j.kind≠6):TOk P (l++[i,j]):=by
 refine⟨fun y hj=>?_,fun y hj=>by
  rcases List.mem_append.1 hj with hj|hj
  ·exact t.val y hj
  ·simp at hj;rcases hj with rfl|rfl
   ·exact hv
   ·exact hv',fun y hj=>by
  rcases List.mem_append.1 hj with hj|hj
  ·exact t.fld y hj
  ·simp at hj;rcases hj with rfl|rfl
   ·exact hf
   ·exact hf',fun k hk hk6=>?_⟩
 ·rcases List.mem_append.1 hj with hj|hj
  ·exact t.ok y hj
  ·simp at hj;rcases hj with rfl|rfl
   ·exact h
   ·exact h'
 ·simp at hk ⊢
  by_cases e:k<l.length
  ·omega
  ·rw[List.getElem_append_right (by omega)]at hk6
   by_cases e2:k=l.length
   ·omega
   ·have:k=l.length+1:=by omega
    subst this
    simp at hk6
    exact absurd hk6 h6
structure RoundOk(s s':List Ins)(m m':Nat):Prop where
 ok:TOk lP s→TOk lP s'
 mem:m'=m+memN s' - memN s
 le:m≤m'∧m'≤m+1
 mono:memN s≤memN s'
 len:s'.length≤s.length+2
 ne:s'≠[]
theorem memN_app{l m:List Ins}:memN (l++m)=memN l+memN m:=by simp[memN]
theorem RoundOk.one{li:List Ins}{i:Ins}{m m':Nat}(h:iOk lP i)(hv:vOk i)(hf:fOk i)(h6:i.kind≠6)(hm:m'=m+(if isMem i then 1 else 0)):RoundOk li (li++[i]) m m':=by
 have e:memN [i]=if isMem i then 1 else 0:=by simp[memN];split<;>simp_all
 refine⟨fun t=>t.one h hv hf h6,?_,?_,?_,?_,by simp⟩
 ·rw[memN_app,e];omega
 ·split at hm<;>omega
 ·rw[memN_app];omega
 ·simp
theorem RoundOk.two{li:List Ins}{i j:Ins}{m m':Nat}(h:iOk lP i)(h':iOk lP j)(hv:vOk i)(hv':vOk j)(hf:fOk i)(hf':fOk j)(h6:i.kind=6)(h1:j.kind=1)(hm:m'=m+1):RoundOk li (li++[i,j]) m m':=by
 have e:memN [i,j]=1:=by simp[memN,isMem,h6,h1]
 refine⟨fun t=>t.two h h' hv hv' hf hf' (by omega),?_,?_,?_,?_,by simp⟩
 ·rw[memN_app,e];omega
 ·omega
 ·rw[memN_app];omega
 ·simp
theorem shr_of{x:Int}{n:Nat}(h0:0≤x):x.fdiv (2^n)=x / 2^n:=by
 rw[Int.fdiv_eq_ediv_of_nonneg _ (by exact Int.pow_nonneg (by omega))]
def fr275(most:Nat)(h:AH)(n lcs mem i:Int)(s:Value)(k:Int):Fr:=
 [(1,.int .i64 most),(4,.pointer (some ⟨h.next+1,0,none⟩)),(5,.pointer (some ⟨h.next+2,0,none⟩)),(7,.func (.func 282) #[] #[.pointer (some ⟨h.next+3,0,none⟩),.pointer (some ⟨h.next,0,none⟩)]),(8,.int .i64 n),(9,.int .i64 lcs),(10,.int .i64 mem),(11,.int .i64 i),(12,s),(13,.int .i64 k)]
structure WB(G:Nat→SFunc)(c:SCode)(F:Fr)(h:AH)(R:SExit→Fr→AH→Prop):Prop where
 w:W G c F h R
def rest275:SCode:=match c275_43 with
 | .seq _ (.seq (.block _ (.seq _ (.seq _ (.seq _ (.seq _ r))))) _)=>r
 | _=>.skip
theorem rest_275_0{hB h0:AH}{most mem:Nat}{x n lcs i kk lc ar av:Int}{s:Value}{li:List Ins}{R:SExit→Fr→AH→Prop}{b16 bb:Nat}     (hx0:0≤x) (hlc:lP lc) (har:ar=-1∨ar=0∨ar=1) (hav:(0≤av∧av≤65535)∧(ar=-1∨av=0)) (g16:hB.get b16=.cells [.int .i64 ar,.int .i64 av] false false) (hb16:b16<hB.next) (hm:mem<most) (hmost:most≤1000000)     (x0:Ext1 bb h0 hB) (hbb:bb<h0.next) (ss:SlG 9 hB h0.next li.length (li.flatMap Ins.c) s) (hli:li.length≤1000)     (hR:∀(h1:AH) (s':Value) (li':List Ins) (mem':Nat),Ext1 bb h0 h1→(∀y,y<h0.next→h1.get y=hB.get y)→SlG 9 h1 h0.next li'.length (li'.flatMap Ins.c) s'→RoundOk li li' mem mem' →       R .normal [(1,.int .i64 most),(4,.pointer (some ⟨h.next+1,0,none⟩)),(5,.pointer (some ⟨h.next+2,0,none⟩)),(7,.func (.func 282) #[] #[.pointer (some ⟨h.next+3,0,none⟩),.pointer (some ⟨h.next,0,none⟩)]),(8,.int .i64 n),(9,.int .i64 lcs),(10,.int .i64 mem'),(11,.int .i64 i),(12,s'),(13,.int .i64 kk)] h1) (ed:x.tmod 12=0):WB G rest275 [(1,.int .i64 most),(4,.pointer (some ⟨h.next+1,0,none⟩)),(5,.pointer (some ⟨h.next+2,0,none⟩)),(7,.func (.func 282) #[] #[.pointer (some ⟨h.next+3,0,none⟩),.pointer (some ⟨h.next,0,none⟩)]),(8,.int .i64 n),(9,.int .i64 lcs),(10,.int .i64 mem),(11,.int .i64 i),(12,s),(13,.int .i64 kk),(14,.int .i64 x),(15,.int .i64 lc),(16,.pointer (some ⟨b16,0,none⟩))] hB R:=by
 constructor
 have bm:IntKind.i64.wrap ((mem:Int)+1)=((mem+1:Nat):Int):=by rw[wrap64 (by omega)];rfl
 obtain⟨r,er,hr⟩:∃r:Int,iand .i64 (x.fdiv (2^min 11 IntKind.i64.bits)) 1=r∧(r=0∨r=1):=by
  have:=iand_bound (a:=x.fdiv (2^min 11 IntKind.i64.bits)) (m:=1) (by omega) (by omega)
  exact⟨_,rfl,by omega⟩
 have fin:∀(j:Nat) (new:List Ins) (mem':Nat),new.length=j→0<j→j≤2→RoundOk li (li++new) mem mem'→∀(hC:AH),(∀y,y<hB.next→hC.get y=hB.get y)→hB.next≤hC.next→∀(K:Value→AH→Prop),
   (∀v' h',SlG 9 h' h0.next (li++new).length ((li++new).flatMap Ins.c) v'→Ext1 bb h0 h'→(∀y,y<h0.next→h'.get y=hB.get y)→K v' h')→
   getvh (sappend (hC.alloc (.cells (new.flatMap Ins.c) false false)) 9 72 s (.slice (some ⟨hC.next,0,none⟩) j j)) K:=by
  intro j new mem' hj h0' h2' hro hC hCg hCn K hK
  have sC:SlG 9 hC h0.next li.length (li.flatMap Ins.c) s:=ss.ext1 (b:=bb) ⟨hCn,fun i hi _=>hCg i hi⟩ (by omega)
  have hnn:h0.next≤hB.next:=x0.next
  refine sC.app3 (j:=j) (by rw[fm_length Ins.c_length,hj]) h0' (by omega) (by omega) fun v' h' s' n' k1 _ _=>?_
  refine hK v' h' ?_ ⟨by have:=x0.next;omega,fun i hi hb=>?_⟩ fun y hy=>?_
  ·rw[List.length_append,hj,List.flatMap_append];exact s'
  ·rw[k1 i hi,hCg i (by omega),x0.get i hi hb]
  ·rw[k1 y hy,hCg y (by omega)]
 unfold rest275 c275_43
 have hz9:zi 9=[.int .i64 0,.int .i64 0,.int .i64 0,.int .i64 0,.int .i64 0,.int .i64 0,.int .i64 0,.int .i64 0,.int .i64 0]:=rfl
 have hz18:zi 18=[.int .i64 0,.int .i64 0,.int .i64 0,.int .i64 0,.int .i64 0,.int .i64 0,.int .i64 0,.int .i64 0,.int .i64 0,.int .i64 0,.int .i64 0,.int .i64 0,.int .i64 0,.int .i64 0,.int .i64 0,.int .i64 0,.int .i64 0,.int .i64 0]:=rfl
 simp -implicitDefEqProofs[c275_19,c275_20,c275_21,c275_25,c275_26,ed,er,g16,hz9,hz18,bm]
 have ro:RoundOk li (li++[⟨1,0,lc,ar,av,0,0,0,0⟩]) mem (mem+1):=RoundOk.one (.inl ⟨rfl,hlc,har,rfl⟩) (by unfold vOk;simp;try omega) (by simp[fOk];try omega) (by simp) (by simp[isMem])
 refine fin 1 [⟨1,0,lc,ar,av,0,0,0,0⟩] (mem+1) rfl (by omega) (by omega) ro hB (fun _ _=>rfl) (Nat.le_refl _) _ fun v' h' s' x' g'=>?_
 simp -implicitDefEqProofs[bm]
 exact hR h' v' _ _ x' g' s' ro
theorem rest_275_1{hB h0:AH}{most mem:Nat}{x n lcs i kk lc ar av:Int}{s:Value}{li:List Ins}{R:SExit→Fr→AH→Prop}{b16 bb:Nat}     (hx0:0≤x) (hlc:lP lc) (har:ar=-1∨ar=0∨ar=1) (hav:(0≤av∧av≤65535)∧(ar=-1∨av=0)) (g16:hB.get b16=.cells [.int .i64 ar,.int .i64 av] false false) (hb16:b16<hB.next) (hm:mem<most) (hmost:most≤1000000)     (x0:Ext1 bb h0 hB) (hbb:bb<h0.next) (ss:SlG 9 hB h0.next li.length (li.flatMap Ins.c) s) (hli:li.length≤1000)     (hR:∀(h1:AH) (s':Value) (li':List Ins) (mem':Nat),Ext1 bb h0 h1→(∀y,y<h0.next→h1.get y=hB.get y)→SlG 9 h1 h0.next li'.length (li'.flatMap Ins.c) s'→RoundOk li li' mem mem' →       R .normal [(1,.int .i64 most),(4,.pointer (some ⟨h.next+1,0,none⟩)),(5,.pointer (some ⟨h.next+2,0,none⟩)),(7,.func (.func 282) #[] #[.pointer (some ⟨h.next+3,0,none⟩),.pointer (some ⟨h.next,0,none⟩)]),(8,.int .i64 n),(9,.int .i64 lcs),(10,.int .i64 mem'),(11,.int .i64 i),(12,s'),(13,.int .i64 kk)] h1) (ed:x.tmod 12=1):WB G rest275 [(1,.int .i64 most),(4,.pointer (some ⟨h.next+1,0,none⟩)),(5,.pointer (some ⟨h.next+2,0,none⟩)),(7,.func (.func 282) #[] #[.pointer (some ⟨h.next+3,0,none⟩),.pointer (some ⟨h.next,0,none⟩)]),(8,.int .i64 n),(9,.int .i64 lcs),(10,.int .i64 mem),(11,.int .i64 i),(12,s),(13,.int .i64 kk),(14,.int .i64 x),(15,.int .i64 lc),(16,.pointer (some ⟨b16,0,none⟩))] hB R:=by
 constructor
 have bm:IntKind.i64.wrap ((mem:Int)+1)=((mem+1:Nat):Int):=by rw[wrap64 (by omega)];rfl
 obtain⟨r,er,hr⟩:∃r:Int,iand .i64 (x.fdiv (2^min 11 IntKind.i64.bits)) 1=r∧(r=0∨r=1):=by
  have:=iand_bound (a:=x.fdiv (2^min 11 IntKind.i64.bits)) (m:=1) (by omega) (by omega)
  exact⟨_,rfl,by omega⟩
 have fin:∀(j:Nat) (new:List Ins) (mem':Nat),new.length=j→0<j→j≤2→RoundOk li (li++new) mem mem'→∀(hC:AH),(∀y,y<hB.next→hC.get y=hB.get y)→hB.next≤hC.next→∀(K:Value→AH→Prop),
   (∀v' h',SlG 9 h' h0.next (li++new).length ((li++new).flatMap Ins.c) v'→Ext1 bb h0 h'→(∀y,y<h0.next→h'.get y=hB.get y)→K v' h')→
   getvh (sappend (hC.alloc (.cells (new.flatMap Ins.c) false false)) 9 72 s (.slice (some ⟨hC.next,0,none⟩) j j)) K:=by
  intro j new mem' hj h0' h2' hro hC hCg hCn K hK
  have sC:SlG 9 hC h0.next li.length (li.flatMap Ins.c) s:=ss.ext1 (b:=bb) ⟨hCn,fun i hi _=>hCg i hi⟩ (by omega)
  have hnn:h0.next≤hB.next:=x0.next
  refine sC.app3 (j:=j) (by rw[fm_length Ins.c_length,hj]) h0' (by omega) (by omega) fun v' h' s' n' k1 _ _=>?_
  refine hK v' h' ?_ ⟨by have:=x0.next;omega,fun i hi hb=>?_⟩ fun y hy=>?_
  ·rw[List.length_append,hj,List.flatMap_append];exact s'
  ·rw[k1 i hi,hCg i (by omega),x0.get i hi hb]
  ·rw[k1 y hy,hCg y (by omega)]
 unfold rest275 c275_43
 have hz9:zi 9=[.int .i64 0,.int .i64 0,.int .i64 0,.int .i64 0,.int .i64 0,.int .i64 0,.int .i64 0,.int .i64 0,.int .i64 0]:=rfl
 have hz18:zi 18=[.int .i64 0,.int .i64 0,.int .i64 0,.int .i64 0,.int .i64 0,.int .i64 0,.int .i64 0,.int .i64 0,.int .i64 0,.int .i64 0,.int .i64 0,.int .i64 0,.int .i64 0,.int .i64 0,.int .i64 0,.int .i64 0,.int .i64 0,.int .i64 0]:=rfl
 simp -implicitDefEqProofs[c275_19,c275_20,c275_21,c275_22,c275_25,c275_26,ed,er,g16,hz9,hz18,bm]
 have ro:RoundOk li (li++[⟨1,0,lc,ar,av,0,0,0,0⟩]) mem (mem+1):=RoundOk.one (.inl ⟨rfl,hlc,har,rfl⟩) (by unfold vOk;simp;try omega) (by simp[fOk];try omega) (by simp) (by simp[isMem])
 refine fin 1 [⟨1,0,lc,ar,av,0,0,0,0⟩] (mem+1) rfl (by omega) (by omega) ro hB (fun _ _=>rfl) (Nat.le_refl _) _ fun v' h' s' x' g'=>?_
 simp -implicitDefEqProofs[bm]
 exact hR h' v' _ _ x' g' s' ro
theorem rest_275_2{hB h0:AH}{most mem:Nat}{x n lcs i kk lc ar av:Int}{s:Value}{li:List Ins}{R:SExit→Fr→AH→Prop}{b16 bb:Nat}     (hx0:0≤x) (hlc:lP lc) (har:ar=-1∨ar=0∨ar=1) (hav:(0≤av∧av≤65535)∧(ar=-1∨av=0)) (g16:hB.get b16=.cells [.int .i64 ar,.int .i64 av] false false) (hb16:b16<hB.next) (hm:mem<most) (hmost:most≤1000000)     (x0:Ext1 bb h0 hB) (hbb:bb<h0.next) (ss:SlG 9 hB h0.next li.length (li.flatMap Ins.c) s) (hli:li.length≤1000)     (hR:∀(h1:AH) (s':Value) (li':List Ins) (mem':Nat),Ext1 bb h0 h1→(∀y,y<h0.next→h1.get y=hB.get y)→SlG 9 h1 h0.next li'.length (li'.flatMap Ins.c) s'→RoundOk li li' mem mem' →       R .normal [(1,.int .i64 most),(4,.pointer (some ⟨h.next+1,0,none⟩)),(5,.pointer (some ⟨h.next+2,0,none⟩)),(7,.func (.func 282) #[] #[.pointer (some ⟨h.next+3,0,none⟩),.pointer (some ⟨h.next,0,none⟩)]),(8,.int .i64 n),(9,.int .i64 lcs),(10,.int .i64 mem'),(11,.int .i64 i),(12,s'),(13,.int .i64 kk)] h1) (ed:x.tmod 12=2):WB G rest275 [(1,.int .i64 most),(4,.pointer (some ⟨h.next+1,0,none⟩)),(5,.pointer (some ⟨h.next+2,0,none⟩)),(7,.func (.func 282) #[] #[.pointer (some ⟨h.next+3,0,none⟩),.pointer (some ⟨h.next,0,none⟩)]),(8,.int .i64 n),(9,.int .i64 lcs),(10,.int .i64 mem),(11,.int .i64 i),(12,s),(13,.int .i64 kk),(14,.int .i64 x),(15,.int .i64 lc),(16,.pointer (some ⟨b16,0,none⟩))] hB R:=by
 constructor
 have bm:IntKind.i64.wrap ((mem:Int)+1)=((mem+1:Nat):Int):=by rw[wrap64 (by omega)];rfl
 obtain⟨r,er,hr⟩:∃r:Int,iand .i64 (x.fdiv (2^min 11 IntKind.i64.bits)) 1=r∧(r=0∨r=1):=by
  have:=iand_bound (a:=x.fdiv (2^min 11 IntKind.i64.bits)) (m:=1) (by omega) (by omega)
  exact⟨_,rfl,by omega⟩
 have fin:∀(j:Nat) (new:List Ins) (mem':Nat),new.length=j→0<j→j≤2→RoundOk li (li++new) mem mem'→∀(hC:AH),(∀y,y<hB.next→hC.get y=hB.get y)→hB.next≤hC.next→∀(K:Value→AH→Prop),
   (∀v' h',SlG 9 h' h0.next (li++new).length ((li++new).flatMap Ins.c) v'→Ext1 bb h0 h'→(∀y,y<h0.next→h'.get y=hB.get y)→K v' h')→
   getvh (sappend (hC.alloc (.cells (new.flatMap Ins.c) false false)) 9 72 s (.slice (some ⟨hC.next,0,none⟩) j j)) K:=by
  intro j new mem' hj h0' h2' hro hC hCg hCn K hK
  have sC:SlG 9 hC h0.next li.length (li.flatMap Ins.c) s:=ss.ext1 (b:=bb) ⟨hCn,fun i hi _=>hCg i hi⟩ (by omega)
  have hnn:h0.next≤hB.next:=x0.next
  refine sC.app3 (j:=j) (by rw[fm_length Ins.c_length,hj]) h0' (by omega) (by omega) fun v' h' s' n' k1 _ _=>?_
  refine hK v' h' ?_ ⟨by have:=x0.next;omega,fun i hi hb=>?_⟩ fun y hy=>?_
  ·rw[List.length_append,hj,List.flatMap_append];exact s'
  ·rw[k1 i hi,hCg i (by omega),x0.get i hi hb]
  ·rw[k1 y hy,hCg y (by omega)]
 unfold rest275 c275_43
 have hz9:zi 9=[.int .i64 0,.int .i64 0,.int .i64 0,.int .i64 0,.int .i64 0,.int .i64 0,.int .i64 0,.int .i64 0,.int .i64 0]:=rfl
 have hz18:zi 18=[.int .i64 0,.int .i64 0,.int .i64 0,.int .i64 0,.int .i64 0,.int .i64 0,.int .i64 0,.int .i64 0,.int .i64 0,.int .i64 0,.int .i64 0,.int .i64 0,.int .i64 0,.int .i64 0,.int .i64 0,.int .i64 0,.int .i64 0,.int .i64 0]:=rfl
 simp -implicitDefEqProofs[c275_19,c275_20,c275_21,c275_22,c275_23,c275_25,c275_26,ed,er,g16,hz9,hz18,bm]
 have ro:RoundOk li (li++[⟨1,0,lc,ar,av,0,0,0,0⟩]) mem (mem+1):=RoundOk.one (.inl ⟨rfl,hlc,har,rfl⟩) (by unfold vOk;simp;try omega) (by simp[fOk];try omega) (by simp) (by simp[isMem])
 refine fin 1 [⟨1,0,lc,ar,av,0,0,0,0⟩] (mem+1) rfl (by omega) (by omega) ro hB (fun _ _=>rfl) (Nat.le_refl _) _ fun v' h' s' x' g'=>?_
 simp -implicitDefEqProofs[bm]
 exact hR h' v' _ _ x' g' s' ro
theorem rest_275_3{hB h0:AH}{most mem:Nat}{x n lcs i kk lc ar av:Int}{s:Value}{li:List Ins}{R:SExit→Fr→AH→Prop}{b16 bb:Nat}     (hx0:0≤x) (hlc:lP lc) (har:ar=-1∨ar=0∨ar=1) (hav:(0≤av∧av≤65535)∧(ar=-1∨av=0)) (g16:hB.get b16=.cells [.int .i64 ar,.int .i64 av] false false) (hb16:b16<hB.next) (hm:mem<most) (hmost:most≤1000000)     (x0:Ext1 bb h0 hB) (hbb:bb<h0.next) (ss:SlG 9 hB h0.next li.length (li.flatMap Ins.c) s) (hli:li.length≤1000)     (hR:∀(h1:AH) (s':Value) (li':List Ins) (mem':Nat),Ext1 bb h0 h1→(∀y,y<h0.next→h1.get y=hB.get y)→SlG 9 h1 h0.next li'.length (li'.flatMap Ins.c) s'→RoundOk li li' mem mem' →       R .normal [(1,.int .i64 most),(4,.pointer (some ⟨h.next+1,0,none⟩)),(5,.pointer (some ⟨h.next+2,0,none⟩)),(7,.func (.func 282) #[] #[.pointer (some ⟨h.next+3,0,none⟩),.pointer (some ⟨h.next,0,none⟩)]),(8,.int .i64 n),(9,.int .i64 lcs),(10,.int .i64 mem'),(11,.int .i64 i),(12,s'),(13,.int .i64 kk)] h1) (ed:x.tmod 12=3):WB G rest275 [(1,.int .i64 most),(4,.pointer (some ⟨h.next+1,0,none⟩)),(5,.pointer (some ⟨h.next+2,0,none⟩)),(7,.func (.func 282) #[] #[.pointer (some ⟨h.next+3,0,none⟩),.pointer (some ⟨h.next,0,none⟩)]),(8,.int .i64 n),(9,.int .i64 lcs),(10,.int .i64 mem),(11,.int .i64 i),(12,s),(13,.int .i64 kk),(14,.int .i64 x),(15,.int .i64 lc),(16,.pointer (some ⟨b16,0,none⟩))] hB R:=by
 constructor
 have bm:IntKind.i64.wrap ((mem:Int)+1)=((mem+1:Nat):Int):=by rw[wrap64 (by omega)];rfl
 obtain⟨r,er,hr⟩:∃r:Int,iand .i64 (x.fdiv (2^min 11 IntKind.i64.bits)) 1=r∧(r=0∨r=1):=by
  have:=iand_bound (a:=x.fdiv (2^min 11 IntKind.i64.bits)) (m:=1) (by omega) (by omega)
  exact⟨_,rfl,by omega⟩
 have fin:∀(j:Nat) (new:List Ins) (mem':Nat),new.length=j→0<j→j≤2→RoundOk li (li++new) mem mem'→∀(hC:AH),(∀y,y<hB.next→hC.get y=hB.get y)→hB.next≤hC.next→∀(K:Value→AH→Prop),
   (∀v' h',SlG 9 h' h0.next (li++new).length ((li++new).flatMap Ins.c) v'→Ext1 bb h0 h'→(∀y,y<h0.next→h'.get y=hB.get y)→K v' h')→
   getvh (sappend (hC.alloc (.cells (new.flatMap Ins.c) false false)) 9 72 s (.slice (some ⟨hC.next,0,none⟩) j j)) K:=by
  intro j new mem' hj h0' h2' hro hC hCg hCn K hK
  have sC:SlG 9 hC h0.next li.length (li.flatMap Ins.c) s:=ss.ext1 (b:=bb) ⟨hCn,fun i hi _=>hCg i hi⟩ (by omega)
  have hnn:h0.next≤hB.next:=x0.next
  refine sC.app3 (j:=j) (by rw[fm_length Ins.c_length,hj]) h0' (by omega) (by omega) fun v' h' s' n' k1 _ _=>?_
  refine hK v' h' ?_ ⟨by have:=x0.next;omega,fun i hi hb=>?_⟩ fun y hy=>?_
  ·rw[List.length_append,hj,List.flatMap_append];exact s'
  ·rw[k1 i hi,hCg i (by omega),x0.get i hi hb]
  ·rw[k1 y hy,hCg y (by omega)]
 unfold rest275 c275_43
 have hz9:zi 9=[.int .i64 0,.int .i64 0,.int .i64 0,.int .i64 0,.int .i64 0,.int .i64 0,.int .i64 0,.int .i64 0,.int .i64 0]:=rfl
 have hz18:zi 18=[.int .i64 0,.int .i64 0,.int .i64 0,.int .i64 0,.int .i64 0,.int .i64 0,.int .i64 0,.int .i64 0,.int .i64 0,.int .i64 0,.int .i64 0,.int .i64 0,.int .i64 0,.int .i64 0,.int .i64 0,.int .i64 0,.int .i64 0,.int .i64 0]:=rfl
 simp -implicitDefEqProofs[c275_19,c275_20,c275_21,c275_22,c275_23,c275_24,c275_25,c275_26,ed,er,g16,hz9,hz18,bm]
 have ro:RoundOk li (li++[⟨1,0,lc,ar,av,0,0,0,0⟩]) mem (mem+1):=RoundOk.one (.inl ⟨rfl,hlc,har,rfl⟩) (by unfold vOk;simp;try omega) (by simp[fOk];try omega) (by simp) (by simp[isMem])
 refine fin 1 [⟨1,0,lc,ar,av,0,0,0,0⟩] (mem+1) rfl (by omega) (by omega) ro hB (fun _ _=>rfl) (Nat.le_refl _) _ fun v' h' s' x' g'=>?_
 simp -implicitDefEqProofs[bm]
 exact hR h' v' _ _ x' g' s' ro
theorem rest_275_4{hB h0:AH}{most mem:Nat}{x n lcs i kk lc ar av:Int}{s:Value}{li:List Ins}{R:SExit→Fr→AH→Prop}{b16 bb:Nat}     (hx0:0≤x) (hlc:lP lc) (har:ar=-1∨ar=0∨ar=1) (hav:(0≤av∧av≤65535)∧(ar=-1∨av=0)) (g16:hB.get b16=.cells [.int .i64 ar,.int .i64 av] false false) (hb16:b16<hB.next) (hm:mem<most) (hmost:most≤1000000)     (x0:Ext1 bb h0 hB) (hbb:bb<h0.next) (ss:SlG 9 hB h0.next li.length (li.flatMap Ins.c) s) (hli:li.length≤1000)     (hR:∀(h1:AH) (s':Value) (li':List Ins) (mem':Nat),Ext1 bb h0 h1→(∀y,y<h0.next→h1.get y=hB.get y)→SlG 9 h1 h0.next li'.length (li'.flatMap Ins.c) s'→RoundOk li li' mem mem' →       R .normal [(1,.int .i64 most),(4,.pointer (some ⟨h.next+1,0,none⟩)),(5,.pointer (some ⟨h.next+2,0,none⟩)),(7,.func (.func 282) #[] #[.pointer (some ⟨h.next+3,0,none⟩),.pointer (some ⟨h.next,0,none⟩)]),(8,.int .i64 n),(9,.int .i64 lcs),(10,.int .i64 mem'),(11,.int .i64 i),(12,s'),(13,.int .i64 kk)] h1) (ed:x.tmod 12=4):WB G rest275 [(1,.int .i64 most),(4,.pointer (some ⟨h.next+1,0,none⟩)),(5,.pointer (some ⟨h.next+2,0,none⟩)),(7,.func (.func 282) #[] #[.pointer (some ⟨h.next+3,0,none⟩),.pointer (some ⟨h.next,0,none⟩)]),(8,.int .i64 n),(9,.int .i64 lcs),(10,.int .i64 mem),(11,.int .i64 i),(12,s),(13,.int .i64 kk),(14,.int .i64 x),(15,.int .i64 lc),(16,.pointer (some ⟨b16,0,none⟩))] hB R:=by
 constructor
 have bm:IntKind.i64.wrap ((mem:Int)+1)=((mem+1:Nat):Int):=by rw[wrap64 (by omega)];rfl
 obtain⟨r,er,hr⟩:∃r:Int,iand .i64 (x.fdiv (2^min 11 IntKind.i64.bits)) 1=r∧(r=0∨r=1):=by
  have:=iand_bound (a:=x.fdiv (2^min 11 IntKind.i64.bits)) (m:=1) (by omega) (by omega)
  exact⟨_,rfl,by omega⟩
 have fin:∀(j:Nat) (new:List Ins) (mem':Nat),new.length=j→0<j→j≤2→RoundOk li (li++new) mem mem'→∀(hC:AH),(∀y,y<hB.next→hC.get y=hB.get y)→hB.next≤hC.next→∀(K:Value→AH→Prop),
   (∀v' h',SlG 9 h' h0.next (li++new).length ((li++new).flatMap Ins.c) v'→Ext1 bb h0 h'→(∀y,y<h0.next→h'.get y=hB.get y)→K v' h')→
   getvh (sappend (hC.alloc (.cells (new.flatMap Ins.c) false false)) 9 72 s (.slice (some ⟨hC.next,0,none⟩) j j)) K:=by
  intro j new mem' hj h0' h2' hro hC hCg hCn K hK
  have sC:SlG 9 hC h0.next li.length (li.flatMap Ins.c) s:=ss.ext1 (b:=bb) ⟨hCn,fun i hi _=>hCg i hi⟩ (by omega)
  have hnn:h0.next≤hB.next:=x0.next
  refine sC.app3 (j:=j) (by rw[fm_length Ins.c_length,hj]) h0' (by omega) (by omega) fun v' h' s' n' k1 _ _=>?_
  refine hK v' h' ?_ ⟨by have:=x0.next;omega,fun i hi hb=>?_⟩ fun y hy=>?_
  ·rw[List.length_append,hj,List.flatMap_append];exact s'
  ·rw[k1 i hi,hCg i (by omega),x0.get i hi hb]
  ·rw[k1 y hy,hCg y (by omega)]
 unfold rest275 c275_43
 have hz9:zi 9=[.int .i64 0,.int .i64 0,.int .i64 0,.int .i64 0,.int .i64 0,.int .i64 0,.int .i64 0,.int .i64 0,.int .i64 0]:=rfl
 have hz18:zi 18=[.int .i64 0,.int .i64 0,.int .i64 0,.int .i64 0,.int .i64 0,.int .i64 0,.int .i64 0,.int .i64 0,.int .i64 0,.int .i64 0,.int .i64 0,.int .i64 0,.int .i64 0,.int .i64 0,.int .i64 0,.int .i64 0,.int .i64 0,.int .i64 0]:=rfl
 simp -implicitDefEqProofs[c275_19,c275_20,c275_21,c275_22,c275_23,c275_24,c275_27,c275_31,c275_32,ed,er,g16,hz9,hz18,bm]
 have ro:RoundOk li (li++[⟨2,r,lc,0,0,0,0,0,0⟩]) mem (mem+1):=RoundOk.one (.inr (.inl ⟨rfl,hlc,hr,rfl⟩)) (by unfold vOk;simp;try omega) (by simp[fOk];try omega) (by simp) (by simp[isMem])
 refine fin 1 [⟨2,r,lc,0,0,0,0,0,0⟩] (mem+1) rfl (by omega) (by omega) ro hB (fun _ _=>rfl) (Nat.le_refl _) _ fun v' h' s' x' g'=>?_
 simp -implicitDefEqProofs[bm]
 exact hR h' v' _ _ x' g' s' ro
theorem rest_275_5{hB h0:AH}{most mem:Nat}{x n lcs i kk lc ar av:Int}{s:Value}{li:List Ins}{R:SExit→Fr→AH→Prop}{b16 bb:Nat}     (hx0:0≤x) (hlc:lP lc) (har:ar=-1∨ar=0∨ar=1) (hav:(0≤av∧av≤65535)∧(ar=-1∨av=0)) (g16:hB.get b16=.cells [.int .i64 ar,.int .i64 av] false false) (hb16:b16<hB.next) (hm:mem<most) (hmost:most≤1000000)     (x0:Ext1 bb h0 hB) (hbb:bb<h0.next) (ss:SlG 9 hB h0.next li.length (li.flatMap Ins.c) s) (hli:li.length≤1000)     (hR:∀(h1:AH) (s':Value) (li':List Ins) (mem':Nat),Ext1 bb h0 h1→(∀y,y<h0.next→h1.get y=hB.get y)→SlG 9 h1 h0.next li'.length (li'.flatMap Ins.c) s'→RoundOk li li' mem mem' →       R .normal [(1,.int .i64 most),(4,.pointer (some ⟨h.next+1,0,none⟩)),(5,.pointer (some ⟨h.next+2,0,none⟩)),(7,.func (.func 282) #[] #[.pointer (some ⟨h.next+3,0,none⟩),.pointer (some ⟨h.next,0,none⟩)]),(8,.int .i64 n),(9,.int .i64 lcs),(10,.int .i64 mem'),(11,.int .i64 i),(12,s'),(13,.int .i64 kk)] h1) (ed:x.tmod 12=5):WB G rest275 [(1,.int .i64 most),(4,.pointer (some ⟨h.next+1,0,none⟩)),(5,.pointer (some ⟨h.next+2,0,none⟩)),(7,.func (.func 282) #[] #[.pointer (some ⟨h.next+3,0,none⟩),.pointer (some ⟨h.next,0,none⟩)]),(8,.int .i64 n),(9,.int .i64 lcs),(10,.int .i64 mem),(11,.int .i64 i),(12,s),(13,.int .i64 kk),(14,.int .i64 x),(15,.int .i64 lc),(16,.pointer (some ⟨b16,0,none⟩))] hB R:=by
 constructor
 have bm:IntKind.i64.wrap ((mem:Int)+1)=((mem+1:Nat):Int):=by rw[wrap64 (by omega)];rfl
 obtain⟨r,er,hr⟩:∃r:Int,iand .i64 (x.fdiv (2^min 11 IntKind.i64.bits)) 1=r∧(r=0∨r=1):=by
  have:=iand_bound (a:=x.fdiv (2^min 11 IntKind.i64.bits)) (m:=1) (by omega) (by omega)
  exact⟨_,rfl,by omega⟩
 have fin:∀(j:Nat) (new:List Ins) (mem':Nat),new.length=j→0<j→j≤2→RoundOk li (li++new) mem mem'→∀(hC:AH),(∀y,y<hB.next→hC.get y=hB.get y)→hB.next≤hC.next→∀(K:Value→AH→Prop),
   (∀v' h',SlG 9 h' h0.next (li++new).length ((li++new).flatMap Ins.c) v'→Ext1 bb h0 h'→(∀y,y<h0.next→h'.get y=hB.get y)→K v' h')→
   getvh (sappend (hC.alloc (.cells (new.flatMap Ins.c) false false)) 9 72 s (.slice (some ⟨hC.next,0,none⟩) j j)) K:=by
  intro j new mem' hj h0' h2' hro hC hCg hCn K hK
  have sC:SlG 9 hC h0.next li.length (li.flatMap Ins.c) s:=ss.ext1 (b:=bb) ⟨hCn,fun i hi _=>hCg i hi⟩ (by omega)
  have hnn:h0.next≤hB.next:=x0.next
  refine sC.app3 (j:=j) (by rw[fm_length Ins.c_length,hj]) h0' (by omega) (by omega) fun v' h' s' n' k1 _ _=>?_
  refine hK v' h' ?_ ⟨by have:=x0.next;omega,fun i hi hb=>?_⟩ fun y hy=>?_
  ·rw[List.length_append,hj,List.flatMap_append];exact s'
  ·rw[k1 i hi,hCg i (by omega),x0.get i hi hb]
  ·rw[k1 y hy,hCg y (by omega)]
 unfold rest275 c275_43
 have hz9:zi 9=[.int .i64 0,.int .i64 0,.int .i64 0,.int .i64 0,.int .i64 0,.int .i64 0,.int .i64 0,.int .i64 0,.int .i64 0]:=rfl
 have hz18:zi 18=[.int .i64 0,.int .i64 0,.int .i64 0,.int .i64 0,.int .i64 0,.int .i64 0,.int .i64 0,.int .i64 0,.int .i64 0,.int .i64 0,.int .i64 0,.int .i64 0,.int .i64 0,.int .i64 0,.int .i64 0,.int .i64 0,.int .i64 0,.int .i64 0]:=rfl
 simp -implicitDefEqProofs[c275_19,c275_20,c275_21,c275_22,c275_23,c275_24,c275_27,c275_28,c275_31,c275_32,ed,er,g16,hz9,hz18,bm]
 have ro:RoundOk li (li++[⟨2,r,lc,0,0,0,0,0,0⟩]) mem (mem+1):=RoundOk.one (.inr (.inl ⟨rfl,hlc,hr,rfl⟩)) (by unfold vOk;simp;try omega) (by simp[fOk];try omega) (by simp) (by simp[isMem])
 refine fin 1 [⟨2,r,lc,0,0,0,0,0,0⟩] (mem+1) rfl (by omega) (by omega) ro hB (fun _ _=>rfl) (Nat.le_refl _) _ fun v' h' s' x' g'=>?_
 simp -implicitDefEqProofs[bm]
 exact hR h' v' _ _ x' g' s' ro
theorem rest_275_6{hB h0:AH}{most mem:Nat}{x n lcs i kk lc ar av:Int}{s:Value}{li:List Ins}{R:SExit→Fr→AH→Prop}{b16 bb:Nat}     (hx0:0≤x) (hlc:lP lc) (har:ar=-1∨ar=0∨ar=1) (hav:(0≤av∧av≤65535)∧(ar=-1∨av=0)) (g16:hB.get b16=.cells [.int .i64 ar,.int .i64 av] false false) (hb16:b16<hB.next) (hm:mem<most) (hmost:most≤1000000)     (x0:Ext1 bb h0 hB) (hbb:bb<h0.next) (ss:SlG 9 hB h0.next li.length (li.flatMap Ins.c) s) (hli:li.length≤1000)     (hR:∀(h1:AH) (s':Value) (li':List Ins) (mem':Nat),Ext1 bb h0 h1→(∀y,y<h0.next→h1.get y=hB.get y)→SlG 9 h1 h0.next li'.length (li'.flatMap Ins.c) s'→RoundOk li li' mem mem' →       R .normal [(1,.int .i64 most),(4,.pointer (some ⟨h.next+1,0,none⟩)),(5,.pointer (some ⟨h.next+2,0,none⟩)),(7,.func (.func 282) #[] #[.pointer (some ⟨h.next+3,0,none⟩),.pointer (some ⟨h.next,0,none⟩)]),(8,.int .i64 n),(9,.int .i64 lcs),(10,.int .i64 mem'),(11,.int .i64 i),(12,s'),(13,.int .i64 kk)] h1) (ed:x.tmod 12=6):WB G rest275 [(1,.int .i64 most),(4,.pointer (some ⟨h.next+1,0,none⟩)),(5,.pointer (some ⟨h.next+2,0,none⟩)),(7,.func (.func 282) #[] #[.pointer (some ⟨h.next+3,0,none⟩),.pointer (some ⟨h.next,0,none⟩)]),(8,.int .i64 n),(9,.int .i64 lcs),(10,.int .i64 mem),(11,.int .i64 i),(12,s),(13,.int .i64 kk),(14,.int .i64 x),(15,.int .i64 lc),(16,.pointer (some ⟨b16,0,none⟩))] hB R:=by
 constructor
 have bm:IntKind.i64.wrap ((mem:Int)+1)=((mem+1:Nat):Int):=by rw[wrap64 (by omega)];rfl
 obtain⟨r,er,hr⟩:∃r:Int,iand .i64 (x.fdiv (2^min 11 IntKind.i64.bits)) 1=r∧(r=0∨r=1):=by
  have:=iand_bound (a:=x.fdiv (2^min 11 IntKind.i64.bits)) (m:=1) (by omega) (by omega)
  exact⟨_,rfl,by omega⟩
 have fin:∀(j:Nat) (new:List Ins) (mem':Nat),new.length=j→0<j→j≤2→RoundOk li (li++new) mem mem'→∀(hC:AH),(∀y,y<hB.next→hC.get y=hB.get y)→hB.next≤hC.next→∀(K:Value→AH→Prop),
   (∀v' h',SlG 9 h' h0.next (li++new).length ((li++new).flatMap Ins.c) v'→Ext1 bb h0 h'→(∀y,y<h0.next→h'.get y=hB.get y)→K v' h')→
   getvh (sappend (hC.alloc (.cells (new.flatMap Ins.c) false false)) 9 72 s (.slice (some ⟨hC.next,0,none⟩) j j)) K:=by
  intro j new mem' hj h0' h2' hro hC hCg hCn K hK
  have sC:SlG 9 hC h0.next li.length (li.flatMap Ins.c) s:=ss.ext1 (b:=bb) ⟨hCn,fun i hi _=>hCg i hi⟩ (by omega)
  have hnn:h0.next≤hB.next:=x0.next
  refine sC.app3 (j:=j) (by rw[fm_length Ins.c_length,hj]) h0' (by omega) (by omega) fun v' h' s' n' k1 _ _=>?_
  refine hK v' h' ?_ ⟨by have:=x0.next;omega,fun i hi hb=>?_⟩ fun y hy=>?_
  ·rw[List.length_append,hj,List.flatMap_append];exact s'
  ·rw[k1 i hi,hCg i (by omega),x0.get i hi hb]
  ·rw[k1 y hy,hCg y (by omega)]
 unfold rest275 c275_43
 have hz9:zi 9=[.int .i64 0,.int .i64 0,.int .i64 0,.int .i64 0,.int .i64 0,.int .i64 0,.int .i64 0,.int .i64 0,.int .i64 0]:=rfl
 have hz18:zi 18=[.int .i64 0,.int .i64 0,.int .i64 0,.int .i64 0,.int .i64 0,.int .i64 0,.int .i64 0,.int .i64 0,.int .i64 0,.int .i64 0,.int .i64 0,.int .i64 0,.int .i64 0,.int .i64 0,.int .i64 0,.int .i64 0,.int .i64 0,.int .i64 0]:=rfl
 simp -implicitDefEqProofs[c275_19,c275_20,c275_21,c275_22,c275_23,c275_24,c275_27,c275_28,c275_29,c275_31,c275_32,ed,er,g16,hz9,hz18,bm]
 have ro:RoundOk li (li++[⟨2,r,lc,0,0,0,0,0,0⟩]) mem (mem+1):=RoundOk.one (.inr (.inl ⟨rfl,hlc,hr,rfl⟩)) (by unfold vOk;simp;try omega) (by simp[fOk];try omega) (by simp) (by simp[isMem])
 refine fin 1 [⟨2,r,lc,0,0,0,0,0,0⟩] (mem+1) rfl (by omega) (by omega) ro hB (fun _ _=>rfl) (Nat.le_refl _) _ fun v' h' s' x' g'=>?_
 simp -implicitDefEqProofs[bm]
 exact hR h' v' _ _ x' g' s' ro
theorem rest_275_7{hB h0:AH}{most mem:Nat}{x n lcs i kk lc ar av:Int}{s:Value}{li:List Ins}{R:SExit→Fr→AH→Prop}{b16 bb:Nat}     (hx0:0≤x) (hlc:lP lc) (har:ar=-1∨ar=0∨ar=1) (hav:(0≤av∧av≤65535)∧(ar=-1∨av=0)) (g16:hB.get b16=.cells [.int .i64 ar,.int .i64 av] false false) (hb16:b16<hB.next) (hm:mem<most) (hmost:most≤1000000)     (x0:Ext1 bb h0 hB) (hbb:bb<h0.next) (ss:SlG 9 hB h0.next li.length (li.flatMap Ins.c) s) (hli:li.length≤1000)     (hR:∀(h1:AH) (s':Value) (li':List Ins) (mem':Nat),Ext1 bb h0 h1→(∀y,y<h0.next→h1.get y=hB.get y)→SlG 9 h1 h0.next li'.length (li'.flatMap Ins.c) s'→RoundOk li li' mem mem' →       R .normal [(1,.int .i64 most),(4,.pointer (some ⟨h.next+1,0,none⟩)),(5,.pointer (some ⟨h.next+2,0,none⟩)),(7,.func (.func 282) #[] #[.pointer (some ⟨h.next+3,0,none⟩),.pointer (some ⟨h.next,0,none⟩)]),(8,.int .i64 n),(9,.int .i64 lcs),(10,.int .i64 mem'),(11,.int .i64 i),(12,s'),(13,.int .i64 kk)] h1) (ed:x.tmod 12=7):WB G rest275 [(1,.int .i64 most),(4,.pointer (some ⟨h.next+1,0,none⟩)),(5,.pointer (some ⟨h.next+2,0,none⟩)),(7,.func (.func 282) #[] #[.pointer (some ⟨h.next+3,0,none⟩),.pointer (some ⟨h.next,0,none⟩)]),(8,.int .i64 n),(9,.int .i64 lcs),(10,.int .i64 mem),(11,.int .i64 i),(12,s),(13,.int .i64 kk),(14,.int .i64 x),(15,.int .i64 lc),(16,.pointer (some ⟨b16,0,none⟩))] hB R:=by
 constructor
 have bm:IntKind.i64.wrap ((mem:Int)+1)=((mem+1:Nat):Int):=by rw[wrap64 (by omega)];rfl
 obtain⟨r,er,hr⟩:∃r:Int,iand .i64 (x.fdiv (2^min 11 IntKind.i64.bits)) 1=r∧(r=0∨r=1):=by
  have:=iand_bound (a:=x.fdiv (2^min 11 IntKind.i64.bits)) (m:=1) (by omega) (by omega)
  exact⟨_,rfl,by omega⟩
 have fin:∀(j:Nat) (new:List Ins) (mem':Nat),new.length=j→0<j→j≤2→RoundOk li (li++new) mem mem'→∀(hC:AH),(∀y,y<hB.next→hC.get y=hB.get y)→hB.next≤hC.next→∀(K:Value→AH→Prop),
   (∀v' h',SlG 9 h' h0.next (li++new).length ((li++new).flatMap Ins.c) v'→Ext1 bb h0 h'→(∀y,y<h0.next→h'.get y=hB.get y)→K v' h')→
   getvh (sappend (hC.alloc (.cells (new.flatMap Ins.c) false false)) 9 72 s (.slice (some ⟨hC.next,0,none⟩) j j)) K:=by
  intro j new mem' hj h0' h2' hro hC hCg hCn K hK
  have sC:SlG 9 hC h0.next li.length (li.flatMap Ins.c) s:=ss.ext1 (b:=bb) ⟨hCn,fun i hi _=>hCg i hi⟩ (by omega)
  have hnn:h0.next≤hB.next:=x0.next
  refine sC.app3 (j:=j) (by rw[fm_length Ins.c_length,hj]) h0' (by omega) (by omega) fun v' h' s' n' k1 _ _=>?_
  refine hK v' h' ?_ ⟨by have:=x0.next;omega,fun i hi hb=>?_⟩ fun y hy=>?_
  ·rw[List.length_append,hj,List.flatMap_append];exact s'
  ·rw[k1 i hi,hCg i (by omega),x0.get i hi hb]
  ·rw[k1 y hy,hCg y (by omega)]
 unfold rest275 c275_43
 have hz9:zi 9=[.int .i64 0,.int .i64 0,.int .i64 0,.int .i64 0,.int .i64 0,.int .i64 0,.int .i64 0,.int .i64 0,.int .i64 0]:=rfl
 have hz18:zi 18=[.int .i64 0,.int .i64 0,.int .i64 0,.int .i64 0,.int .i64 0,.int .i64 0,.int .i64 0,.int .i64 0,.int .i64 0,.int .i64 0,.int .i64 0,.int .i64 0,.int .i64 0,.int .i64 0,.int .i64 0,.int .i64 0,.int .i64 0,.int .i64 0]:=rfl
 simp -implicitDefEqProofs[c275_19,c275_20,c275_21,c275_22,c275_23,c275_24,c275_27,c275_28,c275_29,c275_30,c275_31,c275_32,ed,er,g16,hz9,hz18,bm]
 have ro:RoundOk li (li++[⟨2,r,lc,0,0,0,0,0,0⟩]) mem (mem+1):=RoundOk.one (.inr (.inl ⟨rfl,hlc,hr,rfl⟩)) (by unfold vOk;simp;try omega) (by simp[fOk];try omega) (by simp) (by simp[isMem])
 refine fin 1 [⟨2,r,lc,0,0,0,0,0,0⟩] (mem+1) rfl (by omega) (by omega) ro hB (fun _ _=>rfl) (Nat.le_refl _) _ fun v' h' s' x' g'=>?_
 simp -implicitDefEqProofs[bm]
 exact hR h' v' _ _ x' g' s' ro
theorem rest_275_8{hB h0:AH}{most mem:Nat}{x n lcs i kk lc ar av:Int}{s:Value}{li:List Ins}{R:SExit→Fr→AH→Prop}{b16 bb:Nat}     (hx0:0≤x) (hlc:lP lc) (har:ar=-1∨ar=0∨ar=1) (hav:(0≤av∧av≤65535)∧(ar=-1∨av=0)) (g16:hB.get b16=.cells [.int .i64 ar,.int .i64 av] false false) (hb16:b16<hB.next) (hm:mem<most) (hmost:most≤1000000)     (x0:Ext1 bb h0 hB) (hbb:bb<h0.next) (ss:SlG 9 hB h0.next li.length (li.flatMap Ins.c) s) (hli:li.length≤1000)     (hR:∀(h1:AH) (s':Value) (li':List Ins) (mem':Nat),Ext1 bb h0 h1→(∀y,y<h0.next→h1.get y=hB.get y)→SlG 9 h1 h0.next li'.length (li'.flatMap Ins.c) s'→RoundOk li li' mem mem' →       R .normal [(1,.int .i64 most),(4,.pointer (some ⟨h.next+1,0,none⟩)),(5,.pointer (some ⟨h.next+2,0,none⟩)),(7,.func (.func 282) #[] #[.pointer (some ⟨h.next+3,0,none⟩),.pointer (some ⟨h.next,0,none⟩)]),(8,.int .i64 n),(9,.int .i64 lcs),(10,.int .i64 mem'),(11,.int .i64 i),(12,s'),(13,.int .i64 kk)] h1) (ed:x.tmod 12=8):WB G rest275 [(1,.int .i64 most),(4,.pointer (some ⟨h.next+1,0,none⟩)),(5,.pointer (some ⟨h.next+2,0,none⟩)),(7,.func (.func 282) #[] #[.pointer (some ⟨h.next+3,0,none⟩),.pointer (some ⟨h.next,0,none⟩)]),(8,.int .i64 n),(9,.int .i64 lcs),(10,.int .i64 mem),(11,.int .i64 i),(12,s),(13,.int .i64 kk),(14,.int .i64 x),(15,.int .i64 lc),(16,.pointer (some ⟨b16,0,none⟩))] hB R:=by
 constructor
 have bm:IntKind.i64.wrap ((mem:Int)+1)=((mem+1:Nat):Int):=by rw[wrap64 (by omega)];rfl
 obtain⟨r,er,hr⟩:∃r:Int,iand .i64 (x.fdiv (2^min 11 IntKind.i64.bits)) 1=r∧(r=0∨r=1):=by
  have:=iand_bound (a:=x.fdiv (2^min 11 IntKind.i64.bits)) (m:=1) (by omega) (by omega)
  exact⟨_,rfl,by omega⟩
 have fin:∀(j:Nat) (new:List Ins) (mem':Nat),new.length=j→0<j→j≤2→RoundOk li (li++new) mem mem'→∀(hC:AH),(∀y,y<hB.next→hC.get y=hB.get y)→hB.next≤hC.next→∀(K:Value→AH→Prop),
   (∀v' h',SlG 9 h' h0.next (li++new).length ((li++new).flatMap Ins.c) v'→Ext1 bb h0 h'→(∀y,y<h0.next→h'.get y=hB.get y)→K v' h')→
   getvh (sappend (hC.alloc (.cells (new.flatMap Ins.c) false false)) 9 72 s (.slice (some ⟨hC.next,0,none⟩) j j)) K:=by
  intro j new mem' hj h0' h2' hro hC hCg hCn K hK
  have sC:SlG 9 hC h0.next li.length (li.flatMap Ins.c) s:=ss.ext1 (b:=bb) ⟨hCn,fun i hi _=>hCg i hi⟩ (by omega)
  have hnn:h0.next≤hB.next:=x0.next
  refine sC.app3 (j:=j) (by rw[fm_length Ins.c_length,hj]) h0' (by omega) (by omega) fun v' h' s' n' k1 _ _=>?_
  refine hK v' h' ?_ ⟨by have:=x0.next;omega,fun i hi hb=>?_⟩ fun y hy=>?_
  ·rw[List.length_append,hj,List.flatMap_append];exact s'
  ·rw[k1 i hi,hCg i (by omega),x0.get i hi hb]
  ·rw[k1 y hy,hCg y (by omega)]
 unfold rest275 c275_43
 have hz9:zi 9=[.int .i64 0,.int .i64 0,.int .i64 0,.int .i64 0,.int .i64 0,.int .i64 0,.int .i64 0,.int .i64 0,.int .i64 0]:=rfl
 have hz18:zi 18=[.int .i64 0,.int .i64 0,.int .i64 0,.int .i64 0,.int .i64 0,.int .i64 0,.int .i64 0,.int .i64 0,.int .i64 0,.int .i64 0,.int .i64 0,.int .i64 0,.int .i64 0,.int .i64 0,.int .i64 0,.int .i64 0,.int .i64 0,.int .i64 0]:=rfl
 simp -implicitDefEqProofs[c275_19,c275_20,c275_21,c275_22,c275_23,c275_24,c275_27,c275_28,c275_29,c275_30,c275_33,c275_34,ed,er,g16,hz9,hz18,bm]
 have ro:RoundOk li (li++[⟨3,0,0,0,0,0,0,0,0⟩]) mem mem:=RoundOk.one (.inr (.inr (.inl ⟨rfl,rfl⟩))) (by unfold vOk;simp;try omega) (by simp[fOk];try omega) (by simp) (by simp[isMem])
 refine fin 1 [⟨3,0,0,0,0,0,0,0,0⟩] mem rfl (by omega) (by omega) ro hB (fun _ _=>rfl) (Nat.le_refl _) _ fun v' h' s' x' g'=>?_
 simp -implicitDefEqProofs[bm]
 exact hR h' v' _ _ x' g' s' ro
theorem rest_275_9{hB h0:AH}{most mem:Nat}{x n lcs i kk lc ar av:Int}{s:Value}{li:List Ins}{R:SExit→Fr→AH→Prop}{b16 bb:Nat}     (hx0:0≤x) (hlc:lP lc) (har:ar=-1∨ar=0∨ar=1) (hav:(0≤av∧av≤65535)∧(ar=-1∨av=0)) (g16:hB.get b16=.cells [.int .i64 ar,.int .i64 av] false false) (hb16:b16<hB.next) (hm:mem<most) (hmost:most≤1000000)     (x0:Ext1 bb h0 hB) (hbb:bb<h0.next) (ss:SlG 9 hB h0.next li.length (li.flatMap Ins.c) s) (hli:li.length≤1000)     (hR:∀(h1:AH) (s':Value) (li':List Ins) (mem':Nat),Ext1 bb h0 h1→(∀y,y<h0.next→h1.get y=hB.get y)→SlG 9 h1 h0.next li'.length (li'.flatMap Ins.c) s'→RoundOk li li' mem mem' →       R .normal [(1,.int .i64 most),(4,.pointer (some ⟨h.next+1,0,none⟩)),(5,.pointer (some ⟨h.next+2,0,none⟩)),(7,.func (.func 282) #[] #[.pointer (some ⟨h.next+3,0,none⟩),.pointer (some ⟨h.next,0,none⟩)]),(8,.int .i64 n),(9,.int .i64 lcs),(10,.int .i64 mem'),(11,.int .i64 i),(12,s'),(13,.int .i64 kk)] h1) (ed:x.tmod 12=9):WB G rest275 [(1,.int .i64 most),(4,.pointer (some ⟨h.next+1,0,none⟩)),(5,.pointer (some ⟨h.next+2,0,none⟩)),(7,.func (.func 282) #[] #[.pointer (some ⟨h.next+3,0,none⟩),.pointer (some ⟨h.next,0,none⟩)]),(8,.int .i64 n),(9,.int .i64 lcs),(10,.int .i64 mem),(11,.int .i64 i),(12,s),(13,.int .i64 kk),(14,.int .i64 x),(15,.int .i64 lc),(16,.pointer (some ⟨b16,0,none⟩))] hB R:=by
 constructor
 have bm:IntKind.i64.wrap ((mem:Int)+1)=((mem+1:Nat):Int):=by rw[wrap64 (by omega)];rfl
 obtain⟨r,er,hr⟩:∃r:Int,iand .i64 (x.fdiv (2^min 11 IntKind.i64.bits)) 1=r∧(r=0∨r=1):=by
  have:=iand_bound (a:=x.fdiv (2^min 11 IntKind.i64.bits)) (m:=1) (by omega) (by omega)
  exact⟨_,rfl,by omega⟩
 have fin:∀(j:Nat) (new:List Ins) (mem':Nat),new.length=j→0<j→j≤2→RoundOk li (li++new) mem mem'→∀(hC:AH),(∀y,y<hB.next→hC.get y=hB.get y)→hB.next≤hC.next→∀(K:Value→AH→Prop),
   (∀v' h',SlG 9 h' h0.next (li++new).length ((li++new).flatMap Ins.c) v'→Ext1 bb h0 h'→(∀y,y<h0.next→h'.get y=hB.get y)→K v' h')→
   getvh (sappend (hC.alloc (.cells (new.flatMap Ins.c) false false)) 9 72 s (.slice (some ⟨hC.next,0,none⟩) j j)) K:=by
  intro j new mem' hj h0' h2' hro hC hCg hCn K hK
  have sC:SlG 9 hC h0.next li.length (li.flatMap Ins.c) s:=ss.ext1 (b:=bb) ⟨hCn,fun i hi _=>hCg i hi⟩ (by omega)
  have hnn:h0.next≤hB.next:=x0.next
  refine sC.app3 (j:=j) (by rw[fm_length Ins.c_length,hj]) h0' (by omega) (by omega) fun v' h' s' n' k1 _ _=>?_
  refine hK v' h' ?_ ⟨by have:=x0.next;omega,fun i hi hb=>?_⟩ fun y hy=>?_
  ·rw[List.length_append,hj,List.flatMap_append];exact s'
  ·rw[k1 i hi,hCg i (by omega),x0.get i hi hb]
  ·rw[k1 y hy,hCg y (by omega)]
 unfold rest275 c275_43
 have hz9:zi 9=[.int .i64 0,.int .i64 0,.int .i64 0,.int .i64 0,.int .i64 0,.int .i64 0,.int .i64 0,.int .i64 0,.int .i64 0]:=rfl
 have hz18:zi 18=[.int .i64 0,.int .i64 0,.int .i64 0,.int .i64 0,.int .i64 0,.int .i64 0,.int .i64 0,.int .i64 0,.int .i64 0,.int .i64 0,.int .i64 0,.int .i64 0,.int .i64 0,.int .i64 0,.int .i64 0,.int .i64 0,.int .i64 0,.int .i64 0]:=rfl
 simp -implicitDefEqProofs[c275_19,c275_20,c275_21,c275_22,c275_23,c275_24,c275_27,c275_28,c275_29,c275_30,c275_33,c275_35,c275_36,c275_37,ed,er,g16,hz9,hz18,bm]
 have ro:RoundOk li (li++[⟨4,r,lc,ar,av,0,-1,1,0⟩]) mem (mem+1):=RoundOk.one (.inr (.inr (.inr (.inl ⟨rfl,hlc,hr,har,rfl⟩)))) (by unfold vOk;simp;try omega) (by simp[fOk];try omega) (by simp) (by simp[isMem])
 refine fin 1 [⟨4,r,lc,ar,av,0,-1,1,0⟩] (mem+1) rfl (by omega) (by omega) ro hB (fun _ _=>rfl) (Nat.le_refl _) _ fun v' h' s' x' g'=>?_
 simp -implicitDefEqProofs[bm]
 exact hR h' v' _ _ x' g' s' ro
theorem rest_275_10{hB h0:AH}{most mem:Nat}{x n lcs i kk lc ar av:Int}{s:Value}{li:List Ins}{R:SExit→Fr→AH→Prop}{b16 bb:Nat}     (hx0:0≤x) (hlc:lP lc) (har:ar=-1∨ar=0∨ar=1) (hav:(0≤av∧av≤65535)∧(ar=-1∨av=0)) (g16:hB.get b16=.cells [.int .i64 ar,.int .i64 av] false false) (hb16:b16<hB.next) (hm:mem<most) (hmost:most≤1000000)     (x0:Ext1 bb h0 hB) (hbb:bb<h0.next) (ss:SlG 9 hB h0.next li.length (li.flatMap Ins.c) s) (hli:li.length≤1000)     (hR:∀(h1:AH) (s':Value) (li':List Ins) (mem':Nat),Ext1 bb h0 h1→(∀y,y<h0.next→h1.get y=hB.get y)→SlG 9 h1 h0.next li'.length (li'.flatMap Ins.c) s'→RoundOk li li' mem mem' →       R .normal [(1,.int .i64 most),(4,.pointer (some ⟨h.next+1,0,none⟩)),(5,.pointer (some ⟨h.next+2,0,none⟩)),(7,.func (.func 282) #[] #[.pointer (some ⟨h.next+3,0,none⟩),.pointer (some ⟨h.next,0,none⟩)]),(8,.int .i64 n),(9,.int .i64 lcs),(10,.int .i64 mem'),(11,.int .i64 i),(12,s'),(13,.int .i64 kk)] h1) (ed:x.tmod 12=10):WB G rest275 [(1,.int .i64 most),(4,.pointer (some ⟨h.next+1,0,none⟩)),(5,.pointer (some ⟨h.next+2,0,none⟩)),(7,.func (.func 282) #[] #[.pointer (some ⟨h.next+3,0,none⟩),.pointer (some ⟨h.next,0,none⟩)]),(8,.int .i64 n),(9,.int .i64 lcs),(10,.int .i64 mem),(11,.int .i64 i),(12,s),(13,.int .i64 kk),(14,.int .i64 x),(15,.int .i64 lc),(16,.pointer (some ⟨b16,0,none⟩))] hB R:=by
 constructor
 have bm:IntKind.i64.wrap ((mem:Int)+1)=((mem+1:Nat):Int):=by rw[wrap64 (by omega)];rfl
 obtain⟨r,er,hr⟩:∃r:Int,iand .i64 (x.fdiv (2^min 11 IntKind.i64.bits)) 1=r∧(r=0∨r=1):=by
  have:=iand_bound (a:=x.fdiv (2^min 11 IntKind.i64.bits)) (m:=1) (by omega) (by omega)
  exact⟨_,rfl,by omega⟩
 have fin:∀(j:Nat) (new:List Ins) (mem':Nat),new.length=j→0<j→j≤2→RoundOk li (li++new) mem mem'→∀(hC:AH),(∀y,y<hB.next→hC.get y=hB.get y)→hB.next≤hC.next→∀(K:Value→AH→Prop),
   (∀v' h',SlG 9 h' h0.next (li++new).length ((li++new).flatMap Ins.c) v'→Ext1 bb h0 h'→(∀y,y<h0.next→h'.get y=hB.get y)→K v' h')→
   getvh (sappend (hC.alloc (.cells (new.flatMap Ins.c) false false)) 9 72 s (.slice (some ⟨hC.next,0,none⟩) j j)) K:=by
  intro j new mem' hj h0' h2' hro hC hCg hCn K hK
  have sC:SlG 9 hC h0.next li.length (li.flatMap Ins.c) s:=ss.ext1 (b:=bb) ⟨hCn,fun i hi _=>hCg i hi⟩ (by omega)
  have hnn:h0.next≤hB.next:=x0.next
  refine sC.app3 (j:=j) (by rw[fm_length Ins.c_length,hj]) h0' (by omega) (by omega) fun v' h' s' n' k1 _ _=>?_
  refine hK v' h' ?_ ⟨by have:=x0.next;omega,fun i hi hb=>?_⟩ fun y hy=>?_
  ·rw[List.length_append,hj,List.flatMap_append];exact s'
  ·rw[k1 i hi,hCg i (by omega),x0.get i hi hb]
  ·rw[k1 y hy,hCg y (by omega)]
 unfold rest275 c275_43
 have hz9:zi 9=[.int .i64 0,.int .i64 0,.int .i64 0,.int .i64 0,.int .i64 0,.int .i64 0,.int .i64 0,.int .i64 0,.int .i64 0]:=rfl
 have hz18:zi 18=[.int .i64 0,.int .i64 0,.int .i64 0,.int .i64 0,.int .i64 0,.int .i64 0,.int .i64 0,.int .i64 0,.int .i64 0,.int .i64 0,.int .i64 0,.int .i64 0,.int .i64 0,.int .i64 0,.int .i64 0,.int .i64 0,.int .i64 0,.int .i64 0]:=rfl
 simp -implicitDefEqProofs[c275_19,c275_20,c275_21,c275_22,c275_23,c275_24,c275_27,c275_28,c275_29,c275_30,c275_33,c275_35,c275_38,c275_39,ed,er,g16,hz9,hz18,bm]
 have ro:RoundOk li (li++[⟨5,r,0,ar,av,6,-1,1,0⟩]) mem mem:=RoundOk.one (.inr (.inr (.inr (.inr (.inl ⟨rfl,rfl,hr,har,rfl,rfl⟩))))) (by unfold vOk;simp;try omega) (by simp[fOk];try omega) (by simp) (by simp[isMem])
 refine fin 1 [⟨5,r,0,ar,av,6,-1,1,0⟩] mem rfl (by omega) (by omega) ro hB (fun _ _=>rfl) (Nat.le_refl _) _ fun v' h' s' x' g'=>?_
 simp -implicitDefEqProofs[bm]
 exact hR h' v' _ _ x' g' s' ro
theorem rest_275_11{hB h0:AH}{most mem:Nat}{x n lcs i kk lc ar av:Int}{s:Value}{li:List Ins}{R:SExit→Fr→AH→Prop}{b16 bb:Nat}     (hx0:0≤x) (hlc:lP lc) (har:ar=-1∨ar=0∨ar=1) (hav:(0≤av∧av≤65535)∧(ar=-1∨av=0)) (g16:hB.get b16=.cells [.int .i64 ar,.int .i64 av] false false) (hb16:b16<hB.next) (hm:mem<most) (hmost:most≤1000000)     (x0:Ext1 bb h0 hB) (hbb:bb<h0.next) (ss:SlG 9 hB h0.next li.length (li.flatMap Ins.c) s) (hli:li.length≤1000)     (hR:∀(h1:AH) (s':Value) (li':List Ins) (mem':Nat),Ext1 bb h0 h1→(∀y,y<h0.next→h1.get y=hB.get y)→SlG 9 h1 h0.next li'.length (li'.flatMap Ins.c) s'→RoundOk li li' mem mem' →       R .normal [(1,.int .i64 most),(4,.pointer (some ⟨h.next+1,0,none⟩)),(5,.pointer (some ⟨h.next+2,0,none⟩)),(7,.func (.func 282) #[] #[.pointer (some ⟨h.next+3,0,none⟩),.pointer (some ⟨h.next,0,none⟩)]),(8,.int .i64 n),(9,.int .i64 lcs),(10,.int .i64 mem'),(11,.int .i64 i),(12,s'),(13,.int .i64 kk)] h1) (ed:x.tmod 12=11):WB G rest275 [(1,.int .i64 most),(4,.pointer (some ⟨h.next+1,0,none⟩)),(5,.pointer (some ⟨h.next+2,0,none⟩)),(7,.func (.func 282) #[] #[.pointer (some ⟨h.next+3,0,none⟩),.pointer (some ⟨h.next,0,none⟩)]),(8,.int .i64 n),(9,.int .i64 lcs),(10,.int .i64 mem),(11,.int .i64 i),(12,s),(13,.int .i64 kk),(14,.int .i64 x),(15,.int .i64 lc),(16,.pointer (some ⟨b16,0,none⟩))] hB R:=by
 constructor
 have bm:IntKind.i64.wrap ((mem:Int)+1)=((mem+1:Nat):Int):=by rw[wrap64 (by omega)];rfl
 obtain⟨r,er,hr⟩:∃r:Int,iand .i64 (x.fdiv (2^min 11 IntKind.i64.bits)) 1=r∧(r=0∨r=1):=by
  have:=iand_bound (a:=x.fdiv (2^min 11 IntKind.i64.bits)) (m:=1) (by omega) (by omega)
  exact⟨_,rfl,by omega⟩
 have fin:∀(j:Nat) (new:List Ins) (mem':Nat),new.length=j→0<j→j≤2→RoundOk li (li++new) mem mem'→∀(hC:AH),(∀y,y<hB.next→hC.get y=hB.get y)→hB.next≤hC.next→∀(K:Value→AH→Prop),
   (∀v' h',SlG 9 h' h0.next (li++new).length ((li++new).flatMap Ins.c) v'→Ext1 bb h0 h'→(∀y,y<h0.next→h'.get y=hB.get y)→K v' h')→
   getvh (sappend (hC.alloc (.cells (new.flatMap Ins.c) false false)) 9 72 s (.slice (some ⟨hC.next,0,none⟩) j j)) K:=by
  intro j new mem' hj h0' h2' hro hC hCg hCn K hK
  have sC:SlG 9 hC h0.next li.length (li.flatMap Ins.c) s:=ss.ext1 (b:=bb) ⟨hCn,fun i hi _=>hCg i hi⟩ (by omega)
  have hnn:h0.next≤hB.next:=x0.next
  refine sC.app3 (j:=j) (by rw[fm_length Ins.c_length,hj]) h0' (by omega) (by omega) fun v' h' s' n' k1 _ _=>?_
  refine hK v' h' ?_ ⟨by have:=x0.next;omega,fun i hi hb=>?_⟩ fun y hy=>?_
  ·rw[List.length_append,hj,List.flatMap_append];exact s'
  ·rw[k1 i hi,hCg i (by omega),x0.get i hi hb]
  ·rw[k1 y hy,hCg y (by omega)]
 unfold rest275 c275_43
 have hz9:zi 9=[.int .i64 0,.int .i64 0,.int .i64 0,.int .i64 0,.int .i64 0,.int .i64 0,.int .i64 0,.int .i64 0,.int .i64 0]:=rfl
 have hz18:zi 18=[.int .i64 0,.int .i64 0,.int .i64 0,.int .i64 0,.int .i64 0,.int .i64 0,.int .i64 0,.int .i64 0,.int .i64 0,.int .i64 0,.int .i64 0,.int .i64 0,.int .i64 0,.int .i64 0,.int .i64 0,.int .i64 0,.int .i64 0,.int .i64 0]:=rfl
 simp -implicitDefEqProofs[c275_19,c275_20,c275_21,c275_22,c275_23,c275_24,c275_27,c275_28,c275_29,c275_30,c275_33,c275_35,c275_38,c275_40,c275_41,ed,er,g16,hz9,hz18,bm]
 have ro:RoundOk li (li++[⟨6,0,0,ar,av,0,-1,0,1⟩,⟨1,0,lc,-1,2,0,0,0,0⟩]) mem (mem+1):=RoundOk.two (by simp[iOk,aOk];omega) (by simp[iOk,aOk];exact hlc) (by unfold vOk;simp;try omega) (by unfold vOk;simp) (by simp[fOk];try omega) (by simp[fOk]) rfl rfl rfl
 refine fin 2 [⟨6,0,0,ar,av,0,-1,0,1⟩,⟨1,0,lc,-1,2,0,0,0,0⟩] (mem+1) rfl (by omega) (by omega) ro hB (fun _ _=>rfl) (Nat.le_refl _) _ fun v' h' s' x' g'=>?_
 simp -implicitDefEqProofs[bm]
 exact hR h' v' _ _ x' g' s' ro
end Go.Jq
namespace Go.Jq
variable {G:Nat→SFunc} {h:AH} {R:Value→AH→Prop}
theorem twelve{d:Int}(h0:0≤d)(h1:d<12):d=0∨d=1∨d=2∨d=3∨d=4∨d=5∨d=6∨d=7∨d=8∨d=9∨d=10∨d=11:=by
 obtain⟨n,rfl⟩:=Int.eq_ofNat_of_zero_le h0
 have all:∀n:Fin 12,((n.val:Nat):Int)=0∨((n.val:Nat):Int)=1∨((n.val:Nat):Int)=2∨((n.val:Nat):Int)=3∨((n.val:Nat):Int)=4∨((n.val:Nat):Int)=5∨((n.val:Nat):Int)=6∨((n.val:Nat):Int)=7∨((n.val:Nat):Int)=8∨((n.val:Nat):Int)=9∨((n.val:Nat):Int)=10∨((n.val:Nat):Int)=11:=by decide
 exact all ⟨n,by omega⟩
theorem rest_275{hB h0:AH}{most mem:Nat}{x n lcs i kk lc ar av:Int}{s:Value}{li:List Ins}{R:SExit→Fr→AH→Prop}{b16 bb:Nat}     (hx0:0≤x) (hlc:lP lc) (har:ar=-1∨ar=0∨ar=1) (hav:(0≤av∧av≤65535)∧(ar=-1∨av=0)) (g16:hB.get b16=.cells [.int .i64 ar,.int .i64 av] false false) (hb16:b16<hB.next) (hm:mem<most) (hmost:most≤1000000)     (x0:Ext1 bb h0 hB) (hbb:bb<h0.next) (ss:SlG 9 hB h0.next li.length (li.flatMap Ins.c) s) (hli:li.length≤1000)     (hR:∀(h1:AH) (s':Value) (li':List Ins) (mem':Nat),Ext1 bb h0 h1→(∀y,y<h0.next→h1.get y=hB.get y)→SlG 9 h1 h0.next li'.length (li'.flatMap Ins.c) s'→RoundOk li li' mem mem' →       R .normal [(1,.int .i64 most),(4,.pointer (some ⟨h.next+1,0,none⟩)),(5,.pointer (some ⟨h.next+2,0,none⟩)),(7,.func (.func 282) #[] #[.pointer (some ⟨h.next+3,0,none⟩),.pointer (some ⟨h.next,0,none⟩)]),(8,.int .i64 n),(9,.int .i64 lcs),(10,.int .i64 mem'),(11,.int .i64 i),(12,s'),(13,.int .i64 kk)] h1):
  WB G rest275 [(1,.int .i64 most),(4,.pointer (some ⟨h.next+1,0,none⟩)),(5,.pointer (some ⟨h.next+2,0,none⟩)),(7,.func (.func 282) #[] #[.pointer (some ⟨h.next+3,0,none⟩),.pointer (some ⟨h.next,0,none⟩)]),(8,.int .i64 n),(9,.int .i64 lcs),(10,.int .i64 mem),(11,.int .i64 i),(12,s),(13,.int .i64 kk),(14,.int .i64 x),(15,.int .i64 lc),(16,.pointer (some ⟨b16,0,none⟩))] hB R:=by
 have hd:x.tmod 12=0∨x.tmod 12=1∨x.tmod 12=2∨x.tmod 12=3∨x.tmod 12=4∨x.tmod 12=5∨x.tmod 12=6∨x.tmod 12=7∨x.tmod 12=8∨x.tmod 12=9∨x.tmod 12=10∨x.tmod 12=11:=by
  rw[Int.tmod_eq_emod_of_nonneg hx0]
  exact twelve (Int.emod_nonneg _ (by decide)) (Int.emod_lt_of_pos _ (by decide))
 rcases hd with e|e|e|e|e|e|e|e|e|e|e|e
 ·exact rest_275_0 hx0 hlc har hav g16 hb16 hm hmost x0 hbb ss hli hR e
 ·exact rest_275_1 hx0 hlc har hav g16 hb16 hm hmost x0 hbb ss hli hR e
 ·exact rest_275_2 hx0 hlc har hav g16 hb16 hm hmost x0 hbb ss hli hR e
 ·exact rest_275_3 hx0 hlc har hav g16 hb16 hm hmost x0 hbb ss hli hR e
 ·exact rest_275_4 hx0 hlc har hav g16 hb16 hm hmost x0 hbb ss hli hR e
 ·exact rest_275_5 hx0 hlc har hav g16 hb16 hm hmost x0 hbb ss hli hR e
 ·exact rest_275_6 hx0 hlc har hav g16 hb16 hm hmost x0 hbb ss hli hR e
 ·exact rest_275_7 hx0 hlc har hav g16 hb16 hm hmost x0 hbb ss hli hR e
 ·exact rest_275_8 hx0 hlc har hav g16 hb16 hm hmost x0 hbb ss hli hR e
 ·exact rest_275_9 hx0 hlc har hav g16 hb16 hm hmost x0 hbb ss hli hR e
 ·exact rest_275_10 hx0 hlc har hav g16 hb16 hm hmost x0 hbb ss hli hR e
 ·exact rest_275_11 hx0 hlc har hav g16 hb16 hm hmost x0 hbb ss hli hR e
theorem round275(g:SmallG G){hh h0:AH}{most a mem:Nat}{n lcs i kk:Int}{s lv:Value}{li:List Ins}{l:List Int}{R:SExit→Fr→AH→Prop}
  (hl1:lcs=2∨lcs=3)(ha:hh.get (h.next+3)=.cells [.int .i64 a] false false)(hl:hh.get h.next=.cells [lv] false false)(hnx:h.next+4≤hh.next)
  (sl:∀o,SlV 1 (hh.put (h.next+3) o) l.length (l.flatMap intC) lv)(hlen:l.length≤9223372036854775807)(hab:a≤1000000)(hk1:1≤kk∧kk≤3)(hm:mem<most)(hmost:most≤1000000)
  (x0:Ext1 (h.next+3) h0 hh)(hlo:h.next+4≤h0.next)(ss:SlG 9 hh h0.next li.length (li.flatMap Ins.c) s)(hli:li.length≤1000)
  (hR:∀(h1:AH) (s':Value) (li':List Ins) (mem':Nat),Ext1 (h.next+3) h0 h1→h1.get (h.next+3)=.cells [.int .i64 ((a+1:Nat):Int)] false false→SlG 9 h1 h0.next li'.length (li'.flatMap Ins.c) s'→RoundOk li li' mem mem'→
   R .normal (fr275 most h n lcs mem' i s' (kk-1)) h1):
  W G c275_43 (fr275 most h n lcs mem i s kk) hh R:=by
 have b1:(0:Int)<kk:=by omega
 have b2:(mem:Int)<most:=by omega
 have bk:IntKind.i64.wrap (kk-1)=kk-1:=wrap64 (by omega)
 have bm:IntKind.i64.wrap ((mem:Int)+1)=((mem+1:Nat):Int):=by rw[wrap64 (by omega)];rfl
 unfold c275_43 fr275 c275_13 c275_14
 simp -implicitDefEqProofs[b1,b2]
 refine num_spec g (by omega) ha hl sl hlen hab fun x hx0 hx1=>?_
 have xA:Ext1 (h.next+3) h0 (hh.put (h.next+3) (.cells [.int .i64 ((a+1:Nat):Int)] false false)):=x0.put
 have sA:SlG 9 (hh.put (h.next+3) (.cells [.int .i64 ((a+1:Nat):Int)] false false)) h0.next li.length (li.flatMap Ins.c) s:=ss.ext1 (b:=h.next+3) ((Ext1.refl hh).put) (by omega)
 have hA:(hh.put (h.next+3) (.cells [.int .i64 ((a+1:Nat):Int)] false false)).get (h.next+3)=.cells [.int .i64 ((a+1:Nat):Int)] false false:=by simp
 have nA:h.next+4≤(hh.put (h.next+3) (.cells [.int .i64 ((a+1:Nat):Int)] false false)).next:=by simpa using hnx
 revert xA sA hA nA
 generalize hh.put (h.next+3) (.cells [.int .i64 ((a+1:Nat):Int)] false false)=hA
 intro xA sA gA nA
 clear ha hl sl ss x0
 obtain⟨lc,elc,hlc⟩:∃lc:Int,IntKind.i64.wrap (120+(x.fdiv (2^min 4 IntKind.i64.bits)).tmod lcs)=lc∧lP lc:=by
  refine⟨_,rfl,?_⟩
  have e:x.fdiv (2^min 4 IntKind.i64.bits)=x / 16:=shr_of (n:=4) hx0
  rw[e,Int.tmod_eq_emod_of_nonneg (by omega)]
  have:0≤x / 16 % lcs∧x / 16 % lcs<3:=by rcases hl1 with rfl|rfl<;>omega
  generalize x / 16 % lcs=y at*
  rw[wrap64 (by omega)]
  unfold lP;omega
 have hz:¬lcs=0:=by omega
 have hb:=iand_bound (a:=x.fdiv (2^min 10 IntKind.i64.bits)) (m:=1) (by omega) (by omega)
 have tail:∀(hB:AH) (ar av:Int) (b16:Nat),(ar=-1∨ar=0∨ar=1)→((0≤av∧av≤65535)∧(ar=-1∨av=0))→hB.get b16=.cells [.int .i64 ar,.int .i64 av] false false→b16<hB.next→Ext hA hB→
   W G rest275 [(1,.int .i64 most),(4,.pointer (some ⟨h.next+1,0,none⟩)),(5,.pointer (some ⟨h.next+2,0,none⟩)),(7,.func (.func 282) #[] #[.pointer (some ⟨h.next+3,0,none⟩),.pointer (some ⟨h.next,0,none⟩)]),(8,.int .i64 n),(9,.int .i64 lcs),(10,.int .i64 mem),(11,.int .i64 i),(12,s),(13,.int .i64 kk),(14,.int .i64 x),(15,.int .i64 lc),(16,.pointer (some ⟨b16,0,none⟩))] hB (blockK 3 (thenK (W G (.reg [1,4,5,7,8,9,10,11,12,13] c275_42)) R)):=by
  intro hB ar av b16 har hav g16 hb16 xB
  have xB1:Ext1 (h.next+3) h0 hB:=xA.trans xB.one
  refine WB.w (rest_275 hx0 hlc har hav g16 hb16 hm hmost xB1 (by omega) (sA.ext1 (b:=h.next+3) xB.one (by omega)) hli fun h1 s' li' mem' x1 g1 s1 ro=>?_)
  simp -implicitDefEqProofs[c275_42,bk]
  refine hR h1 s' li' mem' x1 ?_ s1 ro
  rw[g1 _ (by omega),xB.get _ (by omega)]
  exact gA
 simp -implicitDefEqProofs only[rest275,c275_43,W_seq,W_reg]at tail
 simp -implicitDefEqProofs[c275_15,c275_16,c275_17,hz,elc]
 by_cases h8:(x.fdiv (2^min 8 IntKind.i64.bits)).tmod 3=0
 ·simp -implicitDefEqProofs[h8,c275_18]
  exact tail _ (iand .i64 (x.fdiv (2^min 10 IntKind.i64.bits)) 1) 0 hA.next (by omega) (by omega) (by simp) (by simp) ((((Ext.refl hA).alloc _).put (Nat.le_refl _) _).put (Nat.le_refl _) _)
 ·simp -implicitDefEqProofs[h8]
  exact tail _ (-1) ((x.fdiv (2^min 6 IntKind.i64.bits)).tmod 3) hA.next (.inl rfl) (by
   have e:x.fdiv (2^min 6 IntKind.i64.bits)=x / 64:=shr_of (n:=6) hx0
   rw[e,Int.tmod_eq_emod_of_nonneg (by omega)];omega) (by simp) (by simp) (((Ext.refl hA).alloc _).put (Nat.le_refl _) _)
end Go.Jq
namespace Go.Jq
variable {G:Nat→SFunc} {h:AH} {R:Value→AH→Prop}
theorem loop275i(g:SmallG G){hh h0:AH}{most a mem:Nat}{n lcs i kk:Int}{s lv:Value}{li:List Ins}{l:List Int}{R:SExit→Fr→AH→Prop}
  (hl1:lcs=2∨lcs=3)(hnx:h.next+4≤h0.next)(hlen:l.length≤9223372036854775807)(hab:a+3≤1000000)(hk1:0≤kk∧kk≤3)(hm:mem≤most)(hmost:most≤1000000)
  (ha:hh.get (h.next+3)=.cells [.int .i64 a] false false)(hl:h0.get h.next=.cells [lv] false false)
  (sl:∀(h1:AH),Ext1 (h.next+3) h0 h1→SlV 1 h1 l.length (l.flatMap intC) lv)
  (x0:Ext1 (h.next+3) h0 hh)(ss:SlG 9 hh h0.next li.length (li.flatMap Ins.c) s)(hli:li.length+2*kk.toNat≤6)(hok:TOk lP li)(hne:li=[]→s=.slice none 0 0)
  (hR:∀(h1:AH) (s':Value) (li':List Ins) (mem' a':Nat) (kk':Int) (t:Bool),Ext1 (h.next+3) h0 h1→h1.get (h.next+3)=.cells [.int .i64 a'] false false→a'≤a+3→SlG 9 h1 h0.next li'.length (li'.flatMap Ins.c) s'→li'.length≤6→TOk lP li'→(li'=[]→s'=.slice none 0 0)→
   mem'+memN li=mem+memN li'→mem'≤most→
   R (.exit 2) [(1,.int .i64 most),(4,.pointer (some ⟨h.next+1,0,none⟩)),(5,.pointer (some ⟨h.next+2,0,none⟩)),(7,.func (.func 282) #[] #[.pointer (some ⟨h.next+3,0,none⟩),.pointer (some ⟨h.next,0,none⟩)]),(8,.int .i64 n),(9,.int .i64 lcs),(10,.int .i64 mem'),(11,.int .i64 i),(12,s'),(13,.int .i64 kk'),(57,.bool false)] h1):
  W G (.loop [1,4,5,7,8,9,10,11,12,13] c275_43) (fr275 most h n lcs mem i s kk) hh R:=by
 refine W_loop (fun mm F hh=>∃(kk:Int) (a1 mem1:Nat) (s:Value) (li1:List Ins),mm=kk.toNat∧(0≤kk∧kk≤3)∧mem1≤most∧hh.get (h.next+3)=.cells [.int .i64 a1] false false∧a1+kk.toNat≤a+3∧Ext1 (h.next+3) h0 hh∧SlG 9 hh h0.next li1.length (li1.flatMap Ins.c) s∧li1.length+2*kk.toNat≤6∧TOk lP li1∧(li1=[]→s=.slice none 0 0)∧mem1+memN li=mem+memN li1∧
  F=fr275 most h n lcs mem1 i s kk) kk.toNat ⟨kk,a,mem,s,li,rfl,hk1,hm,ha,by omega,x0,ss,hli,hok,hne,rfl,rfl⟩ ?_
 rintro mm F hh ⟨kk,a1,mem1,s,li1,rfl,hk,hm1,ha1,hle,x,ss,hli1,hok1,hne1,hmm,rfl⟩
 by_cases h1:0<kk
 ·by_cases h2:mem1<most
  ·refine round275 g (lv:=lv) (l:=l) hl1 ha1 ?_ (by have:=x.next;omega) (fun o=>sl _ x.put) hlen (by omega) (by omega) h2 hmost x hnx ss (by omega) fun h2 s' li' mem' x2 g2 s2 ro=>?_
   ·rw[x.get _ (by omega) (by omega)];exact hl
   ·have e1:(kk-1).toNat<kk.toNat:=by omega
    have hmem:=ro.mem
    have hmono:=ro.mono
    refine⟨(kk-1).toNat,e1,kk-1,a1+1,mem',s',li',rfl,by omega,by have:=ro.le;omega,g2,by omega,x2,s2,by have:=ro.len;omega,ro.ok hok1,fun e=>absurd e ro.ne,by omega,rfl⟩
  ·have b1:(0:Int)<kk:=h1
   have b2:¬(mem1:Int)<most:=by omega
   unfold c275_43 c275_13 fr275
   simp -implicitDefEqProofs[b1,b2]
   exact hR hh s li1 mem1 a1 kk false x ha1 (by omega) ss (by omega) hok1 hne1 hmm hm1
 ·have b1:¬(0:Int)<kk:=h1
  unfold c275_43 c275_13 fr275
  simp -implicitDefEqProofs[b1]
  exact hR hh s li1 mem1 a1 kk false x ha1 (by omega) ss (by omega) hok1 hne1 hmm hm1
def zt:List Value:=[.string ⟨#[]⟩,.slice none 0 0,.slice none 0 0,.int .i64 0,.slice none 0 0]
def InsG(hh:AH)(lo:Nat)(l:List Ins)(u:Value):Prop:=SlG 9 hh lo l.length (l.flatMap Ins.c) u∧(l=[]→u=.slice none 0 0)
structure SmM(h hh:AH)(lv:Value)(a:Nat)(inits:List (Int×Int))(ths:List (List Ins)):Prop where
 next:h.next+4≤hh.next
 old:∀y,y<h.next→hh.get y=h.get y
 l:hh.get h.next=.cells [lv] false false
 out:hh.get (h.next+1)=.cells zt false false
 at':hh.get (h.next+3)=.cells [.int .i64 a] false false
 t:∃iv tv tvs,hh.get (h.next+2)=.cells [.string ⟨#[116]⟩,iv,tv,.int .i64 0,.slice none 0 0] false false∧SlG 2 hh (h.next+4) inits.length (inits.flatMap i2c) iv∧(inits=[]→iv=.slice none 0 0)∧
  SlG 1 hh (h.next+4) ths.length tvs tv∧All2 (InsG hh (h.next+4)) ths tvs∧(ths=[]→tv=.slice none 0 0)
theorem SmM.ext1{hh h1:AH}{lv:Value}{a a':Nat}{inits:List (Int×Int)}{ths:List (List Ins)}(M:SmM h hh lv a inits ths)(x:Ext1 (h.next+3) hh h1)(g:h1.get (h.next+3)=.cells [.int .i64 a'] false false):SmM h h1 lv a' inits ths:=by
 have n:=M.next
 obtain⟨iv,tv,tvs,t1,t2,t3,t4,t5,t6⟩:=M.t
 refine⟨by have:=x.next;omega,fun y hy=>by rw[x.get y (by omega) (by omega)];exact M.old y hy,by rw[x.get _ (by omega) (by omega)];exact M.l,by rw[x.get _ (by omega) (by omega)];exact M.out,g,
  iv,tv,tvs,by rw[x.get _ (by omega) (by omega)];exact t1,t2.ext1 x (by omega),t3,t4.ext1 x (by omega),t5.imp fun l u _ _ hp=>⟨hp.1.ext1 x (by omega),hp.2⟩,t6⟩
theorem SlG.is_slice{k:Nat}{h:AH}{lo n:Nat}{cs:List Value}{v:Value}(s:SlG k h lo n cs v):∃a n c,v=.slice a n c:=by
 obtain⟨a,c,e⟩:=s.len;exact⟨a,_,c,e⟩
theorem All2.mem{α β:Type}{p:α→β→Prop}{l:List α}{m:List β}(h:All2 p l m){b:β}(hb:b∈m):∃a∈l,p a b:=by
 induction h with
 | nil=>simp at hb
 | cons h1 _ ih=>
  rcases List.mem_cons.1 hb with rfl|hb
  ·exact⟨_,List.mem_cons_self,h1⟩
  ·obtain⟨a,ha,hp⟩:=ih hb;exact⟨a,List.mem_cons_of_mem _ ha,hp⟩
theorem ins_int{l:List Ins}(h:l≠[]):∃n:Int,Value.int .i64 n∈l.flatMap Ins.c:=by
 cases l with
 | nil=>exact absurd rfl h
 | cons i l=>exact⟨i.kind,by simp[Ins.c]⟩
theorem i2c_int{l:List (Int×Int)}(h:l≠[]):∃n:Int,Value.int .i64 n∈l.flatMap i2c:=by
 cases l with
 | nil=>exact absurd rfl h
 | cons i l=>exact⟨i.1,by simp[i2c]⟩
theorem SmM.thread{hh:AH}{lv:Value}{a:Nat}{inits:List (Int×Int)}{ths:List (List Ins)}{li:List Ins}{s:Value}{K:Value→AH→Prop}(M:SmM h hh lv a inits ths)(hs:InsG hh (h.next+4) li s)(hlen:ths.length≤1000)
  {tv:Value}{iv:Value}(ht:hh.get (h.next+2)=.cells [.string ⟨#[116]⟩,iv,tv,.int .i64 0,.slice none 0 0] false false)
  (hK:∀v' h',h'.get (h.next+2)=hh.get (h.next+2)→h.next+4≤h'.next→SmM h (h'.put (h.next+2) (.cells [.string ⟨#[116]⟩,iv,v',.int .i64 0,.slice none 0 0] false false)) lv a inits (ths++[li])→(∃a n c,v'=.slice a n c)→K v' h'):
  getvh (sappend (hh.alloc (.cells [s] false false)) 1 24 tv (.slice (some ⟨hh.next,0,none⟩) 1 1)) K:=by
 obtain⟨iv',tv',tvs,t1,t2,t3,t4,t5,_⟩:=M.t
 rw[ht]at t1
 simp only[ABlk.cells.injEq,List.cons.injEq,and_true,true_and]at t1
 obtain⟨rfl,rfl⟩:=t1
 have n:=M.next
 have notin:∀n:Int,Value.int .i64 n∉tvs:=fun n hn=>by
  obtain⟨l,_,hp⟩:=t5.mem hn
  obtain⟨_,_,_,e⟩:=hp.1.is_slice
  simp at e
 refine t4.app3 (j:=1) (ec:=[s]) rfl (by omega) (by omega) n fun v' h' s' n' g' _ keep=>?_
 have kins:∀(l:List Ins) u,InsG hh (h.next+4) l u→InsG h' (h.next+4) l u:=fun l u hp=>by
  refine⟨keep _ _ _ _ _ hp.1 ?_,hp.2⟩
  by_cases hl:l=[]
  ·exact .inl (hp.2 hl)
  ·obtain⟨n,hn⟩:=ins_int hl
   exact .inr ⟨_,hn,notin n⟩
 have kini:SlG 2 h' (h.next+4) inits.length (inits.flatMap i2c) iv:=by
  refine keep _ _ _ _ _ t2 ?_
  by_cases hl:inits=[]
  ·exact .inl (t3 hl)
  ·obtain⟨n,hn⟩:=i2c_int hl
   exact .inr ⟨_,hn,notin n⟩
 have xp:∀o,Ext1 (h.next+2) h' (h'.put (h.next+2) o):=fun o=>(Ext1.refl h').put
 refine hK v' h' (g' _ (by omega)) (by omega) ?_ s'.is_slice
 refine⟨by simp;omega,fun y hy=>by simp[show y≠h.next+2 by omega,g' y (by omega),M.old y hy],by simp[g' h.next (by omega),M.l],by simp[g' (h.next+1) (by omega),M.out],by simp[g' (h.next+3) (by omega),M.at'],
  iv,v',tvs++[s],by simp,kini.ext1 (xp _) (by omega),t3,?_,?_,fun e=>by simp at e⟩
 ·rw[List.length_append]
  exact s'.ext1 (xp _) (by omega)
 ·exact(t5.imp fun l u _ _ hp=>(⟨(kins l u hp).1.ext1 (xp _) (by omega),hp.2⟩:InsG _ _ l u)).snoc ⟨(kins li s hs).1.ext1 (xp _) (by omega),hs.2⟩
end Go.Jq
namespace Go.Jq
variable {G:Nat→SFunc} {h:AH} {R:Value→AH→Prop}
structure Atm where
 t:Int
 reg:Int
 loc:Int
 v:Int
def Atm.c(a:Atm):List Value:=[.int .i64 a.t,.int .i64 a.reg,.int .i64 a.loc,.int .i64 a.v]
theorem Atm.c_length(a:Atm):a.c.length=4:=rfl
structure Tst where
 inits:List (Int×Int)
 ths:List (List Ins)
 rows:List (List Atm)
structure TstV(h:AH)(t:Tst)(iv tv av:Value):Prop where
 init:SlV 2 h t.inits.length (t.inits.flatMap i2c) iv
 ths:∃tvs,SlV 1 h t.ths.length tvs tv∧All2 (fun(l:List Ins) u=>SlV 9 h l.length (l.flatMap Ins.c) u) t.ths tvs
 rows:∃rvs,SlV 1 h t.rows.length rvs av∧All2 (fun(l:List Atm) u=>SlV 4 h l.length (l.flatMap Atm.c) u) t.rows rvs
structure TstOk(most:Nat)(t:Tst):Prop where
 ths:t.ths.length=2∨t.ths.length=3
 ok:∀l∈t.ths,TOk lP l∧l.length≤6
 mem:(t.ths.map memN).sum≤most
 inits:t.inits.length≤1
 init:∀x∈t.inits,x.1=120
 ini:∀x∈t.inits,0≤x.2∧x.2≤65535
 rows:t.rows.length≤2
 row:∀l∈t.rows,l.length≤2∧∀x∈l,x.loc=0∨x.loc=120
theorem SmM.num(g:SmallG G){hh:AH}{lv:Value}{a:Nat}{inits:List (Int×Int)}{ths:List (List Ins)}{l:List Int}(M:SmM h hh lv a inits ths)(s:SlV 1 h l.length (l.flatMap intC) lv)(hlen:l.length≤9223372036854775807)(ha:a≤1000000)
  (k:∀(x:Int) (h1:AH),0≤x→x≤65535→SmM h h1 lv (a+1) inits ths→(∀y,y≠h.next+3→h1.get y=hh.get y)→R (.int .i64 x) h1):WC G 282 [.pointer (some ⟨h.next+3,0,none⟩),.pointer (some ⟨h.next,0,none⟩)] hh R:=by
 have n:=M.next
 refine num_spec g (by omega) M.at' M.l (fun o=>?_) hlen ha fun x h0 h1=>k x _ h0 h1 (M.ext1 ((Ext1.refl hh).put) (by simp)) (fun y hy=>by simp[hy])
 exact s.ext ⟨by simp;omega,fun y hy=>by simp[show y≠h.next+3 by omega,M.old y hy]⟩
def fr275o(most:Nat)(h:AH)(n lcs mem i:Int):Fr:=
 [(1,.int .i64 most),(4,.pointer (some ⟨h.next+1,0,none⟩)),(5,.pointer (some ⟨h.next+2,0,none⟩)),(7,.func (.func 282) #[] #[.pointer (some ⟨h.next+3,0,none⟩),.pointer (some ⟨h.next,0,none⟩)]),(8,.int .i64 n),(9,.int .i64 lcs),(10,.int .i64 mem),(11,.int .i64 i)]
def inv275o(h:AH)(most:Nat)(n lcs:Int)(lv:Value)(inits:List (Int×Int))(mm:Nat)(F:Fr)(hh:AH):Prop:=
 ∃(i a1 mem:Nat) (ths:List (List Ins)),mm=(n-i).toNat∧(i:Int)≤n∧ths.length=i∧a1≤10+4*i∧SmM h hh lv a1 inits ths∧(∀l∈ths,TOk lP l∧l.length≤6)∧(ths.map memN).sum=mem∧mem≤most∧F=fr275o most h n lcs mem i
theorem loop275o(g:SmallG G){hh:AH}{most a:Nat}{n lcs:Int}{lv:Value}{inits:List (Int×Int)}{l:List Int}{R:SExit→Fr→AH→Prop}(hl1:lcs=2∨lcs=3)(hn:n=2∨n=3)(hmost:most≤1000000)
  (s:SlV 1 h l.length (l.flatMap intC) lv)(hlen:l.length≤9223372036854775807)(ha:a≤10)(M:SmM h hh lv a inits [])
  (hR:∀(h1:AH) (a':Nat) (ths:List (List Ins)) (mem i:Int),SmM h h1 lv a' inits ths→a'≤100→(ths.length:Int)=n→(∀l∈ths,TOk lP l∧l.length≤6)→(ths.map memN).sum≤most→
   R (.exit 0) [(1,.int .i64 most),(4,.pointer (some ⟨h.next+1,0,none⟩)),(5,.pointer (some ⟨h.next+2,0,none⟩)),(7,.func (.func 282) #[] #[.pointer (some ⟨h.next+3,0,none⟩),.pointer (some ⟨h.next,0,none⟩)]),(8,.int .i64 n),(9,.int .i64 lcs),(10,.int .i64 mem),(11,.int .i64 i),(44,.bool false)] h1):
  W G (.loop [1,4,5,7,8,9,10,11] c275_46) (fr275o most h n lcs 0 0) hh R:=by
 refine W_loop (inv275o h most n lcs lv inits) (n-0).toNat
  ⟨0,a,0,[],rfl,by omega,rfl,by omega,M,by simp,by simp,by omega,rfl⟩ ?_
 rintro mm F hh ⟨i,a1,mem,ths,rfl,hi,hti,ha1,M,hok,hsum,hmm,rfl⟩
 unfold c275_46 c275_10 fr275o
 by_cases h1:(i:Int)<n
 ·simp -implicitDefEqProofs[h1,c275_11,c275_12]
  refine M.num g s hlen (by omega) fun x h2 hx0 hx1 M2 _=>?_
  obtain⟨kk,ekk,hk0,hk1⟩:∃kk:Int,IntKind.i64.wrap (x.tmod 3+1)=kk∧1≤kk∧kk≤3:=by
   rw[Int.tmod_eq_emod_of_nonneg hx0,wrap64 (by omega)]
   exact⟨_,rfl,by omega,by omega⟩
  have n2:=M2.next
  simp -implicitDefEqProofs[ekk]
  have sl:∀(h1:AH),Ext1 (h.next+3) h2 h1→SlV 1 h1 l.length (l.flatMap intC) lv:=fun h1 x1=>s.ext ⟨by have:=x1.next;omega,fun y hy=>by rw[x1.get y (by omega) (by omega)];exact M2.old y hy⟩
  refine loop275i g (h:=h) (h0:=h2) (a:=a1+1) (mem:=mem) (li:=[]) (s:=.slice none 0 0) (lv:=lv) (l:=l) hl1 n2 hlen (by omega) (by omega) hmm hmost M2.at' M2.l sl (Ext1.refl h2) SlG.nil (by simp;omega) TOk.nil (fun _=>rfl) ?_
  intro h3 s' li' mem' a' kk' t x3 g3 ha' s3 hl3 hok3 hne3 hmem3 hmost3
  have M3:=M2.ext1 x3 g3
  simp -implicitDefEqProofs
  have hw:IntKind.i64.wrap ((i:Int)+1)=((i+1:Nat):Int):=by rw[wrap64 (by omega)];rfl
  obtain⟨iv,tv,tvs,t1,_⟩:=M3.t
  obtain⟨sa,sc,rfl⟩:=s3.len
  have sI:InsG h3 (h.next+4) li' (.slice sa li'.length sc):=⟨s3.low n2,hne3⟩
  simp -implicitDefEqProofs[c275_44,t1]
  refine M3.thread sI (by omega) t1 fun v' h4 e4 n4 M4 ⟨va,vn,vc,ev⟩=>?_
  subst ev
  rw[t1]at e4
  simp -implicitDefEqProofs[e4,c275_45,hw]
  refine⟨(n-((i+1:Nat):Int)).toNat,by omega,i+1,a',mem',ths++[li'],rfl,by omega,by simp[hti],by omega,M4,?_,?_,hmost3,rfl⟩
  ·intro l' hl'
   rcases List.mem_append.1 hl' with hl'|hl'
   ·exact hok l' hl'
   ·simp at hl';subst hl';exact⟨hok3,hl3⟩
  ·have:memN []=0:=rfl
   rw[List.map_append,List.sum_append,hsum];simp;omega
 ·simp -implicitDefEqProofs[h1]
  refine hR hh a1 ths mem i M (by omega) (by omega) hok (by omega)
theorem SlV.of{k n b:Nat}{h:AH}{cs:List Value}{g ro:Bool}(hb:b<h.next)(hg:h.get b=.cells cs g ro)(hl:cs.length=n*k):SlV k h n cs (.slice (some ⟨b,0,none⟩) n n):=
 ⟨hl,.inr ⟨b,0,none,n,cs,g,ro,rfl,hb,hg,by omega,by rw[List.drop_zero,List.take_of_length_le (by omega)]⟩⟩
theorem Small_spec(g:SmallG G){most:Nat}{lv:Value}{l:List Int}(hmost:most≤1000000)(s:SlV 1 h l.length (l.flatMap intC) lv)(hlen:l.length≤9223372036854775807)
  (k:∀h1 t iv tv ck av name,Ext h h1→TstV h1 t iv tv av→TstOk most t→R (.agg #[name,iv,tv,.int .i64 ck,av]) h1):WC G 275 [lv,.int .i64 most] h R:=by
 refine WC_enter g.g275 rfl ?_
 show W G c275_body _ _ (retK [.cellN 4 5] R)
 unfold c275_body c275_0 c275_1 c275_2 c275_3 c275_4
 obtain⟨la,lc,elv⟩:=s.len
 have e12:h.next+1+2=h.next+3:=by omega
 have M0:SmM h ((((((h.alloc (.cells [lv] false false)).alloc (.cells zt false false)).alloc (.cells zt false false)).put (h.next+2) (.cells [.string ⟨#[116]⟩,.slice none 0 0,.slice none 0 0,.int .i64 0,.slice none 0 0] false false)).alloc (.cells [.int .i64 0] false false)).put (h.next+3) (.cells [.int .i64 0] false false)) lv 0 [] []:=by
  refine⟨by simp[e12],fun y hy=>?_,by simp;intro e;omega,by simp,by simp,.slice none 0 0,.slice none 0 0,[],by simp,SlG.nil,fun _=>rfl,SlG.nil,.nil,fun _=>rfl⟩
  simp[show y≠h.next+3 by omega,show y≠h.next+2 by omega,show y≠h.next+1 by omega,show y≠h.next by omega,show y≠h.next+1+2 by omega]
 revert M0
 rw[elv]
 simp -implicitDefEqProofs[e12,zt]
 generalize (((((h.alloc (.cells [.slice la l.length lc] false false)).alloc (.cells [.string ⟨#[]⟩,.slice none 0 0,.slice none 0 0,.int .i64 0,.slice none 0 0] false false)).alloc (.cells [.string ⟨#[]⟩,.slice none 0 0,.slice none 0 0,.int .i64 0,.slice none 0 0] false false)).put (h.next+2) (.cells [.string ⟨#[116]⟩,.slice none 0 0,.slice none 0 0,.int .i64 0,.slice none 0 0] false false)).alloc (.cells [.int .i64 0] false false)).put (h.next+3) (.cells [.int .i64 0] false false)=hh
 rw[←elv]
 intro M0
 refine M0.num g s hlen (by omega) fun x1 h1 a1 b1 M1 _=>?_
 obtain⟨n,en,hn⟩:∃n:Int,IntKind.i64.wrap (x1.tmod 2+2)=n∧(n=2∨n=3):=by
  rw[Int.tmod_eq_emod_of_nonneg a1,wrap64 (by omega)]
  exact⟨_,rfl,by omega⟩
 simp -implicitDefEqProofs[en,c275_5]
 refine M1.num g s hlen (by omega) fun x2 h2 a2 b2 M2 _=>?_
 obtain⟨lcs,elc,hlc⟩:∃n:Int,IntKind.i64.wrap (x2.tmod 2+2)=n∧(n=2∨n=3):=by
  rw[Int.tmod_eq_emod_of_nonneg a2,wrap64 (by omega)]
  exact⟨_,rfl,by omega⟩
 simp -implicitDefEqProofs[elc,c275_6]
 refine M2.num g s hlen (by omega) fun x3 h3 a3 b3 M3 _=>?_
 have rest:∀(h4:AH) (a:Nat) (inits:List (Int×Int)),a≤10→SmM h h4 lv a inits []→inits.length≤1→(∀x∈inits,x.1=120)→(∀x∈inits,0≤x.2∧x.2≤65535)→
   W G (.seq (.reg [1,4,5,7,8,9,10] c275_8) (.seq (.seq (.reg [1,4,5,7,8,9,10,11] c275_9) (.block 0 (.loop [1,4,5,7,8,9,10,11] c275_46))) (.seq (.seq (.reg [4,5,18] c275_47) (.seq (.reg [4,5,18,158] c275_48) (.cond (t_ 158) (.reg [4,5] c275_49) .skip))) (.seq (.reg [4] c275_50) .ret))))
    [(1,.int .i64 most),(4,.pointer (some ⟨h.next+1,0,none⟩)),(5,.pointer (some ⟨h.next+2,0,none⟩)),(7,.func (.func 282) #[] #[.pointer (some ⟨h.next+3,0,none⟩),.pointer (some ⟨h.next,0,none⟩)]),(8,.int .i64 n),(9,.int .i64 lcs)] h4 (retK [.cellN 4 5] R):=by
  intro h4 a inits ha M4 hi1 hi2 hi3
  simp -implicitDefEqProofs[c275_8,c275_9]
  refine loop275o g hlc hn hmost s hlen ha M4 fun h5 a5 ths mem i M5 ha5 hlen5 hok5 hsum5=>?_
  simp -implicitDefEqProofs[c275_47]
  refine M5.num g s hlen (by omega) fun x6 h6 a6 b6 M6 _=>?_
  have n6:=M6.next
  obtain⟨iv,tv,tvs,t1,t2,t3,t4,t5,_⟩:=M6.t
  have fin:∀(ck:Int) (av:Value) (rows:List (List Atm)) (h7:AH),(∀y,y<h6.next→y≠h.next+2→y≠h.next+1→h7.get y=h6.get y)→h6.next≤h7.next→(∃rvs,SlV 1 h7 rows.length rvs av∧All2 (fun(l:List Atm) u=>SlV 4 h7 l.length (l.flatMap Atm.c) u) rows rvs)→rows.length≤2→(∀l∈rows,l.length≤2∧∀x∈l,x.loc=0∨x.loc=120)→
    R (.agg #[.string ⟨#[116]⟩,iv,tv,.int .i64 ck,av]) h7:=by
   intro ck av rows h7 hg hn7 hrv hr1 hr2
   have keep:∀{k n cs v},SlG k h6 (h.next+4) n cs v→SlV k h7 n cs v:=fun{k n cs v} sg=>by
    refine SlG.view (lo:=h.next+4) ?_
    obtain⟨q1,q2⟩:=sg
    refine⟨q1,?_⟩
    rcases q2 with q2|⟨b,f1,f2,f3,f4⟩
    ·exact .inl q2
    ·exact .inr ⟨b,f1,by omega,by rw[hg b f2 (by omega) (by omega)];exact f3,f4⟩
   refine k h7 ⟨inits,ths,rows⟩ iv tv ck av _ ⟨by omega,fun y hy=>by rw[hg y (by omega) (by omega) (by omega)];exact M6.old y hy⟩ ⟨keep t2,⟨tvs,keep t4,t5.imp fun l u _ _ hp=>keep hp.1⟩,hrv⟩ ⟨by show ths.length=2∨ths.length=3;omega,hok5,hsum5,hi1,hi2,hi3,hr1,hr2⟩
  have b1:h.next+1<h6.next:=by omega
  have b2:h.next+2<h6.next:=by omega
  have hzt:=M6.out
  unfold zt at hzt
  simp -implicitDefEqProofs[c275_48]
  by_cases h8:x6.tmod 3=0
  ·have q0:¬h.next=h6.next:=by omega
   have q1:¬h.next+1=h6.next:=by omega
   have q2:¬h.next+2=h6.next:=by omega
   have q3:¬h.next=h6.next+1:=by omega
   generalize e1:iand .i64 (x6.fdiv (2^min 3 IntKind.i64.bits)) 1=y1
   generalize e2:iand .i64 (x6.fdiv (2^min 4 IntKind.i64.bits)) 1=y2
   generalize e3:(x6.fdiv (2^min 5 IntKind.i64.bits)).tmod 3=y3
   generalize e4:iand .i64 (x6.fdiv (2^min 7 IntKind.i64.bits)) 1=y4
   generalize e5:IntKind.i64.wrap ((IntKind.i64.wrap (x6.tdiv 3)).tmod 2+1)=y5
   simp -implicitDefEqProofs[h8,c275_49,c275_50,t1,hzt,q0,q1,q2,q3,e1,e2,e3,e4,e5,splice,show zi 4=[.int .i64 0,.int .i64 0,.int .i64 0,.int .i64 0] from rfl,show zi 8=[.int .i64 0,.int .i64 0,.int .i64 0,.int .i64 0,.int .i64 0,.int .i64 0,.int .i64 0,.int .i64 0] from rfl]
   refine fin y5 (.slice (some ⟨h6.next+2,0,none⟩) 2 2) [[⟨0,y1,0,y2⟩],[⟨-1,0,120,y3⟩,⟨1,0,0,y4⟩]] _ (fun y hy p1 p2=>?_) ?_ ⟨[.slice (some ⟨h6.next,0,none⟩) 1 1,.slice (some ⟨h6.next+1,0,none⟩) 2 2],?_,.cons ?_ (.cons ?_ .nil)⟩ (by simp) ?_
   ·simp[p1,p2,show y≠h6.next by omega,show y≠h6.next+1 by omega,show y≠h6.next+2 by omega,show y≠h6.next+1+1 by omega]
   ·simp;omega
   ·exact SlV.of (g:=false) (ro:=false) (by simp) (by simp[show ¬h6.next=h.next by omega,show h6.next+2≠h.next+1 by omega,show h6.next+2≠h.next+2 by omega]) rfl
   ·exact SlV.of (n:=1) (g:=false) (ro:=false) (by simp;omega) (by simp[Atm.c,show ¬h6.next=h.next by omega,show ¬h6.next=h.next+1 by omega,show ¬h6.next=h.next+2 by omega]) rfl
   ·exact SlV.of (n:=2) (g:=false) (ro:=false) (by simp) (by simp[Atm.c,show ¬h6.next=h.next by omega,show h6.next≠h.next+1 by omega,show h6.next+1≠h.next+2 by omega]) rfl
   ·intro l' hl'
    simp at hl'
    rcases hl' with rfl|rfl
    ·exact⟨by simp,fun x hx=>by simp at hx;subst hx;exact .inl rfl⟩
    ·exact⟨by simp,fun x hx=>by simp at hx;rcases hx with rfl|rfl<;>simp⟩
  ·simp -implicitDefEqProofs[h8,c275_50,t1,hzt]
   refine fin 0 (.slice none 0 0) [] _ (fun y hy q1 q2=>by simp[q2]) (by simp) ⟨[],⟨rfl,.inl ⟨rfl,none,0,rfl⟩⟩,.nil⟩ (by decide) (fun l hl=>by cases hl)
 simp -implicitDefEqProofs only[W_seq,W_reg,W_block]at rest
 by_cases h8:x3.tmod 4=0
 ·obtain⟨iv,tv,tvs,t1,t2,t3,t4,t5,t6⟩:=M3.t
  simp -implicitDefEqProofs[h8,c275_7,c275_7b,t1]
  refine M3.num g s hlen (by omega) fun x4 h4 a4 b4 M4 g4=>?_
  have t1':=(g4 (h.next+2) (by omega)).trans t1
  have n4:=M4.next
  have q2:¬h.next+2=h4.next:=by omega
  obtain rfl:=t3 rfl
  obtain rfl:=t6 rfl
  simp -implicitDefEqProofs[t1',q2]
  refine(SlG.nil:SlG 2 h4 (h.next+4) 0 [] (.slice none 0 0)).app3 (j:=1) (ec:=[.int .i64 120,.int .i64 (x4.tmod 3)]) rfl (by omega) (by omega) n4 fun v' h5 s5 n5 g5 _ keep=>?_
  obtain⟨va,vn,vc,rfl⟩:=s5.is_slice
  have t5':=(g5 (h.next+2) (by omega)).trans t1'
  simp -implicitDefEqProofs[t5',q2]
  refine rest _ 4 [(120,x4.tmod 3)] (by omega) ⟨by simp;omega,fun y hy=>?_,?_,?_,?_,.slice va vn vc,.slice none 0 0,[],by simp,?_,(fun e=>by cases e),SlG.nil,.nil,fun _=>rfl⟩ (by simp) (fun x hx=>by simp at hx;subst hx;rfl) (fun x hx=>by simp at hx;subst hx;simp only[Int.tmod_eq_emod_of_nonneg a4];omega)
  ·simp[show y≠h.next+2 by omega,g5 y (by omega),M4.old y hy]
  ·simp[g5 h.next (by omega),M4.l]
  ·simp[g5 (h.next+1) (by omega),M4.out]
  ·simp[g5 (h.next+3) (by omega),M4.at']
  ·exact SlG.ext1 (x:=h5) (b:=h.next+2) (by simpa[i2c]using s5) ((Ext1.refl h5).put) (by omega)
 ·simp -implicitDefEqProofs[h8]
  exact rest h3 _ [] (by omega) M3 (by simp) (fun x hx=>by cases hx) (fun x hx=>by cases hx)
end Go.Jq
namespace Go.Jq
variable {G:Nat→SFunc} {h:AH} {R:Value→AH→Prop}
def Nest{α:Type}(f:α→List Value)(k:Nat)(h:AH)(ths:List (List α))(v:Value):Prop:=∃tvs,SlV 1 h ths.length tvs v∧All2 (fun(l:List α) u=>SlV k h l.length (l.flatMap f) u) ths tvs
theorem Nest.ext{α:Type}{f:α→List Value}{k:Nat}{h h1:AH}{ths:List (List α)}{v:Value}(n:Nest f k h ths v)(x:Ext h h1):Nest f k h1 ths v:=by
 obtain⟨tvs,h1,h2⟩:=n
 exact⟨tvs,h1.ext x,h2.imp fun _ _ _ _ s=>s.ext x⟩
theorem Nest.len{α:Type}{f:α→List Value}{k:Nat}{h:AH}{ths:List (List α)}{v:Value}(n:Nest f k h ths v):∃a c,v=.slice a ths.length c:=by
 obtain⟨tvs,h1,h2⟩:=n;exact h1.len
theorem Nest.at{α:Type}{f:α→List Value}{k:Nat}{h:AH}{ths:List (List α)}{v:Value}(n:Nest f k h ths v){i:Nat}(hi:i<ths.length):
  ∃b o sp c c0 g ro u,v=.slice (some ⟨b,o,sp⟩) ths.length c∧b<h.next∧h.get b=.cells c0 g ro∧c0[o+i]?=some u∧SlV k h ths[i].length (ths[i].flatMap f) u:=by
 obtain⟨tvs,h1,h2⟩:=n
 obtain⟨hm,hs⟩:=h2.at hi
 have h1':SlV 1 h tvs.length (tvs.flatMap oneC) v:=by rw[oneC_fm,←h2.len];exact h1
 obtain⟨b,o,sp,c,c0,g,ro,e1,e2,e3,e4,e5,e6⟩:=h1'.row oneC_length hm
 refine⟨b,o,sp,c,c0,g,ro,tvs[i],by rw[h2.len];exact e1,e2,e3,?_,hs⟩
 have:=e6 0 (by omega)
 simpa[oneC]using this
def bolC(f:Nat→Bool):List Value:=(List.range 256).map fun i=>.bool (f i)
@[simp] theorem bolC_length {f:Nat→Bool}:(bolC f).length=256:=by simp[bolC]
theorem bolC_get{f:Nat→Bool}{i:Nat}(h:i<256):(bolC f)[i]?=some (.bool (f i)):=by simp[bolC,h]
def updB(f:Nat→Bool)(i:Nat):Nat→Bool:=fun j=>if j=i then true else f j
theorem bolC_set{f:Nat→Bool}{i:Nat}:(bolC f).set i (.bool true)=bolC (updB f i):=by
 apply List.ext_getElem?
 intro j
 rw[List.getElem?_set,bolC_length]
 by_cases hj:j<256
 ·rw[bolC_get hj,bolC_get hj]
  by_cases h:i=j
  ·subst h;simp[updB,hj]
  ·have:¬j=i:=fun e=>h e.symm
   simp[h,updB,this]
 ·by_cases h:i=j
  ·subst h
   rw[if_pos rfl,if_neg hj,List.getElem?_eq_none (by rw[bolC_length];omega)]
  ·rw[if_neg h,List.getElem?_eq_none (by rw[bolC_length];omega),List.getElem?_eq_none (by rw[bolC_length];omega)]
theorem bolC_zero:(List.replicate 256 [Value.bool false]).flatten=bolC fun _=>false:=by
 rw[List.flatten_replicate_singleton,bolC,List.map_const',List.length_range]
def l0P(x:Int):Prop:=x=0∨lP x
theorem l0P.and{x:Int}(h:l0P x):iand .i64 x 255=x∧0≤x∧x<256:=by
 rcases h with rfl|rfl|rfl|rfl<;>exact⟨by decide,by decide,by decide⟩
structure SeenOk(f:Nat→Bool):Prop where
 only:∀i,f i=true→l0P (i:Int)
theorem SeenOk.upd{f:Nat→Bool}(s:SeenOk f){x:Int}(h:l0P x):SeenOk (updB f x.toNat):=by
 refine⟨fun i hi=>?_⟩
 unfold updB at hi
 split at hi
 ·rename_i e
  have:=h.and
  rw[e,show((x.toNat:Nat):Int)=x by omega];exact h
 ·exact s.only i hi
structure LocM(h hh:AH)(c5:List Value)(f:Nat→Bool):Prop where
 ext:Ext h hh
 next:hh.next=h.next+2
 t:hh.get h.next=.cells c5 false false
 seen:hh.get (h.next+1)=.cells (bolC f) false false
theorem LocM.put{h hh:AH}{c5:List Value}{f:Nat→Bool}{i:Nat}(M:LocM h hh c5 f):LocM h (hh.put (h.next+1) (.cells (bolC (updB f i)) false false)) c5 (updB f i):=
 ⟨M.ext.put (by omega) _,M.next,by simp[M.t],by simp⟩
structure LocsG(G:Nat→SFunc):Prop where
 g280:G 280=c280
def inv280a(h:AH)(n:Nat)(f:Nat→Bool)(c5:List Value)(mm:Nat)(F:Fr)(hh:AH):Prop:=
 ∃(i:Nat) (f1:Nat→Bool),mm=n-i∧i≤n∧SeenOk f1∧(∀i,f i=true→f1 i=true)∧LocM h hh c5 f1∧F=[(1,.pointer (some ⟨h.next,0,none⟩)),(3,.pointer (some ⟨h.next+1,0,none⟩)),(4,.int .i64 i)]
section
variable {iv tv av name:Value} {ck:Int} {t:Tst} {R:SExit→Fr→AH→Prop}
theorem loop280a(V:TstV h t iv tv av)(hi:∀x∈t.inits,l0P x.1){hh:AH}{f:Nat→Bool}(hf:SeenOk f)(hl:t.inits.length≤1000)(M:LocM h hh [name,iv,tv,.int .i64 ck,av] f)
  (hR:∀h1 f1 (n:Int),SeenOk f1→(∀i,f i=true→f1 i=true)→LocM h h1 [name,iv,tv,.int .i64 ck,av] f1→R (.exit 0) [(1,.pointer (some ⟨h.next,0,none⟩)),(3,.pointer (some ⟨h.next+1,0,none⟩)),(4,.int .i64 n),(15,.bool false)] h1):
  W G (.loop [1,3,4] c280_6) [(1,.pointer (some ⟨h.next,0,none⟩)),(3,.pointer (some ⟨h.next+1,0,none⟩)),(4,.int .i64 0)] hh R:=by
 refine W_loop (inv280a h t.inits.length f [name,iv,tv,.int .i64 ck,av]) t.inits.length
  ⟨0,f,rfl,Nat.zero_le _,hf,fun _ h=>h,M,rfl⟩ ?_
 rintro mm F hh ⟨i,f1,rfl,hi1,hf1,hle,M,rfl⟩
 unfold c280_6 c280_3 c280_4 c280_5
 obtain⟨ia,ic,eiv⟩:=V.init.len
 have hb:∀b,b<h.next→¬b=h.next+1:=fun b hb=>by omega
 by_cases h1:i<t.inits.length
 ·have hw:IntKind.i64.wrap ((i:Int)+1)=((i+1:Nat):Int):=by rw[wrap64 (by omega)];rfl
  obtain⟨b,o,sp,c,c0,g',ro',hv,e2,e3,e4,e5,e6⟩:=V.init.row i2c_length h1
  have e3':hh.get b=.cells c0 g' ro':=by rw[M.ext.get b e2];exact e3
  have e60:=e6 0 (by omega)
  simp[i2c]at e60
  have hx:=(hi t.inits[i] (List.getElem_mem h1)).and
  have hx0:=hi t.inits[i] (List.getElem_mem h1)
  have hlt:t.inits[i].1.toNat<256:=by omega
  have gt:=M.t
  have gs:=M.seen
  rw[hv]at gt
  simp -implicitDefEqProofs[h1,gt,gs,e3',e60,hx.1,hx.2.1,hx.2.2,hw,hlt,bolC_set]
  exact⟨t.inits.length-(i+1),by omega,i+1,_,rfl,h1,hf1.upd hx0,fun j hj=>by unfold updB;split<;>simp[hle j hj],M.put,rfl⟩
 ·have gt:=M.t
  rw[eiv]at gt
  simp -implicitDefEqProofs[h1,gt]
  exact hR _ _ _ hf1 hle M
end
def inv280bi(h:AH)(l:List Ins)(i:Nat)(f:Nat→Bool)(c5:List Value)(mm:Nat)(F:Fr)(hh:AH):Prop:=
 ∃(j:Nat) (f1:Nat→Bool),mm=l.length-j∧j≤l.length∧SeenOk f1∧(∀i,f i=true→f1 i=true)∧(∀y (hy:y<l.length),y<j→f1 l[y].loc.toNat=true)∧LocM h hh c5 f1∧F=[(1,.pointer (some ⟨h.next,0,none⟩)),(3,.pointer (some ⟨h.next+1,0,none⟩)),(5,.int .i64 i),(6,.int .i64 j)]
def inv280b(h:AH)(ths:List (List Ins))(f:Nat→Bool)(c5:List Value)(mm:Nat)(F:Fr)(hh:AH):Prop:=
 ∃(i:Nat) (f1:Nat→Bool),mm=ths.length-i∧i≤ths.length∧SeenOk f1∧(∀i,f i=true→f1 i=true)∧(∀y (hy:y<ths.length),y<i→∀x∈ths[y],f1 x.loc.toNat=true)∧LocM h hh c5 f1∧F=[(1,.pointer (some ⟨h.next,0,none⟩)),(3,.pointer (some ⟨h.next+1,0,none⟩)),(5,.int .i64 i)]
theorem loop280b{iv tv av name:Value}{ck:Int}{ths:List (List Ins)}{R:SExit→Fr→AH→Prop}(V:Nest Ins.c 9 h ths tv)(hi:∀l∈ths,l.length≤1000∧∀x∈l,l0P x.loc){hh:AH}{f:Nat→Bool}(hf:SeenOk f)(hl:ths.length≤1000)(M:LocM h hh [name,iv,tv,.int .i64 ck,av] f)
  (hR:∀h1 f1 (n:Int),SeenOk f1→(∀i,f i=true→f1 i=true)→(∀l∈ths,∀x∈l,f1 x.loc.toNat=true)→LocM h h1 [name,iv,tv,.int .i64 ck,av] f1→R (.exit 2) [(1,.pointer (some ⟨h.next,0,none⟩)),(3,.pointer (some ⟨h.next+1,0,none⟩)),(5,.int .i64 n),(30,.bool false)] h1):
  W G (.loop [1,3,5] c280_15) [(1,.pointer (some ⟨h.next,0,none⟩)),(3,.pointer (some ⟨h.next+1,0,none⟩)),(5,.int .i64 0)] hh R:=by
 refine W_loop (inv280b h ths f [name,iv,tv,.int .i64 ck,av]) ths.length ⟨0,f,rfl,Nat.zero_le _,hf,fun _ h=>h,by omega,M,rfl⟩ ?_
 rintro mm F hh ⟨i,f1,rfl,hi1,hf1,hle,hall,M,rfl⟩
 unfold c280_15 c280_8 c280_9 c280_14
 obtain⟨ta,tc,etv⟩:=V.len
 by_cases h1:i<ths.length
 ·have hw:IntKind.i64.wrap ((i:Int)+1)=((i+1:Nat):Int):=by rw[wrap64 (by omega)];rfl
  have gt:=M.t
  rw[etv]at gt
  simp -implicitDefEqProofs[h1,gt]
  have hil:=(hi ths[i] (List.getElem_mem h1)).1
  have hix:=(hi ths[i] (List.getElem_mem h1)).2
  obtain⟨b,o,sp,c,c0,g',ro',u,hv,e2,e3,e4,su⟩:=V.at h1
  rw[etv]at hv
  simp only[Value.slice.injEq,true_and]at hv
  obtain⟨rfl,rfl⟩:=hv
  refine W_loop (inv280bi h ths[i] i f1 [name,iv,tv,.int .i64 ck,av]) ths[i].length ⟨0,f1,rfl,Nat.zero_le _,hf1,fun _ h=>h,by omega,M,rfl⟩ ?_
  rintro mm F hh ⟨j,f2,rfl,hj1,hf2,hle2,hall2,M2,rfl⟩
  unfold c280_13 c280_10 c280_11 c280_12
  have e3':hh.get b=.cells c0 g' ro':=by rw[M2.ext.get b e2];exact e3
  have gt2:=M2.t
  rw[etv]at gt2
  have gs2:=M2.seen
  obtain⟨ua,uc,eu⟩:=su.len
  by_cases h2:j<ths[i].length
  ·have hw2:IntKind.i64.wrap ((j:Int)+1)=((j+1:Nat):Int):=by rw[wrap64 (by omega)];rfl
   obtain⟨b2,o2,sp2,c2,c20,g2',ro2',hv2,d2,d3,d4,d5,d6⟩:=su.row Ins.c_length h2
   have d3':hh.get b2=.cells c20 g2' ro2':=by rw[M2.ext.get b2 d2];exact d3
   have d62:=d6 2 (by omega)
   have d62':((Ins.c ths[i][j]))[2]?=some (.int .i64 ths[i][j].loc):=rfl
   rw[d62']at d62
   have hx0:=hix ths[i][j] (List.getElem_mem h2)
   have hx:=hx0.and
   have hlt:ths[i][j].loc.toNat<256:=by omega
   rw[hv2]at e4
   simp -implicitDefEqProofs[h1,h2,gt2,gs2,e3',e4,d3',d62,hx.1,hx.2.1,hx.2.2,hw2,hlt,bolC_set]
   refine⟨ths[i].length-(j+1),by omega,j+1,_,rfl,h2,hf2.upd hx0,fun y hy=>by unfold updB;split<;>simp[hle2 y hy],fun y hy hyj=>?_,M2.put,rfl⟩
   unfold updB
   by_cases e:y=j
   ·subst e;simp
   ·split<;>simp[hall2 y hy (by omega)]
  ·rw[eu]at e4
   simp -implicitDefEqProofs[h1,h2,gt2,e3',e4,hw]
   refine⟨ths.length-(i+1),by omega,i+1,f2,rfl,h1,hf2,fun y hy=>hle2 y (hle y hy),fun y hy hyi x hx=>?_,M2,rfl⟩
   by_cases e:y=i
   ·subst e
    obtain⟨z,hz,rfl⟩:=List.getElem_of_mem hx
    exact hall2 z hz (by omega)
   ·exact hle2 _ (hall y hy (by omega) x hx)
 ·have gt:=M.t
  rw[etv]at gt
  simp -implicitDefEqProofs[h1,gt]
  refine hR _ _ _ hf1 hle (fun l hl x hx=>?_) M
  obtain⟨z,hz,rfl⟩:=List.getElem_of_mem hl
  exact hall z hz (by omega) x hx
def inv280ci(h:AH)(l:List Atm)(i:Nat)(f:Nat→Bool)(c5:List Value)(mm:Nat)(F:Fr)(hh:AH):Prop:=
 ∃(j:Nat) (f1:Nat→Bool),mm=l.length-j∧j≤l.length∧SeenOk f1∧(∀i,f i=true→f1 i=true)∧(∀y (hy:y<l.length),y<j→f1 l[y].loc.toNat=true)∧LocM h hh c5 f1∧F=[(1,.pointer (some ⟨h.next,0,none⟩)),(3,.pointer (some ⟨h.next+1,0,none⟩)),(7,.int .i64 i),(8,.int .i64 j)]
def inv280c(h:AH)(ths:List (List Atm))(f:Nat→Bool)(c5:List Value)(mm:Nat)(F:Fr)(hh:AH):Prop:=
 ∃(i:Nat) (f1:Nat→Bool),mm=ths.length-i∧i≤ths.length∧SeenOk f1∧(∀i,f i=true→f1 i=true)∧(∀y (hy:y<ths.length),y<i→∀x∈ths[y],f1 x.loc.toNat=true)∧LocM h hh c5 f1∧F=[(1,.pointer (some ⟨h.next,0,none⟩)),(3,.pointer (some ⟨h.next+1,0,none⟩)),(7,.int .i64 i)]
theorem loop280c{iv tv av name:Value}{ck:Int}{ths:List (List Atm)}{R:SExit→Fr→AH→Prop}(V:Nest Atm.c 4 h ths av)(hi:∀l∈ths,l.length≤1000∧∀x∈l,l0P x.loc){hh:AH}{f:Nat→Bool}(hf:SeenOk f)(hl:ths.length≤1000)(M:LocM h hh [name,iv,tv,.int .i64 ck,av] f)
  (hR:∀h1 f1 (n:Int),SeenOk f1→(∀i,f i=true→f1 i=true)→(∀l∈ths,∀x∈l,f1 x.loc.toNat=true)→LocM h h1 [name,iv,tv,.int .i64 ck,av] f1→R (.exit 6) [(1,.pointer (some ⟨h.next,0,none⟩)),(3,.pointer (some ⟨h.next+1,0,none⟩)),(7,.int .i64 n),(59,.bool false)] h1):
  W G (.loop [1,3,7] c280_24) [(1,.pointer (some ⟨h.next,0,none⟩)),(3,.pointer (some ⟨h.next+1,0,none⟩)),(7,.int .i64 0)] hh R:=by
 refine W_loop (inv280c h ths f [name,iv,tv,.int .i64 ck,av]) ths.length ⟨0,f,rfl,Nat.zero_le _,hf,fun _ h=>h,by omega,M,rfl⟩ ?_
 rintro mm F hh ⟨i,f1,rfl,hi1,hf1,hle,hall,M,rfl⟩
 unfold c280_24 c280_17 c280_18 c280_23
 obtain⟨ta,tc,etv⟩:=V.len
 by_cases h1:i<ths.length
 ·have hw:IntKind.i64.wrap ((i:Int)+1)=((i+1:Nat):Int):=by rw[wrap64 (by omega)];rfl
  have gt:=M.t
  rw[etv]at gt
  simp -implicitDefEqProofs[h1,gt]
  have hil:=(hi ths[i] (List.getElem_mem h1)).1
  have hix:=(hi ths[i] (List.getElem_mem h1)).2
  obtain⟨b,o,sp,c,c0,g',ro',u,hv,e2,e3,e4,su⟩:=V.at h1
  rw[etv]at hv
  simp only[Value.slice.injEq,true_and]at hv
  obtain⟨rfl,rfl⟩:=hv
  refine W_loop (inv280ci h ths[i] i f1 [name,iv,tv,.int .i64 ck,av]) ths[i].length ⟨0,f1,rfl,Nat.zero_le _,hf1,fun _ h=>h,by omega,M,rfl⟩ ?_
  rintro mm F hh ⟨j,f2,rfl,hj1,hf2,hle2,hall2,M2,rfl⟩
  unfold c280_22 c280_19 c280_20 c280_21
  have e3':hh.get b=.cells c0 g' ro':=by rw[M2.ext.get b e2];exact e3
  have gt2:=M2.t
  rw[etv]at gt2
  have gs2:=M2.seen
  obtain⟨ua,uc,eu⟩:=su.len
  by_cases h2:j<ths[i].length
  ·have hw2:IntKind.i64.wrap ((j:Int)+1)=((j+1:Nat):Int):=by rw[wrap64 (by omega)];rfl
   obtain⟨b2,o2,sp2,c2,c20,g2',ro2',hv2,d2,d3,d4,d5,d6⟩:=su.row Atm.c_length h2
   have d3':hh.get b2=.cells c20 g2' ro2':=by rw[M2.ext.get b2 d2];exact d3
   have d62:=d6 2 (by omega)
   have d62':((Atm.c ths[i][j]))[2]?=some (.int .i64 ths[i][j].loc):=rfl
   rw[d62']at d62
   have hx0:=hix ths[i][j] (List.getElem_mem h2)
   have hx:=hx0.and
   have hlt:ths[i][j].loc.toNat<256:=by omega
   rw[hv2]at e4
   simp -implicitDefEqProofs[h1,h2,gt2,gs2,e3',e4,d3',d62,hx.1,hx.2.1,hx.2.2,hw2,hlt,bolC_set]
   refine⟨ths[i].length-(j+1),by omega,j+1,_,rfl,h2,hf2.upd hx0,fun y hy=>by unfold updB;split<;>simp[hle2 y hy],fun y hy hyj=>?_,M2.put,rfl⟩
   unfold updB
   by_cases e:y=j
   ·subst e;simp
   ·split<;>simp[hall2 y hy (by omega)]
  ·rw[eu]at e4
   simp -implicitDefEqProofs[h1,h2,gt2,e3',e4,hw]
   refine⟨ths.length-(i+1),by omega,i+1,f2,rfl,h1,hf2,fun y hy=>hle2 y (hle y hy),fun y hy hyi x hx=>?_,M2,rfl⟩
   by_cases e:y=i
   ·subst e
    obtain⟨z,hz,rfl⟩:=List.getElem_of_mem hx
    exact hall2 z hz (by omega)
   ·exact hle2 _ (hall y hy (by omega) x hx)
 ·have gt:=M.t
  rw[etv]at gt
  simp -implicitDefEqProofs[h1,gt]
  refine hR _ _ _ hf1 hle (fun l hl x hx=>?_) M
  obtain⟨z,hz,rfl⟩:=List.getElem_of_mem hl
  exact hall z hz (by omega) x hx
def lettersN(f:Nat→Bool):List Nat:=[120,121,122].filter f
def letters(f:Nat→Bool):List Int:=(lettersN f).map fun(i:Nat)=>(i:Int)
theorem letters_eq{f:Nat→Bool}(s:SeenOk f):(List.range' 97 26).filter f=lettersN f:=by
 have e:List.range' 97 26=List.range' 97 23++[120,121,122]:=by decide
 have e2:(List.range' 97 23).filter f=[]:=by
  rw[List.filter_eq_nil_iff]
  intro i hi hf
  rw[List.mem_range'_1]at hi
  have:=s.only i hf
  unfold l0P lP at this;omega
 rw[e,List.filter_append,e2];rfl
theorem wrap_u8{n:Int}(h:0≤n∧n<256):IntKind.u8.wrap n=n:=by
 simp only[IntKind.wrap,IntKind.bits,IntKind.signed]
 simp;omega
theorem wrap_i32{n:Int}(h:0≤n∧n<1000):IntKind.i32.wrap n=n:=by
 simp only[IntKind.wrap,IntKind.bits,IntKind.signed]
 simp;omega
def inv280d(h:AH)(f:Nat→Bool)(c5:List Value)(mm:Nat)(F:Fr)(hh:AH):Prop:=
 ∃(k:Nat) (v:Value),mm=26-k∧k≤26∧(∃h0,LocM h h0 c5 f∧Ext h0 hh)∧SlG 1 hh (h.next+2) ((List.range' 97 k).filter f).length (((List.range' 97 k).filter f).flatMap fun(i:Nat)=>bytC i) v∧
  F=[(3,.pointer (some ⟨h.next+1,0,none⟩)),(9,v),(10,.int .i32 ((97+k:Nat):Int))]
theorem Locs_spec(g:LocsG G){iv tv av name:Value}{ck:Int}{t:Tst}{most:Nat}(V:TstV h t iv tv av)(O:TstOk most t)
  (k:∀h1 f v,Ext h h1→SeenOk f→(∀l∈t.ths,∀x∈l,f x.loc.toNat=true)→SlG 1 h1 h.next (letters f).length ((letters f).flatMap bytC) v→R v h1):
  WC G 280 [.agg #[name,iv,tv,.int .i64 ck,av]] h R:=by
 refine WC_enter g.g280 rfl ?_
 show W G c280_body _ _ (retK [.tmp 2] R)
 have ec:c280_1=[o_ 3 (.alloc (bolC fun _=>false))]:=by unfold c280_1;rw[bolC_zero]
 unfold c280_body
 rw[ec]
 unfold c280_0 c280_2
 have hn:∀l∈t.ths,l.length≤1000∧∀x∈l,l0P x.loc:=fun l hl=>by
  refine⟨by have:=(O.ok l hl).2;omega,fun x hx=>?_⟩
  have:=(O.ok l hl).1.ok x hx
  unfold iOk at this
  unfold l0P
  rcases this with h|h|h|h|h|h
  ·exact .inr h.2.1
  ·exact .inr h.2.1
  ·exact .inl h.2
  ·exact .inr h.2.1
  ·exact .inl h.2.1
  ·exact .inl h.2.1
 have M0:LocM h ((h.alloc (.cells [name,iv,tv,.int .i64 ck,av] false false)).alloc (.cells (bolC fun _=>false) false false)) [name,iv,tv,.int .i64 ck,av] fun _=>false:=
  ⟨((Ext.refl h).alloc _).alloc _,rfl,by simp,by simp⟩
 simp -implicitDefEqProofs
 refine loop280a V (fun x hx=>.inr (.inl (O.init x hx))) ⟨fun i hi=>by cases hi⟩ (by have:=O.inits;omega) M0 fun h1 f1 n1 s1 _ M1=>?_
 simp -implicitDefEqProofs[c280_7]
 refine loop280b V.ths hn s1 (by rcases O.ths with h|h<;>omega) M1 fun h2 f2 n2 s2 _ a2 M2=>?_
 simp -implicitDefEqProofs[c280_16]
 refine loop280c V.rows (fun l hl=>⟨by have:=(O.row l hl).1;omega,fun x hx=>?_⟩) s2 (by have:=O.rows;omega) M2 fun h3 f3 n3 s3 le3 _ M3=>?_
 ·rcases(O.row l hl).2 x hx with h|h
  ·exact .inl h
  ·exact .inr (.inl h)
 have a3:∀l∈t.ths,∀x∈l,f3 x.loc.toNat=true:=fun l hl x hx=>le3 _ (a2 l hl x hx)
 have n3':=M3.next
 simp -implicitDefEqProofs[c280_25,c280_26]
 refine W_loop (inv280d h f3 [name,iv,tv,.int .i64 ck,av]) 26 ⟨0,_,rfl,by omega,⟨h3,M3,Ext.refl _⟩,SlG.nil,rfl⟩ ?_
 rintro mm F hh ⟨j,v,rfl,hj,⟨h0,M,x⟩,sv,rfl⟩
 unfold c280_31 c280_27 c280_28 c280_29 c280_30 c280_32
 have gs:hh.get (h.next+1)=.cells (bolC f3) false false:=by rw[x.get _ (by have:=M.next;omega)];exact M.seen
 by_cases h1:j<26
 ·have e1:(97:Int)+j≤122:=by omega
  have e2:(97:Int)+j<256:=by omega
  have e3:(0:Int)≤97+j:=by omega
  have hw:IntKind.i32.wrap ((97:Int)+j+1)=((97+(j+1):Nat):Int):=by rw[wrap_i32 (by omega)];omega
  have hw8:IntKind.u8.wrap ((97:Int)+j)=(97:Int)+j:=wrap_u8 (by omega)
  have et:((97:Int)+j).toNat=97+j:=by omega
  have hr:(List.range' 97 (j+1)).filter f3=(List.range' 97 j).filter f3++(if f3 (97+j)=true then [97+j]else []):=by
   rw[List.range'_concat,List.filter_append]
   simp[List.filter_cons]
  cases hf:f3 (97+j)with
  | true=>
   rw[hf,if_pos rfl]at hr
   simp -implicitDefEqProofs[e1,e2,e3,gs,et,bolC_get (show 97+j<256 by omega),hf,hw8]
   have hlen:((List.range' 97 j).filter f3).length≤26:=Nat.le_trans (List.length_filter_le _ _) (by simp;omega)
   refine sv.app1 (h0:=h0) (ec:=[.int .u8 (97+j)]) rfl (by omega) x (by rw[M.next];exact Nat.le_refl _) (by have:=x.next;rw[M.next]at this;exact this) fun v' h' s' x'=>?_
   simp -implicitDefEqProofs[hw]
   refine⟨26-(j+1),by omega,j+1,v',rfl,h1,⟨h0,M,x'⟩,?_,by simp⟩
   rw[hr,List.length_append,List.flatMap_append]
   simpa[bytC]using s'
  | false=>
   rw[hf,if_neg (by simp),List.append_nil]at hr
   simp -implicitDefEqProofs[e1,e2,e3,gs,et,bolC_get (show 97+j<256 by omega),hf,hw]
   exact⟨26-(j+1),by omega,j+1,v,rfl,h1,⟨h0,M,x⟩,by rw[hr];exact sv,by simp⟩
 ·have e1:¬(97:Int)+j≤122:=by omega
  have hj26:j=26:=by omega
  subst hj26
  simp -implicitDefEqProofs[e1]
  refine k hh f3 v (M.ext.trans x) s3 a3 ?_
  rw[letters_eq s3]at sv
  have:(letters f3).flatMap bytC=(lettersN f3).flatMap fun(i:Nat)=>bytC i:=by simp[letters,List.flatMap_map]
  rw[this,letters,List.length_map]
  exact sv.low (by omega)
end Go.Jq
