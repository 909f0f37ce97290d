/- exec.Each: memory and data. -/
import Derived.Test.YteobailpkkljpaaGreatDoorZ
set_option linter.unusedSimpArgs false
set_option linter.unusedVariables false
set_option maxHeartbeats 8000000
namespace Go.Jq
variable {G:Nat→SFunc} {h h0 h1:AH} {R:Value→AH→Prop}
structure Only(ws:List Nat)(h h1:AH):Prop where
 next:h.next≤h1.next
 get:∀b,b<h.next→b∉ws→h1.get b=h.get b
theorem Only.refl{ws:List Nat}:Only ws h h:=⟨Nat.le_refl _,fun _ _ _=>rfl⟩
theorem Only.trans{ws:List Nat}{a b c:AH}(x:Only ws a b)(y:Only ws b c):Only ws a c:=⟨Nat.le_trans x.next y.next,fun i hi hn=>(y.get i (Nat.lt_of_lt_of_le hi x.next) hn).trans (x.get i hi hn)⟩
theorem Ext.only{ws:List Nat}(x:Ext h h1):Only ws h h1:=⟨x.next,fun b hb _=>x.get b hb⟩
theorem Only.lays{ws:List Nat}{L:List ABlk}(x:Only ws h h1):Only ws h (h1.lays L):=x.trans Ext.lays.only
theorem Only.put{ws:List Nat}{b:Nat}{o:ABlk}(x:Only ws h h1)(hb:b∈ws∨h.next≤b):Only ws h (h1.put b o):=⟨x.next,fun i hi hn=>by
 rw[AH.put_get,if_neg (by rintro rfl;rcases hb with q|q;exact hn q;omega)]
 exact x.get i hi hn⟩
def Km(h:AH)(ms:List Nat):AH:=⟨h.next,fun b=>if b∈ms then .dead else h.get b⟩
section
variable {ms ms1:List Nat}
@[simp] theorem Km.next:(Km h ms).next=h.next:=rfl
theorem Km.get{b:Nat}(h1:b∉ms):(Km h ms).get b=h.get b:=if_neg h1
theorem Km.up{b:Nat}{c:List Value}{g ro:Bool}(e:(Km h ms).get b=.cells c g ro):b∉ms∧h.get b=.cells c g ro:=by
 simp only[Km]at e
 split at e
 ·simp at e
 ·rename_i q;exact⟨q,e⟩
theorem Km.xt:Xt (Km h ms) h:=⟨Nat.le_refl _,fun b c g ro _ e=>(Km.up e).2⟩
theorem Km.sub(hs:∀b∈ms1,b∈ms):Xt (Km h ms) (Km h ms1):=⟨Nat.le_refl _,fun b c g ro _ e=>by
 obtain⟨q1,q2⟩:=Km.up e
 rw[Km.get fun m=>q1 (hs b m)];exact q2⟩
theorem Km.ext(x:Ext h h1):Xt (Km h ms) (Km h1 ms):=⟨x.next,fun b c g ro hb e=>by
 obtain⟨q1,q2⟩:=Km.up e
 rw[Km.get q1,x.get b hb];exact q2⟩
theorem Km.chg(hn:h.next≤h1.next)(hg:∀b,b<h.next→b∉ms→h1.get b=h.get b)(hv:∀b∈ms1,b∈ms∨h.next≤b):Xt (Km h ms) (Km h1 ms1):=⟨hn,fun b c g ro hb e=>by
 obtain⟨q1,q2⟩:=Km.up e
 have hb:b<h.next:=hb
 rw[Km.get (fun m=>by rcases hv b m with q|q;exact q1 q;omega),hg b hb q1];exact q2⟩
theorem Km.only{ws:List Nat}(x:Only ws h h1)(hw:∀b∈ws,b∈ms):Xt (Km h ms) (Km h1 ms):=Km.chg x.next (fun b hb hn=>x.get b hb fun m=>hn (hw b m)) fun _ m=>.inl m
theorem Km.put{b:Nat}{o:ABlk}(hb:b∈ms):Km (h.put b o) ms=Km h ms:=by
 unfold Km
 simp only[AH.mk.injEq]
 refine⟨rfl,funext fun i=>?_⟩
 by_cases e:i∈ms
 ·simp[e]
 ·have:i≠b:=fun q=>e (q▸hb)
  simp[e,AH.put_get,this]
end
structure Part where
 evs:List Ev6
 src:List Int
 l:Lcl
 need:Ins
 more:Bool
 stale:Nat
structure Wr where
 t:Int
 i:Int
 loc:Int
 val:Int
def Wr.c(w:Wr):List Value:=[.int .i64 w.t,.int .i64 w.i,.int .i64 w.loc,.int .i64 w.val]
def Part.c(x:Part)(w:Value×Value):List Value:=w.1::w.2::(x.l.c++x.need.c++[.bool x.more,.int .i64 x.stale])
theorem Part.c_len(x:Part)(w:Value×Value):(x.c w).length=18:=by simp[Part.c,Lcl.c,Ins.c]
structure RowC(k:Nat)(h:AH)(n:Nat)(cs:List Value)(v:Value):Prop where
 x:SlX k h n cs v
 nil:n=0→v=.slice none 0 0
theorem RowC.xt{k n:Nat}{cs:List Value}{v:Value}(p:RowC k h n cs v)(y:Xt h h1):RowC k h1 n cs v:=⟨p.x.xt y,p.nil⟩
theorem RowC.zero{k:Nat}:RowC k h 0 [] (.slice none 0 0):=⟨.nil,fun _=>rfl⟩
structure PartW(h:AH)(x:Part)(w:Value×Value):Prop where
 evs:RowC 6 h x.evs.length (x.evs.flatMap Ev6.c) w.1
 src:RowC 1 h x.src.length (x.src.flatMap intC) w.2
theorem PartW.xt{x:Part}{w:Value×Value}(p:PartW h x w)(y:Xt h h1):PartW h1 x w:=⟨p.evs.xt y,p.src.xt y⟩
def ClX(k:Nat)(h:AH)(n:Nat)(cs:List Value)(v:Value):Prop:=
 cs.length=n*k∧((n=0∧v=.slice none 0 0)∨∃b o c0 g ro,v=.slice (some ⟨b,o,none⟩) n n∧b<h.next∧h.get b=.cells c0 g ro∧o+n*k≤c0.length∧(c0.drop o).take (n*k)=cs)
theorem ClX.app{k bytes n m t o:Nat}{sp:Option Nat}{cs ec:List Value}{v:Value}(s:ClX k h n cs v)(he:h.load t o (1*k)=some ec)(hb:(n+1)*bytes≤70368744177664):
  ∃h',sappend h k bytes v (.slice (some ⟨t,o,sp⟩) 1 m)=some (.slice (some ⟨h.next,0,some k⟩) (n+1) (n+1),h')∧h'=h.alloc (.cells (cs++ec) true false)∧SlX k h' (n+1) (cs++ec) (.slice (some ⟨h.next,0,some k⟩) (n+1) (n+1)):=by
 have hel:ec.length=1*k:=by
  unfold AH.load at he
  split at he
  ·split at he
   ·simp only[Option.some.injEq]at he;subst he;simp;omega
   ·simp at he
  ·simp at he
 obtain⟨s1,s2⟩:=s
 have hgt:¬(n+1)*bytes>70368744177664:=by omega
 refine⟨_,?_,rfl,by simp[hel,s1,Nat.add_mul],.inr ⟨h.next,0,some k,n+1,cs++ec,true,false,rfl,.inr rfl,Nat.le_refl _,by simp,by simp,by simp[hel,s1,Nat.add_mul],?_⟩⟩
 ·rcases s2 with⟨rfl,rfl⟩|⟨b,o',c0,g,ro,rfl,h2,h3,h4,h5⟩
  ·have hc:cs=[]:=by apply List.eq_nil_of_length_eq_zero;simpa using s1
   subst hc
   simp only[sappend,lenOf,firstOf,he,Nat.zero_add]at hgt ⊢
   simp[hgt]
   omega
  ·have hld:h.load b o' (n*k)=some cs:=by
    unfold AH.load
    rw[h3]
    simp only
    rw[if_pos h4,h5]
   simp only[sappend,lenOf,firstOf,he]
   rw[if_neg hgt,if_neg (by omega),hld,h3]
 ·rw[List.drop_zero,List.take_of_length_le (by simp[hel,s1,Nat.add_mul])]
theorem SlX.clip{k n:Nat}{cs:List Value}{v:Value}(s:SlX k h n cs v)(h0:n=0→v=.slice none 0 0):
  ∃a c v',v=.slice a n c∧sslice k a n c none (some (.int .i64 n)) (some (.int .i64 n))=some v'∧ClX k h n cs v':=by
 obtain⟨s1,s2⟩:=s
 rcases s2 with⟨rfl,rfl⟩|⟨b,o,sp,c,c0,g,ro,rfl,e6,e7,e2,e3,e4,e5⟩
 ·exact⟨none,0,.slice none 0 0,rfl,rfl,s1,.inl ⟨rfl,rfl⟩⟩
 ·have hn:0<n:=by
   rcases Nat.eq_zero_or_pos n with q|q
   ·have:=h0 q;simp at this
   ·exact q
  refine⟨_,c,.slice (some ⟨b,o,none⟩) n n,rfl,?_,s1,.inr ⟨b,o,c0,g,ro,rfl,e2,e3,e4,e5⟩⟩
  have hb:sbounds n c none (some (.int .i64 n)) (some (.int .i64 n))=some (0,n,n):=by
   unfold sbounds sbound
   dsimp only
   rw[if_pos (by omega)]
   dsimp only
   rw[if_pos (by omega)]
   simp
  unfold sslice
  rw[hb]
  dsimp only
  rcases e6 with rfl|rfl
  ·simp[addrAdd]
  ·simp;omega
section
variable {α:Type} {f:α→List Value} {k:Nat}
theorem fmk_len(hf:∀a,(f a).length=k){l:List α}:(l.flatMap f).length=l.length*k:=by
 induction l with
 | nil=>simp
 | cons a l ih=>rw[List.flatMap_cons,List.length_append,ih,hf,List.length_cons,Nat.succ_mul];omega
theorem fmk_get(hf:∀a,(f a).length=k){l:List α}{i j:Nat}(hi:i<l.length)(hj:j<k):(l.flatMap f)[i*k+j]?=(f l[i])[j]?:=by
 induction l generalizing i with
 | nil=>simp at hi
 | cons a l ih=>
  cases i with
  | zero=>rw[List.flatMap_cons,Nat.zero_mul,Nat.zero_add,List.getElem?_append_left (by rw[hf];exact hj)];rfl
  | succ i=>
   have:(i+1)*k=k+i*k:=by rw[Nat.succ_mul];omega
   rw[List.flatMap_cons,List.getElem?_append_right (by rw[hf];omega),hf,show(i+1)*k+j-k=i*k+j by omega]
   exact ih (by simpa using hi)
theorem fmk_at(hf:∀a,(f a).length=k){l:List α}{i:Nat}(hi:i<l.length):((l.flatMap f).drop (i*k)).take k=f l[i]:=by
 induction l generalizing i with
 | nil=>simp at hi
 | cons a l ih=>
  cases i with
  | zero=>simp[List.flatMap_cons,←hf a]
  | succ i=>
   have:(i+1)*k=(f a).length+i*k:=by rw[Nat.succ_mul,hf];omega
   rw[List.flatMap_cons,this,List.drop_append,show(f a).length+i*k-(f a).length=i*k by omega,List.drop_of_length_le (by omega),List.nil_append]
   exact ih (by simpa using hi)
theorem fmk_set(hf:∀a,(f a).length=k){l:List α}{i j:Nat}{a:α}{vs:List Value}(hi:i<l.length)(hj:j+vs.length≤k)(e:f a=splice (f l[i]) j vs):splice (l.flatMap f) (i*k+j) vs=(l.set i a).flatMap f:=by
 induction l generalizing i with
 | nil=>simp at hi
 | cons b l ih=>
  cases i with
  | zero=>
   simp only[List.set_cons_zero,List.flatMap_cons,List.getElem_cons_zero]at e ⊢
   rw[e]
   have hb:=hf b
   unfold splice
   rw[Nat.zero_mul,Nat.zero_add,List.take_append_of_le_length (by omega),List.drop_append_of_le_length (by omega)]
   simp
  | succ i=>
   have h1:=ih (i:=i) (by simpa using hi) (by simpa using e)
   simp only[List.set_cons_succ,List.flatMap_cons]
   rw[←h1]
   have:(i+1)*k=(f b).length+i*k:=by rw[Nat.succ_mul,hf];omega
   unfold splice
   rw[this,Nat.add_assoc,List.take_append,List.take_of_length_le (by omega),Nat.add_assoc,List.drop_append,List.drop_of_length_le (by omega)]
   rw[show(f b).length+(i*k+j)-(f b).length=i*k+j by omega,show(f b).length+(i*k+j+vs.length)-(f b).length=i*k+j+vs.length by omega]
   simp
theorem fmk_set1(hf:∀a,(f a).length=k){l:List α}{i j:Nat}{a:α}{v:Value}(hi:i<l.length)(hj:j<k)(e:f a=(f l[i]).set j v):(l.flatMap f).set (i*k+j) v=(l.set i a).flatMap f:=by
 induction l generalizing i with
 | nil=>simp at hi
 | cons b l ih=>
  cases i with
  | zero=>
   simp only[List.set_cons_zero,List.flatMap_cons,List.getElem_cons_zero]at e ⊢
   rw[e,Nat.zero_mul,Nat.zero_add,List.set_append_left _ _ (by rw[hf];exact hj)]
  | succ i=>
   have h1:=ih (i:=i) (by simpa using hi) (by simpa using e)
   simp only[List.set_cons_succ,List.flatMap_cons]
   rw[←h1]
   have:(i+1)*k=(f b).length+i*k:=by rw[Nat.succ_mul,hf];omega
   rw[this,Nat.add_assoc,List.set_append_right _ _ (by omega),Nat.add_sub_cancel_left]
end
end Go.Jq
namespace Go.Jq
def Wr.zero:Wr:=⟨0,0,0,0⟩
def wrA(l:List Wr)(i:Nat):Wr:=(l[i]?).getD .zero
def Part.zero:Part:=⟨[],[],.zero,.zero,false,0⟩
def partA(l:List Part)(i:Nat):Part:=(l[i]?).getD .zero
theorem wrA_of{l:List Wr}{i:Nat}(h:i<l.length):wrA l i=l[i]:=by simp[wrA,h]
theorem partA_of{l:List Part}{i:Nat}(h:i<l.length):partA l i=l[i]:=by simp[partA,h]
def addP(t:Nat)(x:Part)(e:Evt)(src:Int):Part:={ x with evs:=x.evs++[e6 t x.evs.length e],src:=x.src++[src] }
def addL(t:Nat)(x:Part)(e:Evt)(log:List Wr):List Wr:=if(e6 t x.evs.length e).writes then log++[⟨t,x.evs.length,e.loc,e.w⟩]else log
def runP(th:List Ins)(t:Nat)(x:Part)(log:List Wr):Part×List Wr:=
 match hq:nextM th x.l with
 | none=>({ x with more:=false },log)
 | some i=>if rdI i then({ x with need:=i,more:=true },log)
  else runP th t { addP t { x with more:=false } (evtM i x.l 0) (-1)with l:=aftM th x.l 0 } (addL t x (evtM i x.l 0) log)
termination_by th.length-x.l.pc
decreasing_by
 have h1:=(nextM_mem hq).2.1
 have h2:=aft_pc (x:=0) hq
 show th.length-(aftM th x.l 0).pc<th.length-x.l.pc
 omega
theorem run_none{th:List Ins}{t:Nat}{x:Part}{log:List Wr}(h:nextM th x.l=none):runP th t x log=({ x with more:=false },log):=by
 rw[runP];split
 ·rfl
 ·rename_i i q;rw[h]at q;simp at q
theorem run_read{th:List Ins}{t:Nat}{x:Part}{log:List Wr}{i:Ins}(h:nextM th x.l=some i)(hk:rdI i=true):runP th t x log=({ x with need:=i,more:=true },log):=by
 rw[runP];split
 ·rename_i q;rw[h]at q;simp at q
 ·rename_i j q
  rw[h]at q;obtain rfl:=Option.some.inj q
  rw[if_pos hk]
theorem run_on{th:List Ins}{t:Nat}{x:Part}{log:List Wr}{i:Ins}(h:nextM th x.l=some i)(hk:rdI i=false):runP th t x log=runP th t { addP t { x with more:=false } (evtM i x.l 0) (-1)with l:=aftM th x.l 0 } (addL t x (evtM i x.l 0) log):=by
 rw[runP];split
 ·rename_i q;rw[h]at q;simp at q
 ·rename_i j q
  rw[h]at q;obtain rfl:=Option.some.inj q
  rw[if_neg (by simp[hk])]
def readP(th:List Ins)(t:Nat)(x:Part)(log:List Wr)(f:Nat):Part×List Wr:=
 runP th t { addP t x (evtM x.need x.l (wrA log f).val) f with l:=aftM th x.l (wrA log f).val,stale:=0 } (addL t x (evtM x.need x.l (wrA log f).val) log)
structure Wk where
 parts:List Part
 log:List Wr
def thA(p:Prg)(t:Nat):List Ins:=(p.ths[t]?).getD []
def readW(p:Prg)(w:Wk)(t f:Nat):Wk:=⟨w.parts.set t (readP (thA p t) t (partA w.parts t) w.log f).1,(readP (thA p t) t (partA w.parts t) w.log f).2⟩
def wrI(loc:Int)(i:Ins):Bool:=(decide (i.kind=1)||decide (i.kind=4))&&decide (i.loc=loc)
def hopeB(p:Prg)(parts:List Part)(t:Nat)(loc:Int)(k:Nat):Bool:=decide (k≠t)&&((partA parts k).more&&((thA p k).drop (partA parts k).l.pc).any (wrI loc))
def hopesM(p:Prg)(parts:List Part)(t:Nat)(loc:Int):Bool:=(List.range parts.length).any (hopeB p parts t loc)
def firstM(n0:Nat)(parts:List Part)(t:Nat):Nat:=n0+((parts.take t).map fun x=>x.evs.length).sum
def placeM(n0:Nat)(parts:List Part)(log:List Wr)(f:Int):Int:=
 if f<0 then -1 else if(wrA log f.toNat).t<0 then(wrA log f.toNat).i else(wrA log f.toNat).i+firstM n0 parts (wrA log f.toNat).t.toNat
def flatE(p:Prg)(parts:List Part):List Ev6:=initsM p++parts.flatMap Part.evs
def flatR(p:Prg)(w:Wk):List Int:=List.replicate (initsM p).length (-1)++w.parts.flatMap fun x=>x.src.map (placeM (initsM p).length w.parts w.log)
def flatM(p:Prg)(w:Wk):List Ev6×List Int:=(flatE p w.parts,flatR p w)
section
variable (p:Prg) (keep:List Ev6×List Int→Bool)
def onF(rec:Wk→List (List Ev6×List Int))(w:Wk)(t f:Nat):List (List Ev6×List Int):=
 if(wrA w.log f).loc=(partA w.parts t).need.loc then(if keep (flatM p (readW p w t f))then rec (readW p w t f)else [])else []
def staleP(x:Part)(n:Nat):Part:={ x with stale:=n }
def onT(rec:Wk→List (List Ev6×List Int))(w:Wk):List Nat→List Part→Bool→List (List Ev6×List Int)
 | [],_,ended=>if ended then [flatM p w]else []
 | t::ts,fresh,ended=>
  if(partA w.parts t).more then
   (List.range' (partA w.parts t).stale (w.log.length-(partA w.parts t).stale)).flatMap (onF p keep rec ⟨fresh,w.log⟩ t)++
    (if hopesM p w.parts t (partA w.parts t).need.loc then onT rec w ts (fresh.set t (staleP (partA fresh t) w.log.length)) false else [])
  else onT rec w ts fresh ended
def onM:Nat→Wk→List (List Ev6×List Int)
 | 0,_=>[]
 | n+1,w=>onT p keep (onM n) w (List.range w.parts.length) w.parts true
end
def wr0(p:Prg):List Wr:=(List.range p.init.length).map fun(i:Nat)=>⟨-1,i,i,intA p.init i⟩
def begW(p:Prg):Nat→Wk
 | 0=>⟨List.replicate p.ths.length .zero,wr0 p⟩
 | t+1=>⟨(begW p t).parts.set t (runP (thA p t) t { partA (begW p t).parts t with l:=nrm (thA p t) .zero } (begW p t).log).1,(runP (thA p t) t { partA (begW p t).parts t with l:=nrm (thA p t) .zero } (begW p t).log).2⟩
def sizeM(p:Prg):Nat:=(p.ths.map List.length).sum
def eachM(p:Prg)(keep:List Ev6×List Int→Bool):List (List Ev6×List Int):=onM p keep (sizeM p+1) (begW p p.ths.length)
def tellM{S C:Type}(T:S→C→Bool×S):List C→S→Bool×S
 | [],s=>(true,s)
 | c::l,s=>if(T s c).1 then tellM T l (T s c).2 else(false,(T s c).2)
theorem tell_app{S C:Type}{T:S→C→Bool×S}{l m:List C}{s:S}:tellM T (l++m) s=if(tellM T l s).1 then tellM T m (tellM T l s).2 else(false,(tellM T l s).2):=by
 induction l generalizing s with
 | nil=>rfl
 | cons c l ih=>
  simp only[List.cons_append,tellM]
  split
  ·rw[ih]
  ·rfl
end Go.Jq
namespace Go.Jq
variable {G:Nat→SFunc} {h h0 h1:AH} {R:Value→AH→Prop}
structure WalkG(G:Nat→SFunc):Prop extends ProgG G,EvG G where
 g177:G 177=c177
 g178:G 178=c178
 g179:G 179=c179
 g115:G 115=c115
 g114:G 114=c114
 g61:G 61=c61
 g118:G 118=c118
theorem clip177(g:WalkG G){n:Nat}{cs:List Value}{v:Value}(s:RowC 6 h n cs v)(k:∀v',ClX 6 h n cs v'→R v' h):WC G 177 [v] h R:=by
 obtain⟨a,c,v',rfl,e,cl⟩:=s.x.clip s.nil
 refine WC_enter g.g177 rfl ?_
 simp -implicitDefEqProofs[c177,c177_body,c177_0,c177_1,e]
 exact k v' cl
theorem clip178(g:WalkG G){n:Nat}{cs:List Value}{v:Value}(s:RowC 1 h n cs v)(k:∀v',ClX 1 h n cs v'→R v' h):WC G 178 [v] h R:=by
 obtain⟨a,c,v',rfl,e,cl⟩:=s.x.clip s.nil
 refine WC_enter g.g178 rfl ?_
 simp -implicitDefEqProofs[c178,c178_body,c178_0,c178_1,e]
 exact k v' cl
theorem clip179(g:WalkG G){n:Nat}{cs:List Value}{v:Value}(s:RowC 4 h n cs v)(k:∀v',ClX 4 h n cs v'→R v' h):WC G 179 [v] h R:=by
 obtain⟨a,c,v',rfl,e,cl⟩:=s.x.clip s.nil
 refine WC_enter g.g179 rfl ?_
 simp -implicitDefEqProofs[c179,c179_body,c179_0,c179_1,e]
 exact k v' cl
theorem wr_len(e:Wr):e.c.length=4:=rfl
theorem ev_len(e:Ev6):e.c.length=6:=rfl
theorem Only.more{ws ws1:List Nat}(x:Only ws h h1)(hs:∀b∈ws,b∈ws1):Only ws1 h h1:=⟨x.next,fun b hb hn=>x.get b hb fun m=>hn (hs b m)⟩
theorem ClX.xt{k n:Nat}{cs:List Value}{v:Value}(s:ClX k h n cs v)(x:Xt h h1):ClX k h1 n cs v:=by
 obtain⟨s1,s2⟩:=s
 refine⟨s1,?_⟩
 rcases s2 with s2|⟨b,o,c0,g,ro,e1,e2,e3,e4⟩
 ·exact .inl s2
 ·exact .inr ⟨b,o,c0,g,ro,e1,Nat.lt_of_lt_of_le e2 x.next,x.get _ _ _ _ e2 e3,e4⟩
theorem set_splice{c:List Value}{i:Nat}{v:Value}(h:i<c.length):c.set i v=splice c i [v]:=by rw[List.set_eq_take_append_cons_drop,if_pos h];simp[splice]
def pwc(x:Part×(Value×Value)):List Value:=x.1.c x.2
theorem pwc_len(x:Part×(Value×Value)):(pwc x).length=18:=Part.c_len _ _
structure Wst(h:AH)(ms:List Nat)(wb nb:Nat)(lv iv tv kv fv:Value)(sp:Option Nat)(cap:Nat)(w:Wk):Prop where
 wbk:∃lg g,h.get wb=.cells [lv,iv,tv,.slice (some ⟨nb,0,sp⟩) w.parts.length cap,lg,kv,fv] g false∧RowC 4 (Km h ms) w.log.length (w.log.flatMap Wr.c) lg
 nbk:∃(xs:List (Part×(Value×Value))) (g:Bool),h.get nb=.cells (xs.flatMap pwc) g false∧xs.map Prod.fst=w.parts∧∀x∈xs,PartW (Km h ms) x.1 x.2
 ne:wb≠nb
 iw:wb∈ms
 inb:nb∈ms
 lt:∀m∈ms,m<h.next
theorem add_q(g:WalkG G){ms:List Nat}{wb nb:Nat}{lv iv tv kv fv:Value}{sp:Option Nat}{cap:Nat}{w:Wk}{t:Nat}{e:Evt}{src:Int}(S:Wst h ms wb nb lv iv tv kv fv sp cap w)(ht:t<w.parts.length)
  (b1:(partA w.parts t).evs.length≤1000)(b2:(partA w.parts t).src.length≤1000)(b3:w.log.length≤1000)
  (k:∀h1,Only [wb,nb] h h1→Wst h1 ms wb nb lv iv tv kv fv sp cap ⟨w.parts.set t (addP t (partA w.parts t) e src),addL t (partA w.parts t) e w.log⟩→R (.tuple #[]) h1):
  WC G 115 [ptrV wb,.int .i64 t,e.v,.int .i64 src] h R:=by
 obtain⟨lg,g1,gw,rl⟩:=S.wbk
 obtain⟨xs,g2,gn,ex,px⟩:=S.nbk
 have hx:t<xs.length:=by rw[←List.length_map (f:=Prod.fst) (as:=xs),ex];exact ht
 have ept:partA w.parts t=(xs[t]).1:=by rw[partA_of ht];simp[←ex]
 have pxa:=px
 have px:=px _ (List.getElem_mem hx)
 rw[ept]at b1 b2 k
 have cl:(xs.flatMap pwc).length=xs.length*18:=fmk_len pwc_len
 have hle:t*18+18≤(xs.flatMap pwc).length:=by rw[cl];omega
 have c0:(xs.flatMap pwc)[t*18]?=some xs[t].2.1:=by
  have:=fmk_get pwc_len (i:=t) (j:=0) hx (by omega)
  simpa[pwc,Part.c]using this
 have c1:(xs.flatMap pwc)[t*18+1]?=some xs[t].2.2:=by
  have:=fmk_get pwc_len (i:=t) (j:=1) hx (by omega)
  simpa[pwc,Part.c]using this
 have hs1:∀j a v,j<18→pwc a=(pwc xs[t]).set j v→(xs.flatMap pwc).set (t*18+j) v=(xs.set t a).flatMap pwc:=fun j a v hj e=>fmk_set1 pwc_len hx hj e
 have lw:=S.lt wb S.iw
 have ln:=S.lt nb S.inb
 obtain⟨ea,ec,hev⟩:=px.evs.x.len
 generalize hcs:xs.flatMap pwc=cs at*
 refine WC_enter g.g115 rfl ?_
 simp -implicitDefEqProofs[c115,c115_body,c115_0,c115_1,c115_2,c115_2b,ptrV,AH.lays_lt lw,gw,Evt.v,ht,AH.lays_lt ln,gn,c0,hev]
 refine⟨.inl (by omega),?_⟩
 obtain⟨ec0,hec⟩:∃l,l=(e6 t xs[t].1.evs.length e).c:=⟨_,rfl⟩
 have hec':[Value.int .i64 t,.int .i64 xs[t].1.evs.length,.int .i64 e.kind,.int .i64 e.loc,.int .i64 e.r,.int .i64 e.w]=ec0:=hec.symm
 simp -implicitDefEqProofs[c115_3,c115_3b,AH.lays_lt ln,gn,c0,hev,AH.load,zi_6,splice]
 have pe:=px.evs
 rw[hev]at pe
 refine clip177 g (pe.xt (Km.xt.trans Ext.lays.xt)) fun v1 C1=>?_
 simp -implicitDefEqProofs
 obtain⟨h2,ap,eh2,S2⟩:=C1.app (bytes:=48) (t:=h.next+1) (m:=1) (o:=0) (sp:=none) (ec:=(e6 t xs[t].1.evs.length e).c) (by simp[AH.load,e6,Ev6.c]) (by omega)
 rw[ap,getvh_some,eh2]
 have hle1:t*18+1≤cs.length:=by omega
 have lcs:∀(j:Nat) (a:Part×(Value×Value)) (vs:List Value),j+vs.length≤18→pwc a=splice (pwc xs[t]) j vs→splice cs (t*18+j) vs=(xs.set t a).flatMap pwc:=fun j a vs hj e=>by rw[←hcs];exact fmk_set pwc_len hx hj e
 obtain⟨v1',hv1'⟩:∃v,v=Value.slice (some ⟨h.next+2,0,some 6⟩) (xs[t].1.evs.length+1) (xs[t].1.evs.length+1):=⟨_,rfl⟩
 have s1:=lcs 0 ({ xs[t].1 with evs:=xs[t].1.evs++[e6 t xs[t].1.evs.length e] },(v1',xs[t].2.2)) [v1'] (by simp) (by simp[pwc,Part.c,splice])
 simp -implicitDefEqProofs[AH.lays_lt ln,gn,c0,hev,AH.load,hle1]
 rw[Nat.add_zero]at s1
 rw[←hv1',s1]
 generalize hX1:(({ xs[t].1 with evs:=xs[t].1.evs++[e6 t xs[t].1.evs.length e] },(v1',xs[t].2.2)):Part×(Value×Value))=X1 at*
 obtain⟨hA,ehA⟩:∃hA,hA=(h.lays [.cells [.int .i64 t,.int .i64 xs[t].1.evs.length,.int .i64 e.kind,.int .i64 e.loc,.int .i64 e.r,.int .i64 e.w] false false,.cells [.int .i64 t,.int .i64 xs[t].1.evs.length,.int .i64 e.kind,.int .i64 e.loc,.int .i64 e.r,.int .i64 e.w] false false,.cells (List.flatMap Ev6.c xs[t].1.evs++(e6 t xs[t].1.evs.length e).c) true false]).put nb (.cells ((xs.set t X1).flatMap pwc) g2 false):=⟨_,rfl⟩
 rw[←ehA]
 have nA:hA.next=h.next+3:=by rw[ehA];simp[AH.put_next]
 have oA:Only [nb] h hA:=by rw[ehA];exact(Only.refl.lays).put (.inl (by simp))
 have gA:hA.get h.next=.cells [.int .i64 t,.int .i64 xs[t].1.evs.length,.int .i64 e.kind,.int .i64 e.loc,.int .i64 e.r,.int .i64 e.w] false false:=by rw[ehA,AH.put_get,if_neg (by omega)];simp
 have gAn:hA.get nb=.cells ((xs.set t X1).flatMap pwc) g2 false:=by rw[ehA,AH.put_get,if_pos rfl]
 have gAw:hA.get wb=.cells [lv,iv,tv,.slice (some ⟨nb,0,sp⟩) w.parts.length cap,lg,kv,fv] g1 false:=by rw[oA.get _ lw (by simp;exact S.ne)];exact gw
 have S1:SlX 6 (Km hA ms) (xs[t].1.evs.length+1) ((xs[t].1.evs++[e6 t xs[t].1.evs.length e]).flatMap Ev6.c) v1':=by
  rw[hv1']
  have fl:=fmk_len ev_len (l:=xs[t].1.evs++[e6 t xs[t].1.evs.length e])
  rw[List.length_append,List.length_singleton]at fl
  refine⟨fl,.inr ⟨h.next+2,0,some 6,_,_,true,false,rfl,.inr rfl,Nat.le_refl _,by show h.next+2<hA.next;omega,?_,by rw[fl];omega,by rw[List.drop_zero,List.take_of_length_le (by omega)]⟩⟩
  rw[Km.get (fun m=>by have:=S.lt _ m;omega),ehA,AH.put_get,if_neg (by omega)]
  simp
 clear ehA
 have nwA:wb<hA.next:=by omega
 have nnA:nb<hA.next:=by omega
 have hx1:t<(xs.set t X1).length:=by simpa using hx
 have eX1:(xs.set t X1)[t]=X1:=by simp
 have c1A:((xs.set t X1).flatMap pwc)[t*18+1]?=some xs[t].2.2:=by
  have:=fmk_get pwc_len (l:=xs.set t X1) (i:=t) (j:=1) hx1 (by omega)
  rw[eX1,←hX1]at this
  simpa[pwc,Part.c,hX1]using this
 have lcs1:∀(j:Nat) (a:Part×(Value×Value)) (vs:List Value),j+vs.length≤18→pwc a=splice (pwc X1) j vs→splice ((xs.set t X1).flatMap pwc) (t*18+j) vs=(xs.set t a).flatMap pwc:=fun j a vs hj e=>by
  have:=fmk_set pwc_len (l:=xs.set t X1) (i:=t) hx1 hj (by rw[eX1];exact e)
  rwa [List.set_set]at this
 have clA:((xs.set t X1).flatMap pwc).length=xs.length*18:=by rw[fmk_len pwc_len];simp
 have hle2:t*18+1+1≤((xs.set t X1).flatMap pwc).length:=by rw[clA];omega
 have pS:=px.src.xt (Km.only oA (by simp;exact S.inb):Xt (Km h ms) (Km hA ms))
 obtain⟨sa,sc,hsv⟩:=pS.x.len
 rw[hsv]at c1A pS
 generalize hcsA:(xs.set t X1).flatMap pwc=csA at*
 simp -implicitDefEqProofs[c115_4,gAn,c1A]
 refine clip178 g (pS.xt Km.xt) fun v2 C2=>?_
 simp -implicitDefEqProofs
 obtain⟨h3,ap2,eh3,S3⟩:=(C2.xt (Ext.lays (L:=[.cells [.int .i64 src] false false])).xt).app (bytes:=8) (t:=hA.next) (m:=1) (o:=0) (sp:=none) (ec:=[.int .i64 src]) (by simp[AH.load]) (by omega)
 rw[ap2,getvh_some,eh3]
 obtain⟨v2',hv2'⟩:∃v,v=Value.slice (some ⟨hA.next+1,0,some 1⟩) (xs[t].1.src.length+1) (xs[t].1.src.length+1):=⟨_,rfl⟩
 have s2:=lcs1 1 ({ xs[t].1 with evs:=xs[t].1.evs++[e6 t xs[t].1.evs.length e],src:=xs[t].1.src++[src] },(v1',v2')) [v2'] (by simp) (by rw[←hX1];simp[pwc,Part.c,splice])
 have w7:∀L,(hA.lays L).get wb=.cells [lv,iv,tv,.slice (some ⟨nb,0,sp⟩) w.parts.length cap,lg,kv,fv] g1 false:=fun L=>by rw[AH.lays_lt nwA,gAw]
 simp -implicitDefEqProofs[AH.lays_lt nnA,gAn,AH.load,show t*18+1+1≤csA.length by omega]
 refine⟨by omega,?_⟩
 rw[←hv2',set_splice (by omega),s2]
 generalize hX2:(({ xs[t].1 with evs:=xs[t].1.evs++[e6 t xs[t].1.evs.length e],src:=xs[t].1.src++[src] },(v1',v2')):Part×(Value×Value))=X2 at*
 obtain⟨hB,ehB⟩:∃hB,hB=(hA.lays [.cells [.int .i64 src] false false,.cells (List.flatMap intC xs[t].1.src++[.int .i64 src]) true false]).put nb (.cells ((xs.set t X2).flatMap pwc) g2 false):=⟨_,rfl⟩
 rw[←ehB]
 have nB:hB.next=hA.next+2:=by rw[ehB];simp[AH.put_next]
 have oB:Only [nb] hA hB:=by rw[ehB];exact(Only.refl.lays).put (.inl (by simp))
 have oB':Only [nb] h hB:=oA.trans oB
 have gB:hB.get h.next=.cells [.int .i64 t,.int .i64 xs[t].1.evs.length,.int .i64 e.kind,.int .i64 e.loc,.int .i64 e.r,.int .i64 e.w] false false:=by rw[oB.get _ (by omega) (by simp;omega),gA]
 have gBn:hB.get nb=.cells ((xs.set t X2).flatMap pwc) g2 false:=by rw[ehB,AH.put_get,if_pos rfl]
 have gBw:hB.get wb=.cells [lv,iv,tv,.slice (some ⟨nb,0,sp⟩) w.parts.length cap,lg,kv,fv] g1 false:=by rw[oB.get _ (by omega) (by simp;exact S.ne)];exact gAw
 have S2:SlX 1 (Km hB ms) (xs[t].1.src.length+1) ((xs[t].1.src++[src]).flatMap intC) v2':=by
  rw[hv2']
  have fl:=fmk_len intC_length (l:=xs[t].1.src++[src])
  rw[List.length_append,List.length_singleton]at fl
  refine⟨fl,.inr ⟨hA.next+1,0,some 1,_,_,true,false,rfl,.inr rfl,Nat.le_refl _,by show hA.next+1<hB.next;omega,?_,by rw[fl];omega,by rw[List.drop_zero,List.take_of_length_le (by omega)]⟩⟩
  rw[Km.get (fun m=>by have:=S.lt _ m;omega),ehB,AH.put_get,if_neg (by omega)]
  simp[intC]
 clear ehB
 have xB:=(Km.only oB (by simp;exact S.inb):Xt (Km hA ms) (Km hB ms))
 have xB':=(Km.only oB' (by simp;exact S.inb):Xt (Km h ms) (Km hB ms))
 have PB:∀x∈xs.set t X2,PartW (Km hB ms) x.1 x.2:=fun x hx'=>by
  rcases List.mem_or_eq_of_mem_set hx' with q|q
  ·exact(pxa x q).xt xB'
  ·rw[q,←hX2]
   exact⟨⟨by simpa using S1.xt xB,by simp⟩,⟨by simpa using S2,by simp⟩⟩
 have eB:(xs.set t X2).map Prod.fst=w.parts.set t (addP t xs[t].1 e src):=by
  rw[List.map_set,ex,←hX2]
  rfl
 simp -implicitDefEqProofs[c115_5,gB]
 refine Writes_e (e:=e6 t xs[t].1.evs.length e) g.toEvG ?_
 have rlB:=rl.xt xB'
 have ltB:∀m∈ms,m<hB.next:=fun m hm=>by have:=S.lt m hm;omega
 cases hw:(e6 t xs[t].1.evs.length e).writes with
 | false=>
  simp -implicitDefEqProofs
  refine k hB (oB'.more (by simp)) ⟨⟨lg,g1,by simpa using gBw,by simpa[addL,hw]using rlB⟩,⟨_,g2,gBn,eB,PB⟩,S.ne,S.iw,S.inb,ltB⟩
 | true=>
  obtain⟨la,lc,hlg⟩:=rlB.x.len
  have z4:zi 4=[.int .i64 0,.int .i64 0,.int .i64 0,.int .i64 0]:=rfl
  subst hlg
  simp -implicitDefEqProofs[c115_6,c115_6b,gBw,gB,z4,splice,AH.lays_lt (show h.next<hB.next by omega),AH.lays_lt (show wb<hB.next by omega)]
  refine clip179 g (rlB.xt (Km.xt.trans Ext.lays.xt)) fun v3 C3=>?_
  obtain⟨h4,ap3,eh4,S4⟩:=C3.app (bytes:=32) (t:=hB.next) (m:=1) (o:=0) (sp:=none) (ec:=Wr.c ⟨t,xs[t].1.evs.length,e.loc,e.w⟩) (by simp[AH.load,Wr.c]) (by omega)
  simp -implicitDefEqProofs[ap3,eh4,AH.lays_lt (show wb<hB.next by omega),AH.lays_lt (show h.next<hB.next by omega),gB,gBw,splice]
  obtain⟨hC,ehC⟩:∃hC,hC=(hB.lays [.cells [.int .i64 t,.int .i64 xs[t].1.evs.length,.int .i64 e.loc,.int .i64 e.w] false false,.cells (List.flatMap Wr.c w.log++Wr.c ⟨t,xs[t].1.evs.length,e.loc,e.w⟩) true false]).put wb (.cells [lv,iv,tv,.slice (some ⟨nb,0,sp⟩) w.parts.length cap,.slice (some ⟨hB.next+1,0,some 4⟩) (w.log.length+1) (w.log.length+1),kv,fv] g1 false):=⟨_,rfl⟩
  rw[←ehC]
  have nC:hC.next=hB.next+2:=by rw[ehC];simp[AH.put_next]
  have oC:Only [wb] hB hC:=by rw[ehC];exact(Only.refl.lays).put (.inl (by simp))
  have xC:=(Km.only oC (by simp;exact S.iw):Xt (Km hB ms) (Km hC ms))
  have gCn:hC.get nb=.cells ((xs.set t X2).flatMap pwc) g2 false:=by rw[oC.get _ (by omega) (by simp;exact fun q=>S.ne q.symm)];exact gBn
  have S3:SlX 4 (Km hC ms) (w.log.length+1) ((w.log++[(⟨t,xs[t].1.evs.length,e.loc,e.w⟩:Wr)]).flatMap Wr.c) (.slice (some ⟨hB.next+1,0,some 4⟩) (w.log.length+1) (w.log.length+1)):=by
   have fl:=fmk_len wr_len (l:=w.log++[(⟨t,xs[t].1.evs.length,e.loc,e.w⟩:Wr)])
   rw[List.length_append,List.length_singleton]at fl
   refine⟨fl,.inr ⟨hB.next+1,0,some 4,_,_,true,false,rfl,.inr rfl,Nat.le_refl _,by show hB.next+1<hC.next;omega,?_,by rw[fl];omega,by rw[List.drop_zero,List.take_of_length_le (by omega)]⟩⟩
   rw[Km.get (fun m=>by have:=S.lt _ m;omega),ehC,AH.put_get,if_neg (by omega)]
   simp
  have gCw:hC.get wb=.cells [lv,iv,tv,.slice (some ⟨nb,0,sp⟩) w.parts.length cap,.slice (some ⟨hB.next+1,0,some 4⟩) (w.log.length+1) (w.log.length+1),kv,fv] g1 false:=by rw[ehC,AH.put_get,if_pos rfl]
  clear ehC
  refine k hC ((oB'.more (by simp)).trans (oC.more (by simp))) ⟨⟨_,g1,by simpa using gCw,by simp only[addL,hw,if_true,List.length_append,List.length_singleton];exact⟨S3,by simp⟩⟩,⟨_,g2,gCn,eB,fun x hx'=>(PB x hx').xt xC⟩,S.ne,S.iw,S.inb,fun m hm=>by have:=ltB m hm;omega⟩
end Go.Jq
namespace Go.Jq
theorem partA_set{l:List Part}{t s:Nat}{x:Part}(ht:t<l.length):partA (l.set t x) s=if s=t then x else partA l s:=by
 unfold partA
 rw[List.getElem?_set]
 by_cases e:t=s
 ·subst e;simp[ht]
 ·rw[if_neg e,if_neg (fun q=>e q.symm)]
theorem wrA_app{l m:List Wr}{i:Nat}(h:i<l.length):wrA (l++m) i=wrA l i:=by simp[wrA,List.getElem?_append_left h]
theorem wrA_new{l:List Wr}{x:Wr}:wrA (l++[x]) l.length=x:=by simp[wrA]
theorem evA_app{l m:List Ev6}{i:Nat}(h:i<l.length):evA (l++m) i=evA l i:=by simp[evA,List.getElem?_append_left h]
theorem evA_new{l:List Ev6}{x:Ev6}:evA (l++[x]) l.length=x:=by simp[evA]
theorem intA_app{l m:List Int}{i:Nat}(h:i<l.length):intA (l++m) i=intA l i:=by simp[intA,List.getElem?_append_left h]
theorem intA_new{l:List Int}{x:Int}:intA (l++[x]) l.length=x:=by simp[intA]
def begL(th:List Ins):Lcl:=nrm th .zero
def rdsM(evs:List Ev6):List Int:=(evs.filter Ev6.reads).map Ev6.r
def Thru(th:List Ins)(t:Int)(evs:List Ev6)(l:Lcl):Prop:=∀rs,unfM th t (rdsM evs++rs) (begL th) 0=(evs++(unfM th t rs l evs.length).1,(unfM th t rs l evs.length).2)
theorem Thru.zero{th:List Ins}{t:Int}:Thru th t [] (begL th):=fun rs=>by simp[rdsM]
theorem e6_reads{t:Int}{n:Nat}{i:Ins}{l:Lcl}{x:Int}:(e6 t n (evtM i l x)).reads=rdI i:=by
 unfold Ev6.reads e6 evtM rdI
 by_cases k1:i.kind=1
 ·simp[k1]
 ·by_cases k2:i.kind=2
  ·simp[k2]
  ·by_cases k4:i.kind=4
   ·simp only[k1,k2,k4,if_false,if_true]
    simp
    split<;>simp
   ·simp[k1,k2,k4]
theorem e6_r{t:Int}{n:Nat}{i:Ins}{l:Lcl}{x:Int}(h:rdI i=true):(e6 t n (evtM i l x)).r=x:=by
 unfold rdI at h
 simp only[Bool.or_eq_true,decide_eq_true_eq]at h
 unfold e6 evtM
 rcases h with h|h
 ·simp[h]
 ·simp only[h]
  split
  ·simp at*
  ·simp
   split<;>rfl
theorem e6_loc{t:Int}{n:Nat}{i:Ins}{l:Lcl}{x:Int}(h:(e6 t n (evtM i l x)).reads=true∨(e6 t n (evtM i l x)).writes=true):(e6 t n (evtM i l x)).loc=i.loc:=by
 by_cases k1:i.kind=1
 ·simp[e6,evtM,k1]
 ·by_cases k2:i.kind=2
  ·simp[e6,evtM,k1,k2]
  ·by_cases k4:i.kind=4
   ·simp only[e6,evtM,k4]
    simp
    split<;>rfl
   ·exfalso
    simp[e6,evtM,k1,k2,k4,Ev6.reads,Ev6.writes]at h
theorem Thru.read{th:List Ins}{t:Int}{evs:List Ev6}{l:Lcl}{i:Ins}{v:Int}(T:Thru th t evs l)(h:nextM th l=some i)(hk:rdI i=true):Thru th t (evs++[e6 t evs.length (evtM i l v)]) (aftM th l v):=fun rs=>by
 have hk':i.kind=2∨i.kind=4:=by simpa[rdI]using hk
 have e1:rdsM (evs++[e6 t evs.length (evtM i l v)])=rdsM evs++[v]:=by
  unfold rdsM
  rw[List.filter_append,List.map_append]
  congr 1
  rw[List.filter_cons,if_pos (by rw[e6_reads];exact hk)]
  simp[e6_r hk]
 rw[e1,List.append_assoc,T,List.singleton_append,unf_read h hk']
 simp
theorem Thru.on{th:List Ins}{t:Int}{evs:List Ev6}{l:Lcl}{i:Ins}(T:Thru th t evs l)(h:nextM th l=some i)(hk:rdI i=false):Thru th t (evs++[e6 t evs.length (evtM i l 0)]) (aftM th l 0):=fun rs=>by
 have hk':¬(i.kind=2∨i.kind=4):=by simpa[rdI]using hk
 have e1:rdsM (evs++[e6 t evs.length (evtM i l 0)])=rdsM evs:=by
  unfold rdsM
  rw[List.filter_append,List.map_append]
  rw[List.filter_cons,if_neg (by rw[e6_reads,hk];simp)]
  simp
 rw[e1,T,unf_on h hk']
 simp
structure WInv(p:Prg)(w:Wk)(σ:Nat→Nat→Nat)(N:Nat):Prop where
 len:w.parts.length=p.ths.length
 lge:p.init.length≤w.log.length
 l0:∀i,i<p.init.length→wrA w.log i=⟨-1,i,i,intA p.init i⟩
 ent:∀j,p.init.length≤j→j<w.log.length→∃t i:Nat,(wrA w.log j).t=t∧(wrA w.log j).i=i∧t<w.parts.length∧i<(partA w.parts t).evs.length∧(evA (partA w.parts t).evs i).writes=true∧(evA (partA w.parts t).evs i).loc=(wrA w.log j).loc∧(evA (partA w.parts t).evs i).w=(wrA w.log j).val
 evs:∀t,t<w.parts.length→∀i,i<(partA w.parts t).evs.length→(evA (partA w.parts t).evs i).t=t∧(evA (partA w.parts t).evs i).i=i∧((evA (partA w.parts t).evs i).reads=true∨(evA (partA w.parts t).evs i).writes=true→plP p.locs.length (evA (partA w.parts t).evs i).loc)
 slen:∀t,t<w.parts.length→(partA w.parts t).src.length=(partA w.parts t).evs.length
 src:∀t,t<w.parts.length→∀i,i<(partA w.parts t).evs.length→if(evA (partA w.parts t).evs i).reads=true then(∃f:Nat,intA (partA w.parts t).src i=f∧f<w.log.length∧(wrA w.log f).loc=(evA (partA w.parts t).evs i).loc∧(wrA w.log f).val=(evA (partA w.parts t).evs i).r∧∀t' i':Nat,(wrA w.log f).t=t'→(wrA w.log f).i=i'→σ t' i'<σ t i)else intA (partA w.parts t).src i=-1
 mono:∀t i,t<w.parts.length→i+1<(partA w.parts t).evs.length→σ t i<σ t (i+1)
 bnd:∀t i,t<w.parts.length→i<(partA w.parts t).evs.length→σ t i<N
 thru:∀t,t<w.parts.length→Thru (thA p t) t (partA w.parts t).evs (partA w.parts t).l
 pcs:∀t,t<w.parts.length→(partA w.parts t).evs.length≤(partA w.parts t).l.pc
def updS(σ:Nat→Nat→Nat)(t n N:Nat)(a b:Nat):Nat:=if a=t∧b=n then N else σ a b
theorem WInv.same{p:Prg}{w:Wk}{σ:Nat→Nat→Nat}{N t:Nat}{x:Part}(I:WInv p w σ N)(ht:t<w.parts.length)(e1:x.evs=(partA w.parts t).evs)(e2:x.src=(partA w.parts t).src)(e3:x.l=(partA w.parts t).l):WInv p ⟨w.parts.set t x,w.log⟩ σ N:=by
 have E:∀s,(partA (w.parts.set t x) s).evs=(partA w.parts s).evs∧(partA (w.parts.set t x) s).src=(partA w.parts s).src∧(partA (w.parts.set t x) s).l=(partA w.parts s).l:=fun s=>by
  rw[partA_set ht]
  split
  ·rename_i e;subst e;exact⟨e1,e2,e3⟩
  ·exact⟨rfl,rfl,rfl⟩
 constructor
 ·simpa using I.len
 ·exact I.lge
 ·exact I.l0
 ·intro j h1 h2
  obtain⟨t',i',a⟩:=I.ent j h1 h2
  refine⟨t',i',?_⟩
  simpa only[E,List.length_set]using a
 ·simpa only[E,List.length_set]using I.evs
 ·simpa only[E,List.length_set]using I.slen
 ·simpa only[E,List.length_set]using I.src
 ·simpa only[E,List.length_set]using I.mono
 ·simpa only[E,List.length_set]using I.bnd
 ·simpa only[E,List.length_set]using I.thru
 ·simpa only[E,List.length_set]using I.pcs
theorem WInv.add{p:Prg}{w:Wk}{σ:Nat→Nat→Nat}{N t:Nat}{i:Ins}{v src:Int}{x:Part}(I:WInv p w σ N)(ht:t<w.parts.length)(hn:nextM (thA p t) (partA w.parts t).l=some i)
  (hloc:rdI i=true∨(e6 t (partA w.parts t).evs.length (evtM i (partA w.parts t).l v)).writes=true→plP p.locs.length i.loc)
  (hsrc:if rdI i=true then(∃f:Nat,src=f∧f<w.log.length∧(wrA w.log f).loc=i.loc∧(wrA w.log f).val=v)else src=-1∧v=0)
  (e1:x.evs=(addP t (partA w.parts t) (evtM i (partA w.parts t).l v) src).evs)(e2:x.src=(addP t (partA w.parts t) (evtM i (partA w.parts t).l v) src).src)(e3:x.l=aftM (thA p t) (partA w.parts t).l v):
  WInv p ⟨w.parts.set t x,addL t (partA w.parts t) (evtM i (partA w.parts t).l v) w.log⟩ (updS σ t (partA w.parts t).evs.length N) (N+1):=by
 generalize hX:partA w.parts t=X at*
 have E:∀s,partA (w.parts.set t x) s=if s=t then x else partA w.parts s:=fun s=>partA_set ht
 obtain⟨ev,hev⟩:∃ev,ev=e6 t X.evs.length (evtM i X.l v):=⟨_,rfl⟩
 have ex:x.evs=X.evs++[ev]:=by rw[e1,hev];rfl
 have esrc:x.src=X.src++[src]:=e2
 have evt:ev.t=t∧ev.i=X.evs.length:=by rw[hev];exact⟨rfl,rfl⟩
 have er:ev.reads=rdI i:=by rw[hev];exact e6_reads
 have sl:=I.slen t ht
 rw[hX]at sl
 have hL:∃m,addL t X (evtM i X.l v) w.log=w.log++m∧((ev.writes=true∧m=[⟨t,X.evs.length,ev.loc,ev.w⟩])∨(ev.writes=false∧m=[])):=by
  unfold addL
  rw[←hev]
  cases hw:ev.writes with
  | true=>exact⟨_,by rw[if_pos rfl],.inl ⟨rfl,by rw[hev];rfl⟩⟩
  | false=>exact⟨[],by simp,.inr ⟨rfl,rfl⟩⟩
 obtain⟨m,hLe,hm⟩:=hL
 rw[hLe]
 have A:∀s b,b<(partA w.parts s).evs.length→b<(partA (w.parts.set t x) s).evs.length∧evA (partA (w.parts.set t x) s).evs b=evA (partA w.parts s).evs b∧((partA w.parts s).src.length=(partA w.parts s).evs.length→intA (partA (w.parts.set t x) s).src b=intA (partA w.parts s).src b)∧∀n,updS σ t X.evs.length n s b=σ s b:=fun s b hb=>by
  rw[E]
  by_cases e:s=t
  ·subst e
   rw[hX]at hb ⊢
   rw[if_pos rfl,ex,esrc]
   refine⟨by simp;omega,evA_app hb,fun q=>intA_app (by omega),fun n=>?_⟩
   unfold updS
   rw[if_neg (by omega)]
  ·rw[if_neg e]
   refine⟨hb,rfl,fun _=>rfl,fun n=>?_⟩
   unfold updS
   rw[if_neg (by omega)]
 have B:∀s b,b<(partA (w.parts.set t x) s).evs.length→b<(partA w.parts s).evs.length∨(s=t∧b=X.evs.length):=fun s b hb=>by
  rw[E]at hb
  by_cases e:s=t
  ·subst e
   rw[if_pos rfl,ex]at hb
   simp at hb
   rw[hX]
   omega
  ·rw[if_neg e]at hb
   exact .inl hb
 have new:evA (partA (w.parts.set t x) t).evs X.evs.length=ev∧intA (partA (w.parts.set t x) t).src X.evs.length=src∧∀n,updS σ t X.evs.length n t X.evs.length=n:=by
  rw[E,if_pos rfl,ex,esrc]
  refine⟨evA_new,by rw[←sl];exact intA_new,fun n=>by unfold updS;rw[if_pos ⟨rfl,rfl⟩]⟩
 have hb0:X.evs.length<(partA (w.parts.set t x) t).evs.length:=by rw[E,if_pos rfl,ex];simp
 have evloc:ev.reads=true∨ev.writes=true→ev.loc=i.loc:=fun q=>by rw[hev]at q ⊢;exact e6_loc q
 have pc2:=aft_pc (x:=v) hn
 constructor
 ·simpa using I.len
 ·simp;have:=I.lge;omega
 ·intro j hj
  rw[wrA_app (by have:=I.lge;omega)]
  exact I.l0 j hj
 ·intro j h1 h2
  simp only[List.length_append]at h2
  by_cases h3:j<w.log.length
  ·obtain⟨t',i',a1,a2,a3,a4,a5,a6,a7⟩:=I.ent j h1 h3
   obtain⟨b1,b2,_,_⟩:=A t' i' a4
   refine⟨t',i',?_⟩
   simp only[List.length_set]
   rw[wrA_app h3,b2]
   exact⟨a1,a2,a3,b1,a5,a6,a7⟩
  ·rcases hm with⟨hw,rfl⟩|⟨_,rfl⟩
   ·have:j=w.log.length:=by simp at h2;omega
    subst this
    refine⟨t,X.evs.length,?_⟩
    simp only[List.length_set]
    rw[wrA_new,new.1]
    exact⟨rfl,rfl,ht,hb0,hw,rfl,rfl⟩
   ·simp at h2;omega
 ·intro s hs b hb
  simp only[List.length_set]at hs
  rcases B s b hb with q|⟨rfl,rfl⟩
  ·obtain⟨_,b2,_,_⟩:=A s b q
   rw[b2]
   exact I.evs s hs b q
  ·rw[new.1]
   refine⟨evt.1,evt.2,fun q=>?_⟩
   rw[evloc q]
   refine hloc ?_
   rw[er]at q
   rw[←hev];exact q
 ·intro s hs
  simp only[List.length_set]at hs
  rw[E]
  split
  ·rw[ex,esrc];simp[sl]
  ·exact I.slen s hs
 ·intro s hs b hb
  simp only[List.length_set]at hs
  rcases B s b hb with q|⟨rfl,rfl⟩
  ·obtain⟨_,b2,b3,b4⟩:=A s b q
   rw[b2,b3 (I.slen s hs)]
   have:=I.src s hs b q
   split at this
   ·rename_i hr
    rw[if_pos hr]
    obtain⟨f,c1,c2,c3,c4,c5⟩:=this
    refine⟨f,c1,by simp;omega,?_⟩
    rw[wrA_app c2]
    refine⟨c3,c4,fun t' i' d1 d2=>?_⟩
    rw[b4]
    have h5:=c5 t' i' d1 d2
    by_cases h6:p.init.length≤f
    ·obtain⟨t2,i2,d3,d4,d5,d6,_⟩:=I.ent f h6 c2
     have:t2=t':=by omega
     have:i2=i':=by omega
     subst t2 i2
     rw[(A t' i' d6).2.2.2]
     exact h5
    ·have:=I.l0 f (by omega)
     rw[this]at d1
     simp at d1
   ·rename_i hr
    rw[if_neg hr]
    exact this
  ·rw[new.1,new.2.1,er]
   by_cases hk:rdI i=true
   ·rw[if_pos hk]at hsrc ⊢
    obtain⟨f,c1,c2,c3,c4⟩:=hsrc
    refine⟨f,c1,by simp;omega,?_⟩
    rw[wrA_app c2,evloc (.inl (by rw[er];exact hk))]
    refine⟨c3,?_,fun t' i' d1 d2=>?_⟩
    ·rw[hev,e6_r hk,c4]
    ·rw[new.2.2]
     by_cases h6:p.init.length≤f
     ·obtain⟨t2,i2,d3,d4,d5,d6,_⟩:=I.ent f h6 c2
      have:t2=t':=by omega
      have:i2=i':=by omega
      subst t2 i2
      rw[(A t' i' d6).2.2.2]
      exact I.bnd t' i' d5 d6
     ·have:=I.l0 f (by omega)
      rw[this]at d1
      simp at d1
   ·rw[if_neg hk]at hsrc ⊢
    exact hsrc.1
 ·intro s b hs hb
  simp only[List.length_set]at hs
  rcases B s (b+1) hb with q|⟨rfl,q⟩
  ·rw[(A s b (by omega)).2.2.2,(A s (b+1) q).2.2.2]
   exact I.mono s b hs q
  ·rw[q,new.2.2,(A s b (by rw[hX];omega)).2.2.2]
   exact I.bnd s b hs (by rw[hX];omega)
 ·intro s b hs hb
  simp only[List.length_set]at hs
  rcases B s b hb with q|⟨rfl,rfl⟩
  ·rw[(A s b q).2.2.2]
   have:=I.bnd s b hs q
   omega
  ·rw[new.2.2];omega
 ·intro s hs
  simp only[List.length_set]at hs
  rw[E]
  split
  ·rename_i e
   subst e
   have T:=I.thru s hs
   rw[hX]at T
   rw[ex,e3,hev]
   by_cases hk:rdI i=true
   ·exact T.read hn hk
   ·rw[if_neg hk]at hsrc
    have hv:v=0:=hsrc.2
    subst hv
    exact T.on hn (by simpa using hk)
  ·exact I.thru s hs
 ·intro s hs
  simp only[List.length_set]at hs
  rw[E]
  split
  ·rename_i e
   subst e
   have:=I.pcs s hs
   rw[hX]at this
   rw[ex,e3]
   simp
   omega
  ·exact I.pcs s hs
end Go.Jq
namespace Go.Jq
variable {G:Nat→SFunc} {h h0 h1:AH} {R:Value→AH→Prop}
section
variable {ms:List Nat} {wb nb:Nat} {lv iv tv kv fv:Value} {sp:Option Nat} {cap:Nat} {w:Wk}
theorem Wst.ext(S:Wst h ms wb nb lv iv tv kv fv sp cap w)(x:Ext h h1):Wst h1 ms wb nb lv iv tv kv fv sp cap w:=by
 obtain⟨lg,g1,gw,rl⟩:=S.wbk
 obtain⟨xs,g2,gn,ex,px⟩:=S.nbk
 have y:=Km.ext (ms:=ms) x
 exact⟨⟨lg,g1,by rw[x.get _ (S.lt _ S.iw)];exact gw,rl.xt y⟩,⟨xs,g2,by rw[x.get _ (S.lt _ S.inb)];exact gn,ex,fun q hq=>(px q hq).xt y⟩,S.ne,S.iw,S.inb,fun m hm=>Nat.lt_of_lt_of_le (S.lt m hm) x.next⟩
theorem Wst.put(S:Wst h ms wb nb lv iv tv kv fv sp cap w){xs:List (Part×(Value×Value))}{g2:Bool}(ex:xs.map Prod.fst=w.parts)(px:∀x∈xs,PartW (Km h ms) x.1 x.2){t:Nat}(ht:t<xs.length){x x0:Part}{wv:Value×Value}(e:xs[t]=(x0,wv))(e1:x.evs=x0.evs)(e2:x.src=x0.src):
  Wst (h.put nb (.cells ((xs.set t (x,wv)).flatMap pwc) g2 false)) ms wb nb lv iv tv kv fv sp cap ⟨w.parts.set t x,w.log⟩:=by
 obtain⟨lg,g1,gw,rl⟩:=S.wbk
 have kp:∀o,Km (h.put nb o) ms=Km h ms:=fun o=>Km.put S.inb
 refine⟨⟨lg,g1,by rw[AH.put_get,if_neg S.ne];simpa using gw,by rw[kp];exact rl⟩,⟨xs.set t (x,wv),g2,by rw[AH.put_get,if_pos rfl],by rw[List.map_set,ex],fun q hq=>?_⟩,S.ne,S.iw,S.inb,S.lt⟩
 rw[kp]
 rcases List.mem_or_eq_of_mem_set hq with q1|q1
 ·exact px q q1
 ·have:=px _ (List.getElem_mem ht)
  rw[e]at this
  rw[q1]
  exact⟨by simpa[e1]using this.evs,by simpa[e2]using this.src⟩
end
theorem pfacts{xs:List (Part×(Value×Value))}{t:Nat}{x:Part}{wv:Value×Value}(hx:t<xs.length)(e:xs[t]=(x,wv)):
  t*18+18≤(xs.flatMap pwc).length∧(∀j m,j+m≤18→((xs.flatMap pwc).drop (t*18+j)).take m=((x.c wv).drop j).take m)∧
  (∀(j:Nat) (a:Part×(Value×Value)) (vs:List Value),j+vs.length≤18→pwc a=splice (x.c wv) j vs→splice (xs.flatMap pwc) (t*18+j) vs=(xs.set t a).flatMap pwc)∧
  (∀(j:Nat) (a:Part×(Value×Value)) (v:Value),j<18→pwc a=(x.c wv).set j v→(xs.flatMap pwc).set (t*18+j) v=(xs.set t a).flatMap pwc)∧
  ∀j,j<18→(xs.flatMap pwc)[t*18+j]?=(x.c wv)[j]?:=by
 have cl:(xs.flatMap pwc).length=xs.length*18:=fmk_len pwc_len
 have ep:pwc xs[t]=x.c wv:=by rw[e];rfl
 have row:((xs.flatMap pwc).drop (t*18)).take 18=x.c wv:=by rw[fmk_at pwc_len hx,ep]
 refine⟨by rw[cl];omega,fun j m hj=>?_,fun j a vs hj e=>fmk_set pwc_len hx hj (by rw[e,ep]),fun j a v hj e=>fmk_set1 pwc_len hx hj (by rw[e,ep]),fun j hj=>by rw[fmk_get pwc_len hx hj,ep]⟩
 rw[←row,List.drop_take,List.take_take,List.drop_drop,Nat.min_eq_left (by omega)]
theorem put_put{h:AH}{b:Nat}{o o':ABlk}:(h.put b o).put b o'=h.put b o':=AH.ext2 rfl fun i=>by simp only[AH.put];split<;>rfl
def inv61(h:AH)(ms:List Nat)(wb nb:Nat)(lv iv tv kv fv:Value)(sp:Option Nat)(cap:Nat)(w:Wk)(th:List Ins)(t:Nat)(T:Part×List Wr)(mm:Nat)(F:Fr)(hh:AH):Prop:=
 ∃(x:Part) (log:List Wr),mm=th.length-x.l.pc∧Only [wb,nb] h hh∧Wst hh ms wb nb lv iv tv kv fv sp cap ⟨w.parts.set t x,log⟩∧runP th t x log=T∧x.evs.length≤x.l.pc∧x.src.length=x.evs.length∧log.length+(th.length-x.l.pc)≤1000∧
  F=[(0,ptrV wb),(1,.int .i64 t),(4,.pointer (some ⟨nb,t*18,none⟩))]
theorem run_q(g:WalkG G){ms:List Nat}{wb nb:Nat}{lv iv tv kv fv:Value}{sp:Option Nat}{cap:Nat}{w:Wk}{p:Prg}{t n:Nat}{th:List Ins}(S:Wst h ms wb nb lv iv tv kv fv sp cap w)(V:PrgV (Km h ms) p lv iv tv)(ht:t<w.parts.length)(htp:t<p.ths.length)(hth:p.ths[t]=th)(ok:TOk (plP n) th)(hlen:th.length≤900)
  (b1:(partA w.parts t).evs.length≤(partA w.parts t).l.pc)(b2:(partA w.parts t).src.length=(partA w.parts t).evs.length)(b3:w.log.length+(th.length-(partA w.parts t).l.pc)≤1000)
  (k:∀h1,Only [wb,nb] h h1→Wst h1 ms wb nb lv iv tv kv fv sp cap ⟨w.parts.set t (runP th t (partA w.parts t) w.log).1,(runP th t (partA w.parts t) w.log).2⟩→R (.tuple #[]) h1):
  WC G 61 [ptrV wb,.int .i64 t] h R:=by
 obtain⟨lg,g1,gw,rl⟩:=S.wbk
 refine WC_enter g.g61 rfl ?_
 simp -implicitDefEqProofs[c61,c61_body,c61_0,ptrV,gw,ht]
 refine W_loop (inv61 h ms wb nb lv iv tv kv fv sp cap w th t (runP th t (partA w.parts t) w.log)) (th.length-(partA w.parts t).l.pc) ⟨partA w.parts t,w.log,rfl,.refl,?_,rfl,b1,b2,b3,rfl⟩ ?_
 ·have:w.parts.set t (partA w.parts t)=w.parts:=by rw[partA_of ht];simp
  rw[this];exact S
 generalize runP th t (partA w.parts t) w.log=T at*
 rintro mm F hh ⟨x,log,rfl,o,S',hT,b1,b2,b3,rfl⟩
 clear gw rl lg g1
 obtain⟨lg,g1,gw,rl⟩:=S'.wbk
 obtain⟨xs,g2,gn,ex,px⟩:=S'.nbk
 simp only at ex rl
 rw[List.length_set]at gw
 have hx:t<xs.length:=by rw[←List.length_map (f:=Prod.fst) (as:=xs),ex];simpa using ht
 have ext:(xs[t]).1=x:=by
  have:(xs.map Prod.fst)[t]'(by simpa using hx)=xs[t].1:=by simp
  rw[←this]
  simp[ex]
 have nw:=S'.lt _ S'.iw
 have nn:=S'.lt _ S'.inb
 obtain⟨wv,ewv⟩:∃wv,xs[t]=(x,wv):=⟨xs[t].2,by rw[←ext]⟩
 obtain⟨hle,rowN,lcs,lc1,rd1⟩:=pfacts hx ewv
 have rl5:=rowN 2 5 (by omega)
 simp[Part.c,Lcl.c,Ins.c]at rl5
 generalize hcs:xs.flatMap pwc=cs at gn hle rowN lcs lc1 rd1 rl5
 have xk:Xt (Km h ms) (Km hh ms):=Km.only o (by simp[S'.iw,S'.inb])
 have Vh:=(V.xt xk).xt Km.xt
 have lw:∀L,(hh.lays L).get wb=.cells [lv,iv,tv,.slice (some ⟨nb,0,sp⟩) w.parts.length cap,lg,kv,fv] g1 false:=fun L=>by rw[AH.lays_lt nw,gw]
 have ln:∀L,(hh.lays L).get nb=.cells cs g2 false:=fun L=>by rw[AH.lays_lt nn,gn]
 have q0:¬wb=hh.next:=by omega
 have q1:¬nb=hh.next:=by omega
 have q2:¬hh.next=nb:=by omega
 have q3:¬hh.next=wb:=by omega
 simp -implicitDefEqProofs[c61_9,c61_1,c61_1b,ptrV,gw,gn,lw,ln,AH.load,hle,rl5,show t*18+2+5≤cs.length by omega]
 refine Next_q g.toProgG (Vh.ext .lays) htp hth ok ?_
 cases en:nextM th x.l with
 | none=>
  rw[run_none en]at hT
  simp only[nextV,en]
  simp -implicitDefEqProofs[Ins.zero,Ins.v,Ins.c,zi_9,splice,c61_2,c61_3,lw,ln,q0,q1,q2,q3,show t*18+16<cs.length by omega]
  rw[lc1 16 ({ x with more:=false },wv) (.bool false) (by omega) (by simp[pwc,Part.c,Lcl.c,Ins.c])]
  subst hT
  refine k _ (o.lays.put (.inl (by simp))) ?_
  have:=(S'.ext (Ext.lays (L:=[.cells [.int .i64 0,.int .i64 0,.int .i64 0,.int .i64 0,.int .i64 0,.int .i64 0,.int .i64 0,.int .i64 0,.int .i64 0] false false]))).put (g2:=g2) ex (fun q hq=>(px q hq).xt (Km.ext .lays)) hx (x:={ x with more:=false }) ewv rfl rfl
  simpa using this
 | some i=>
  obtain⟨hm,hl,k5,k6⟩:=nextM_mem en
  have oi:=ok.ok i hm
  simp only[nextV,en]
  simp -implicitDefEqProofs[Ins.v,Ins.c,zi_9,splice,c61_2,c61_3,lw,ln,q0,q1,q2,q3,show t*18+16<cs.length by omega]
  rw[lc1 16 ({ x with more:=false },wv) (.bool false) (by omega) (by simp[pwc,Part.c,Lcl.c,Ins.c])]
  have S2:=(S'.ext (Ext.lays (L:=[.cells i.c false false]))).put (g2:=g2) ex (fun q hq=>(px q hq).xt (Km.ext .lays)) hx (x:={ x with more:=false }) ewv rfl rfl
  simp only[List.set_set]at S2
  have o2:Only [wb,nb] h ((hh.lays [.cells i.c false false]).put nb (.cells ((xs.set t ({ x with more:=false },wv)).flatMap pwc) g2 false)):=o.lays.put (.inl (by simp))
  have e2:((hh.lays [.cells i.c false false]).put nb (.cells ((xs.set t ({ x with more:=false },wv)).flatMap pwc) g2 false)).get hh.next=.cells i.c false false:=by rw[AH.put_get,if_neg q2];simp
  have n2:((hh.lays [.cells i.c false false]).put nb (.cells ((xs.set t ({ x with more:=false },wv)).flatMap pwc) g2 false)).next=hh.next+1:=by simp[AH.put_next]
  have ic:i.c=[.int .i64 i.kind,.int .i64 i.reg,.int .i64 i.loc,.int .i64 i.areg,.int .i64 i.aval,.int .i64 i.op,.int .i64 i.breg,.int .i64 i.bval,.int .i64 i.n]:=rfl
  rw[ic]at S2 o2 e2 n2
  generalize eh2:(hh.lays [.cells [.int .i64 i.kind,.int .i64 i.reg,.int .i64 i.loc,.int .i64 i.areg,.int .i64 i.aval,.int .i64 i.op,.int .i64 i.breg,.int .i64 i.bval,.int .i64 i.n] false false]).put nb (.cells ((xs.set t ({ x with more:=false },wv)).flatMap pwc) g2 false)=h2 at*
  have g2n:h2.get nb=.cells ((xs.set t ({ x with more:=false },wv)).flatMap pwc) g2 false:=by rw[←eh2,AH.put_get,if_pos rfl]
  have px2:∀q∈xs.set t ({ x with more:=false },wv),PartW (Km h2 ms) q.1 q.2:=fun q hq=>by
   have kh:Km h2 ms=Km (hh.lays [.cells i.c false false]) ms:=by rw[←eh2];exact Km.put S'.inb
   rw[kh]
   rcases List.mem_or_eq_of_mem_set hq with q1|q1
   ·exact(px q q1).xt (Km.ext .lays)
   ·have:=px _ (List.getElem_mem hx)
    rw[ewv]at this
    rw[q1]
    exact⟨this.evs.xt (Km.ext .lays),this.src.xt (Km.ext .lays)⟩
  clear eh2
  have hx2:t<(xs.set t ({ x with more:=false },wv)).length:=by simpa using hx
  obtain⟨hle2,rowN2,lcs2,lc2,rd2⟩:=pfacts (x:={ x with more:=false }) (wv:=wv) hx2 (by simp)
  have rl52:=rowN2 2 5 (by omega)
  simp[Part.c,Lcl.c,Ins.c]at rl52
  generalize hcs2:(xs.set t ({ x with more:=false },wv)).flatMap pwc=cs2 at g2n hle2 rowN2 lcs2 lc2 rd2 rl52
  simp -implicitDefEqProofs[c61_4,c61_4b,g2n,e2,AH.load,rl52,show t*18+2+5≤cs2.length by omega,AH.lays_lt (show hh.next<h2.next by omega),AH.lays_lt (show nb<h2.next by omega)]
  refine Of_q g.toProgG g.g114 oi ⟨k5,k6⟩ ?_
  simp -implicitDefEqProofs[Evt.v,zi_6,splice,e2,g2n,AH.lays_lt (show hh.next<h2.next by omega),AH.lays_lt (show nb<h2.next by omega),rl52,show t*18+2+5≤cs2.length by omega,c61_5]
  cases hr:rdI i with
  | true=>
   rw[run_read en hr]at hT
   simp -implicitDefEqProofs[c61_6,e2,g2n,AH.load,AH.lays_lt (show hh.next<h2.next by omega),AH.lays_lt (show nb<h2.next by omega),show t*18+7+9≤cs2.length by omega]
   rw[lcs2 7 ({ x with more:=false,need:=i },wv) _ (by simp) (by simp[pwc,Part.c,Lcl.c,Ins.c,splice]),List.set_set]
   obtain⟨hle3,_,_,lc3,_⟩:=pfacts (xs:=xs.set t ({ x with more:=false,need:=i },wv)) (t:=t) (x:={ x with more:=false,need:=i }) (wv:=wv) (by simpa using hx) (by simp)
   rw[lc3 16 ({ x with more:=true,need:=i },wv) _ (by omega) (by simp[pwc,Part.c,Lcl.c,Ins.c]),List.set_set,put_put]
   refine⟨by omega,?_⟩
   subst hT
   refine k _ (o2.lays.put (.inl (by simp))) ?_
   obtain⟨ys,g3,gy,ey,py⟩:=S2.nbk
   have:=(S2.ext (Ext.lays (L:=[.cells [.int .i64 0,.int .i64 0,.int .i64 (evtM i x.l 0).kind,.int .i64 (evtM i x.l 0).loc,.int .i64 (evtM i x.l 0).r,.int .i64 (evtM i x.l 0).w] false false]))).put (g2:=g2) (xs:=xs.set t ({ x with more:=false },wv)) (t:=t) (x:={ x with more:=true,need:=i }) (x0:={ x with more:=false }) (wv:=wv) (by rw[List.map_set,ex];simp) (fun q hq=>(px2 q hq).xt (Km.ext .lays)) hx2 (by simp) rfl rfl
   simp only[List.set_set]at this
   exact this
  | false=>
   rw[run_on en hr]at hT
   simp -implicitDefEqProofs[c61_7]
   have S2e:=S2.ext (Ext.lays (L:=[.cells [.int .i64 0,.int .i64 0,.int .i64 (evtM i x.l 0).kind,.int .i64 (evtM i x.l 0).loc,.int .i64 (evtM i x.l 0).r,.int .i64 (evtM i x.l 0).w] false false]))
   have pe:partA (w.parts.set t { x with more:=false }) t={ x with more:=false }:=by rw[partA_set ht,if_pos rfl]
   refine add_q (e:=evtM i x.l 0) g S2e (by simpa using ht) (by simp only[pe];omega) (by simp only[pe];omega) (by show log.length≤1000;omega) fun h5 o5 S5=>?_
   simp only[pe,List.set_set]at S5
   have o5':=o2.trans ((Ext.lays.only).trans o5)
   obtain⟨lg5,g15,gw5,rl5⟩:=S5.wbk
   obtain⟨zs,g25,gn5,ez,pz⟩:=S5.nbk
   simp only at ez
   rw[List.length_set]at gw5
   have hz:t<zs.length:=by rw[←List.length_map (f:=Prod.fst) (as:=zs),ez];simpa using ht
   obtain⟨x5,ex5⟩:∃x5,x5=addP t { x with more:=false } (evtM i x.l 0) (-1):=⟨_,rfl⟩
   obtain⟨wv5,ewv5⟩:∃wv,zs[t]=(x5,wv):=⟨zs[t].2,by
    have:(zs.map Prod.fst)[t]'(by simpa using hz)=zs[t].1:=by simp
    have e:zs[t].1=x5:=by rw[←this];simp[ez,ex5]
    rw[←e]⟩
   obtain⟨hle5,rowN5,lcs5,_,_⟩:=pfacts hz ewv5
   have xl5:x5.l=x.l:=by rw[ex5];rfl
   have rl55:=rowN5 2 5 (by omega)
   simp[Part.c,Lcl.c,Ins.c,xl5]at rl55
   have n5:=o5.next
   simp at n5
   have nn5:=S5.lt _ S5.inb
   have nw5:=S5.lt _ S5.iw
   have Vh5:=(V.xt (Km.only o5' (by simp[S5.iw,S5.inb]):Xt (Km h ms) (Km h5 ms))).xt Km.xt
   have at5:(x5.c wv5)=wv5.1::wv5.2::(x.l.c++x5.need.c++[.bool x5.more,.int .i64 x5.stale]):=by rw[Part.c,xl5]
   generalize hcs5:zs.flatMap pwc=cs5 at gn5 hle5 rowN5 lcs5 rl55
   simp -implicitDefEqProofs[c61_8,c61_8b,gw5,gn5,AH.load,rl55,show t*18+2+5≤cs5.length by omega]
   refine After_q g.toProgG Vh5 htp hth ok (by omega) ?_
   simp -implicitDefEqProofs[Lcl.v,Lcl.c,gw5,gn5,AH.load,rl55,show t*18+2+5≤cs5.length by omega]
   rw[lcs5 2 ({ x5 with l:=aftM th x.l 0 },wv5) _ (by simp) (by rw[at5];simp[pwc,Part.c,Lcl.c,Ins.c,splice])]
   have pc2:=aft_pc (x:=0) en
   have S6:=S5.put (g2:=g25) (xs:=zs) (t:=t) (x:={ x5 with l:=aftM th x.l 0 }) (x0:=x5) (wv:=wv5) ez pz hz ewv5 rfl rfl
   simp only[List.set_set]at S6
   have la:(addL t { x with more:=false } (evtM i x.l 0) log).length≤log.length+1:=by unfold addL;split<;>simp
   refine⟨th.length-(aftM th x.l 0).pc,by omega,{ x5 with l:=aftM th x.l 0 },addL t { x with more:=false } (evtM i x.l 0) log,rfl,o5'.put (.inl (by simp)),S6,?_,?_,?_,?_,rfl⟩
   ·rw[←hT,ex5];rfl
   ·rw[ex5];simp[addP];omega
   ·rw[ex5];simp[addP];omega
   ·show _+(th.length-(aftM th x.l 0).pc)≤1000
    omega
end Go.Jq
namespace Go.Jq
variable {G:Nat→SFunc} {h h0 h1:AH} {R:Value→AH→Prop}
theorem Wst.at{ms:List Nat}{wb nb:Nat}{lv iv tv kv fv:Value}{sp:Option Nat}{cap:Nat}{w:Wk}(S:Wst h ms wb nb lv iv tv kv fv sp cap w){t:Nat}(ht:t<w.parts.length):
  ∃(xs:List (Part×(Value×Value))) (g2:Bool) (wv:Value×Value),h.get nb=.cells (xs.flatMap pwc) g2 false∧xs.map Prod.fst=w.parts∧(∀x∈xs,PartW (Km h ms) x.1 x.2)∧∃hx:t<xs.length,xs[t]=(partA w.parts t,wv):=by
 obtain⟨xs,g2,gn,ex,px⟩:=S.nbk
 have hx:t<xs.length:=by rw[←List.length_map (f:=Prod.fst) (as:=xs),ex];exact ht
 refine⟨xs,g2,xs[t].2,gn,ex,px,hx,?_⟩
 have:(xs.map Prod.fst)[t]'(by simpa using hx)=xs[t].1:=by simp
 have e:xs[t].1=partA w.parts t:=by rw[←this,partA_of ht];simp[ex]
 rw[←e]
theorem read_q(g:WalkG G){ms:List Nat}{wb nb:Nat}{lv iv tv kv fv:Value}{sp:Option Nat}{cap:Nat}{w:Wk}{p:Prg}{t f n:Nat}{th:List Ins}{x:Part}(S:Wst h ms wb nb lv iv tv kv fv sp cap w)(V:PrgV (Km h ms) p lv iv tv)(ht:t<w.parts.length)(htp:t<p.ths.length)(hth:p.ths[t]=th)(ok:TOk (plP n) th)(hlen:th.length≤900)
  (hx:partA w.parts t=x)(en:nextM th x.l=some x.need)(hr:rdI x.need=true)(hf:f<w.log.length)
  (b1:x.evs.length≤x.l.pc)(b2:x.src.length=x.evs.length)(b3:w.log.length+(th.length-x.l.pc)≤1000)
  (k:∀h1,Only [wb,nb] h h1→Wst h1 ms wb nb lv iv tv kv fv sp cap ⟨w.parts.set t (readP th t x w.log f).1,(readP th t x w.log f).2⟩→R (.tuple #[]) h1):
  WC G 118 [ptrV wb,.int .i64 t,.int .i64 f] h R:=by
 obtain⟨lg,g1,gw,rl⟩:=S.wbk
 obtain⟨xs,g2,wv,gn,ex,px,hx0,ewv⟩:=S.at ht
 rw[hx]at ewv
 obtain⟨hm,hl,k5,k6⟩:=nextM_mem en
 have oi:=ok.ok x.need hm
 have nw:=S.lt _ S.iw
 have nn:=S.lt _ S.inb
 obtain⟨hle,rowN,lcs,lc1,rd1⟩:=pfacts hx0 ewv
 have rl5:=rowN 2 5 (by omega)
 have rl9:=rowN 7 9 (by omega)
 simp[Part.c,Lcl.c,Ins.c]at rl5 rl9
 obtain⟨lga,lgc,rfl⟩:=rl.x.len
 obtain⟨b,o,sp',c0,gg,ro,rfl,hb,hg,hle4,hrow,hrd⟩:=(rl.x.xt Km.xt).view.rd wr_len hf
 have hv:=hrd 3 (by omega)
 have ewr:wrA w.log f=w.log[f]:=wrA_of hf
 rw[←ewr]at hv
 simp[Wr.c]at hv
 generalize hcs:xs.flatMap pwc=cs at gn hle rowN lcs lc1 rd1 rl5 rl9
 generalize hV:(wrA w.log f).val=vv at*
 refine WC_enter g.g118 rfl ?_
 simp -implicitDefEqProofs[c118,c118_body,c118_0,c118_1,c118_2,c118_2b,ptrV,gw,gn,ht,hf,hg,hv,AH.load,rl5,rl9,show t*18+2+5≤cs.length by omega,show t*18+7+9≤cs.length by omega,AH.lays_lt nn,AH.lays_lt nw]
 refine Of_q g.toProgG g.g114 oi ⟨k5,k6⟩ ?_
 simp -implicitDefEqProofs[Evt.v,zi_6,splice,gn,AH.lays_lt nn,AH.lays_lt nw,rl5,rl9,AH.load,show t*18+2+5≤cs.length by omega,show t*18+7+9≤cs.length by omega,c118_3]
 obtain⟨L,hL⟩:∃L,L=[ABlk.cells [.int .i64 0,.int .i64 0,.int .i64 (evtM x.need x.l vv).kind,.int .i64 (evtM x.need x.l vv).loc,.int .i64 (evtM x.need x.l vv).r,.int .i64 (evtM x.need x.l vv).w] false false]:=⟨_,rfl⟩
 rw[←hL]
 refine add_q (e:=evtM x.need x.l vv) g (S.ext Ext.lays) ht (by rw[hx];omega) (by rw[hx];omega) (by omega) fun h5 o5 S5=>?_
 rw[hx]at S5
 have o5':=(Ext.lays.only).trans o5
 obtain⟨lg5,g15,gw5,rl55⟩:=S5.wbk
 obtain⟨zs,g25,wv5,gn5,ez,pz,hz,ewv5⟩:=S5.at (t:=t) (by simpa using ht)
 simp only[partA_set ht,if_true]at ewv5
 rw[List.length_set]at gw5
 obtain⟨hle5,rowN5,lcs5,_,_⟩:=pfacts hz ewv5
 obtain⟨x5,ex5⟩:∃x5,x5=addP t x (evtM x.need x.l vv) f:=⟨_,rfl⟩
 rw[←ex5]at rowN5 lcs5 ewv5
 have xl5:x5.l=x.l:=by rw[ex5];rfl
 have rl57:=rowN5 2 5 (by omega)
 simp[Part.c,Lcl.c,Ins.c,xl5]at rl57
 have nn5:=S5.lt _ S5.inb
 have nw5:=S5.lt _ S5.iw
 have Vh5:=(V.xt (Km.only o5' (by simp[S5.iw,S5.inb]):Xt (Km h ms) (Km h5 ms))).xt Km.xt
 have at5:(x5.c wv5)=wv5.1::wv5.2::(x.l.c++x5.need.c++[.bool x5.more,.int .i64 x5.stale]):=by rw[Part.c,xl5]
 generalize hcs5:zs.flatMap pwc=cs5 at gn5 hle5 rowN5 lcs5 rl57
 simp -implicitDefEqProofs[c118_4,c118_4b,gw5,gn5,AH.load,rl57,show t*18+2+5≤cs5.length by omega]
 refine After_q g.toProgG Vh5 htp hth ok (by omega) ?_
 simp -implicitDefEqProofs[Lcl.v,Lcl.c,gw5,gn5,AH.load,rl57,show t*18+2+5≤cs5.length by omega]
 rw[lcs5 2 ({ x5 with l:=aftM th x.l vv },wv5) _ (by simp) (by rw[at5];simp[pwc,Part.c,Lcl.c,Ins.c,splice])]
 obtain⟨hle6,_,_,lc6,_⟩:=pfacts (xs:=zs.set t ({ x5 with l:=aftM th x.l vv },wv5)) (t:=t) (x:={ x5 with l:=aftM th x.l vv }) (wv:=wv5) (by simpa using hz) (by simp)
 simp -implicitDefEqProofs[c118_5,AH.put_get,-List.length_flatMap]
 refine⟨?_,?_⟩
 ·skip
  omega
 rw[lc6 17 ({ x5 with l:=aftM th x.l vv,stale:=0 },wv5) _ (by omega) (by simp[pwc,Part.c,Lcl.c,Ins.c]),List.set_set,put_put]
 have S6:=S5.put (g2:=g25) (xs:=zs) (t:=t) (x:={ x5 with l:=aftM th x.l vv,stale:=0 }) (x0:=x5) (wv:=wv5) ez pz hz ewv5 rfl rfl
 simp only[List.set_set]at S6
 have o6:=o5'.put (b:=nb) (o:=.cells ((zs.set t ({ x5 with l:=aftM th x.l vv,stale:=0 },wv5)).flatMap pwc) g25 false) (.inl (by simp))
 have pc2:=aft_pc (x:=vv) en
 have la:(addL t x (evtM x.need x.l vv) w.log).length≤w.log.length+1:=by unfold addL;split<;>simp
 simp -implicitDefEqProofs[c118_6]
 refine run_q g S6 (V.xt (Km.only o6 (by simp[S5.iw,S5.inb]))) (by simpa using ht) htp hth ok hlen ?_ ?_ ?_ fun h7 o7 S7=>?_
 ·simp only[partA_set ht,if_true];rw[ex5];simp[addP];omega
 ·simp only[partA_set ht,if_true];rw[ex5];simp[addP];omega
 ·simp only[partA_set ht,if_true];show _+(th.length-(aftM th x.l vv).pc)≤1000;omega
 ·simp -implicitDefEqProofs
  refine k h7 (o6.trans o7) ?_
  simp only[partA_set ht,if_true,List.set_set]at S7
  rw[readP,hV]
  rw[ex5]at S7
  exact S7
end Go.Jq
namespace Go.Jq
variable {G:Nat→SFunc} {h h0 h1:AH} {R:Value→AH→Prop}
structure FlatG(G:Nat→SFunc):Prop extends WalkG G where
 g147:G 147=c147
 g180:G 180=c180
 g223:G 223=c223
 g250:G 250=c250
 g119:G 119=c119
theorem mul1_0(g:FlatG G)(k:R (.tuple #[.int .u64 0,.int .u64 0]) h):WC G 250 [.int .u64 1,.int .u64 0] h R:=by
 refine WC_enter g.g250 rfl ?_
 simp -implicitDefEqProofs[c250,c250_body,c250_0,c250_1,c250_2,c250_3,c250_4,c250_5,c250_6,c250_7,c250_8,c250_9,c250_10,c250_11]
 exact k
theorem mul2_0(g:FlatG G)(k:R (.tuple #[.int .u64 0,.int .u64 0]) h):WC G 223 [.int .u64 1,.int .u64 0] h R:=by
 refine WC_enter g.g223 rfl ?_
 simp -implicitDefEqProofs[c223,c223_body,c223_0,c223_3]
 refine mul1_0 g ?_
 simp -implicitDefEqProofs[c223_4]
 exact k
theorem mul1_1(g:FlatG G)(k:R (.tuple #[.int .u64 0,.int .u64 1]) h):WC G 250 [.int .u64 1,.int .u64 1] h R:=by
 refine WC_enter g.g250 rfl ?_
 simp -implicitDefEqProofs[c250,c250_body,c250_0,c250_1,c250_2,c250_3,c250_4,c250_5,c250_6,c250_7,c250_8,c250_9,c250_10,c250_11]
 exact k
theorem mul2_1(g:FlatG G)(k:R (.tuple #[.int .u64 0,.int .u64 1]) h):WC G 223 [.int .u64 1,.int .u64 1] h R:=by
 refine WC_enter g.g223 rfl ?_
 simp -implicitDefEqProofs[c223,c223_body,c223_0,c223_3]
 refine mul1_1 g ?_
 simp -implicitDefEqProofs[c223_4]
 exact k
theorem mul1_2(g:FlatG G)(k:R (.tuple #[.int .u64 0,.int .u64 2]) h):WC G 250 [.int .u64 1,.int .u64 2] h R:=by
 refine WC_enter g.g250 rfl ?_
 simp -implicitDefEqProofs[c250,c250_body,c250_0,c250_1,c250_2,c250_3,c250_4,c250_5,c250_6,c250_7,c250_8,c250_9,c250_10,c250_11]
 exact k
theorem mul2_2(g:FlatG G)(k:R (.tuple #[.int .u64 0,.int .u64 2]) h):WC G 223 [.int .u64 1,.int .u64 2] h R:=by
 refine WC_enter g.g223 rfl ?_
 simp -implicitDefEqProofs[c223,c223_body,c223_0,c223_3]
 refine mul1_2 g ?_
 simp -implicitDefEqProofs[c223_4]
 exact k
theorem mul1_3(g:FlatG G)(k:R (.tuple #[.int .u64 0,.int .u64 3]) h):WC G 250 [.int .u64 1,.int .u64 3] h R:=by
 refine WC_enter g.g250 rfl ?_
 simp -implicitDefEqProofs[c250,c250_body,c250_0,c250_1,c250_2,c250_3,c250_4,c250_5,c250_6,c250_7,c250_8,c250_9,c250_10,c250_11]
 exact k
theorem mul2_3(g:FlatG G)(k:R (.tuple #[.int .u64 0,.int .u64 3]) h):WC G 223 [.int .u64 1,.int .u64 3] h R:=by
 refine WC_enter g.g223 rfl ?_
 simp -implicitDefEqProofs[c223,c223_body,c223_0,c223_3]
 refine mul1_3 g ?_
 simp -implicitDefEqProofs[c223_4]
 exact k
theorem mul_q(g:FlatG G){n:Nat}(hn:n≤3)(k:R (.tuple #[.int .u64 0,.int .u64 n]) h):WC G 223 [.int .u64 1,.int .u64 n] h R:=by
 have:n=0∨n=1∨n=2∨n=3:=by omega
 rcases this with rfl|rfl|rfl|rfl
 ·exact mul2_0 g k
 ·exact mul2_1 g k
 ·exact mul2_2 g k
 ·exact mul2_3 g k
def GrowR(k:Nat)(h:AH)(lo n:Nat)(cs:List Value)(v:Value):Prop:=
 cs.length=n*k∧((n=0∧v=.slice none 0 0)∨∃b sp g,lo≤b∧b<h.next∧h.get b=.cells cs g false∧(sp=none∨sp=some k)∧v=.slice (some ⟨b,0,sp⟩) n n)
section
variable {k bytes lo n m:Nat} {cs ec:List Value} {v y:Value}
theorem SlG.grow(s:SlG k h lo n cs v):GrowR k h lo n cs v:=by
 obtain⟨s1,s2⟩:=s
 refine⟨s1,?_⟩
 rcases s2 with s2|⟨b,h1,h2,h3,h4⟩
 ·exact .inl s2
 ·exact .inr ⟨b,some k,true,h1,h2,h3,.inr rfl,h4⟩
theorem GrowR.len(s:GrowR k h lo n cs v):∃a,v=.slice a n n:=by
 rcases s.2 with⟨rfl,rfl⟩|⟨b,sp,g,_,_,_,_,rfl⟩
 ·exact⟨_,rfl⟩
 ·exact⟨_,rfl⟩
theorem GrowR.x(s:GrowR k h lo n cs v):SlX k h n cs v:=by
 obtain⟨s1,s2⟩:=s
 refine⟨s1,?_⟩
 rcases s2 with s2|⟨b,sp,g,h1,h2,h3,h4,rfl⟩
 ·exact .inl s2
 ·exact .inr ⟨b,0,sp,n,cs,g,false,rfl,h4,Nat.le_refl _,h2,h3,by omega,by simp[←s1]⟩
theorem GrowR.blk(s:GrowR k h lo n cs v){b:Nat}(hb:blkOf v=some b):lo≤b∧b<h.next:=by
 rcases s.2 with⟨_,rfl⟩|⟨b',sp,g,h1,h2,h3,h4,rfl⟩<;>(simp[blkOf]at hb;try omega)
theorem GrowR.same(s:GrowR k h lo n cs v)(hn:h.next≤h1.next)(hg:∀b,blkOf v=some b→h1.get b=h.get b):GrowR k h1 lo n cs v:=by
 obtain⟨s1,s2⟩:=s
 refine⟨s1,?_⟩
 rcases s2 with s2|⟨b,sp,g,h1,h2,h3,h4,rfl⟩
 ·exact .inl s2
 ·exact .inr ⟨b,sp,g,h1,by omega,by rw[hg b rfl];exact h3,h4,rfl⟩
theorem GrowR.ext(s:GrowR k h lo n cs v)(x:Ext h h1):GrowR k h1 lo n cs v:=s.same x.next fun b hb=>x.get b (s.blk hb).2
theorem GrowR.append(s:GrowR k h lo n cs v)(t:SlX k h m ec y)(hb:(n+m)*bytes≤70368744177664)(hlo:lo≤h.next)(hk:0<k):
  ∃v' h',sappend h k bytes v y=some (v',h')∧GrowR k h' lo (n+m) (cs++ec) v'∧h.next≤h'.next∧(∀x,x<h.next→blkOf v≠some x→h'.get x=h.get x):=by
 have hl:lenOf y=some m∧firstOf h k m y=some ec:=by
  obtain⟨t1,t2⟩:=t
  rcases t2 with⟨rfl,rfl⟩|⟨b,o,sp,c,c0,g,ro,rfl,e6,e7,e2,e3,e4,e5⟩
  ·simp at t1;subst t1;exact⟨rfl,rfl⟩
  ·refine⟨rfl,?_⟩
   show h.load b o (m*k)=some ec
   rw[load_of e3 e4,e5]
 obtain⟨l1,l2⟩:=hl
 have tl:=t.1
 have hgt:¬(n+m)*bytes>70368744177664:=by omega
 obtain⟨s1,s2⟩:=s
 by_cases hm:m=0
 ·have ec0:ec=[]:=List.eq_nil_of_length_eq_zero (by rw[tl,hm];simp)
  refine⟨v,h,?_,by rw[hm,ec0,Nat.add_zero,List.append_nil];exact⟨s1,s2⟩,Nat.le_refl _,fun _ _ _=>rfl⟩
  rcases s2 with⟨rfl,rfl⟩|⟨b,sp,g,h1,h2,h3,h4,rfl⟩
  ·unfold sappend
   simp only[l1,l2]
   rw[if_neg hgt]
   simp[hm]
  ·unfold sappend
   simp only[l1,l2]
   rw[if_neg hgt]
   simp[hm]
 ·rcases s2 with⟨rfl,rfl⟩|⟨b,sp,g,h1,h2,h3,h4,rfl⟩
  ·have cs0:cs=[]:=List.eq_nil_of_length_eq_zero (by rw[s1];simp)
   subst cs0
   refine⟨.slice (some ⟨h.next,0,some k⟩) (0+m) (0+m),h.alloc (.cells ([]++ec) true false),?_,⟨by simp[tl],.inr ⟨h.next,some k,true,hlo,by simp[-AH.alloc_lays],by simp[-AH.alloc_lays],.inr rfl,rfl⟩⟩,by simp,fun x hx _=>by simp[-AH.alloc_lays];omega⟩
   unfold sappend
   simp only[l1,l2]
   rw[if_neg hgt]
   simp[hm]
  ·have hz:h.load b (0:Nat) (n*k)=some cs:=load_all h3 (by omega)
   rcases h4 with rfl|rfl
   ·refine⟨.slice (some ⟨h.next,0,some k⟩) (n+m) (n+m),h.alloc (.cells (cs++ec) true false),?_,⟨by simp[s1,tl,Nat.add_mul],.inr ⟨h.next,some k,true,hlo,by simp[-AH.alloc_lays],by simp[-AH.alloc_lays],.inr rfl,rfl⟩⟩,by simp,fun x hx _=>by simp[-AH.alloc_lays];omega⟩
    unfold sappend
    simp only[l1,l2]
    rw[if_neg hgt,if_neg (by omega)]
    rw[hz,h3]
   ·refine⟨.slice (some ⟨h.next,0,some k⟩) (n+m) (n+m),(h.put b .dead).alloc (.cells (cs++ec) true false),?_,⟨by simp[s1,tl,Nat.add_mul],.inr ⟨h.next,some k,true,hlo,by simp[-AH.alloc_lays],by simp[-AH.alloc_lays],.inr rfl,rfl⟩⟩,by simp,fun x hx hne=>?_⟩
    ·unfold sappend
     simp only[l1,l2]
     rw[if_neg hgt,if_neg (by omega)]
     rw[hz,h3]
     simp
    ·have:x≠b:=by rintro rfl;exact hne rfl
     simp[this,-AH.alloc_lays];omega
end
def inv147(h:AH)(p:Prg)(ia:Option Addr)(ic:Nat)(mm:Nat)(F:Fr)(hh:AH):Prop:=
 ∃(i:Nat) (v:Value),mm=p.init.length-i∧i≤p.init.length∧Ext h hh∧h.next≤hh.next∧SlG 6 hh h.next i (((List.range i).map (iniE p)).flatMap Ev6.c) v∧F=[(3,v),(7,.slice ia p.init.length ic),(8,.int .i64 p.init.length),(9,.int .i64 i)]
theorem Inits_q(g:FlatG G){p:Prg}{lv iv tv:Value}(V:PrgV h p lv iv tv)(hi:p.init.length=p.locs.length)(hl:p.locs.length≤1000)(k:∀h1 v,Ext h h1→SlG 6 h1 h.next (initsM p).length ((initsM p).flatMap Ev6.c) v→R v h1):WC G 147 [.agg #[lv,iv,tv]] h R:=by
 obtain⟨ia,ic,hiv⟩:=V.init.len
 subst hiv
 refine WC_enter g.g147 rfl ?_
 simp -implicitDefEqProofs[c147,c147_body,c147_0,c147_1,c147_2]
 refine W_loop (inv147 h p ia ic) p.init.length ⟨0,_,rfl,by omega,.lays,by simp,SlG.nil,by simp⟩ ?_
 rintro mm F hh ⟨i,v,rfl,hi',x,hn,s,rfl⟩
 simp -implicitDefEqProofs[c147_7,c147_3]
 by_cases h1:i<p.init.length
 ·have w1:IntKind.i64.wrap ((i:Int)+1)=((i+1:Nat):Int):=by rw[wrap64 (by omega)];rfl
  have V1:=(V.ext x).init
  obtain⟨b,o,sp,c0,gg,ro,rfl,hb,hg,hle,hrow,hr⟩:=V1.rd intC_length (i:=i) (by omega)
  have hr0:=hr 0 Nat.one_pos
  have ea:intA p.init i=p.init[i]'(by omega):=by unfold intA;rw[List.getElem?_eq_getElem (by omega)];rfl
  simp[intC,←ea]at hr0
  obtain⟨va,vc,rfl⟩:=s.len
  simp -implicitDefEqProofs[h1,c147_4,hg,hr0,zi_6,splice,c147_5]
  refine SlG.app (s.ext .lays) (ec:=(iniE p i).c) (o:=0) (by simp[AH.load,Ev6.c,iniE]) (by omega) (by omega) (by simp;omega) fun h' s' hn' hg'=>?_
  simp at hn'
  have hx:∀y,y<h.next→h'.get y=hh.get y:=fun y hy=>by
   rw[hg' y (by simp;omega) (fun e=>by have:=s.blk e;omega),AH.lays_lt (by omega)]
  simp -implicitDefEqProofs[c147_6,w1]
  refine⟨p.init.length-(i+1),by omega,i+1,.slice (some ⟨hh.next+1,0,some 6⟩) (i+1) (i+1),rfl,h1,⟨by have:=x.next;omega,fun y hy=>by rw[hx y (by omega)];exact x.get y hy⟩,by omega,?_,by simp⟩
  rw[List.range_succ,List.map_append,List.flatMap_append]
  simpa using s'
 ·have:i=p.init.length:=by omega
  subst this
  simp -implicitDefEqProofs[h1,c147_8]
  refine k _ _ x ?_
  rw[hi]at s
  simpa[initsM]using s
end Go.Jq
namespace Go.Jq
variable {G:Nat→SFunc} {h h0 h1:AH} {R:Value→AH→Prop}
def repC(n m:Nat):List Value:=List.replicate m (.int .i64 (-1))++List.replicate (n-m) (.int .i64 0)
theorem repC_len{n m:Nat}(h:m≤n):(repC n m).length=n:=by simp[repC];omega
theorem repC_next{n m:Nat}(h:m≤n):splice (repC n m) m ((repC n m).take (min m (n-m)))=repC n (m+min m (n-m)):=by
 unfold splice repC
 have e1:(List.replicate m (Value.int .i64 (-1))++List.replicate (n-m) (Value.int .i64 0)).take (min m (n-m))=List.replicate (min m (n-m)) (.int .i64 (-1)):=by
  rw[List.take_append_of_le_length (by simp;omega),List.take_replicate,Nat.min_eq_left (by omega)]
 rw[e1,List.take_append_of_le_length (by simp),List.take_replicate,Nat.min_self,List.length_replicate,List.drop_append,List.drop_of_length_le (by simp),List.nil_append,List.length_replicate,List.drop_replicate,←List.append_assoc,List.replicate_append_replicate]
 congr 2
 omega
def inv180(h:AH)(n:Nat)(mm:Nat)(F:Fr)(hh:AH):Prop:=
 ∃m:Nat,mm=n-m∧m≤n∧(m=0→n=0)∧hh=h.lays [.cells (repC n m) false false]∧F=[(7,.slice (some ⟨h.next,0,none⟩) n n),(8,.int .i64 m)]
theorem Repeat_q(g:FlatG G){n b:Nat}{gg ro:Bool}(hn:n≤3)(hb:b<h.next)(gb:h.get b=.cells [.int .i64 (-1)] gg ro)(k:∀v,GrowR 1 (h.lays [.cells (repC n n) false false]) h.next n (repC n n) v→R v (h.lays [.cells (repC n n) false false])):
  WC G 180 [.slice (some ⟨b,0,none⟩) 1 1,.int .i64 n] h R:=by
 have w1:IntKind.u64.wrap (n:Int)=n:=by
  show(n:Int) % 2^IntKind.u64.bits=n
  rw[show(2:Int)^IntKind.u64.bits=18446744073709551616 from rfl];omega
 have w2:IntKind.i64.wrap (n:Int)=n:=wrap64 (by omega)
 refine WC_enter g.g180 rfl ?_
 simp -implicitDefEqProofs[c180,c180_body,c180_0,c180_1,c180_3,w1,show ¬(n:Int)<0 by omega]
 rw[show IntKind.u64.wrap 1=1 from rfl]
 refine mul_q g hn ?_
 simp -implicitDefEqProofs[c180_4,c180_6,w2,show ¬(9223372036854775807:Int)<n by omega]
 refine⟨by omega,?_⟩
 have r0:List.replicate n (Value.int .i64 0)=repC n 0:=by simp[repC]
 rw[r0]
 have cp:splice (repC n 0) 0 ([Value.int .i64 (-1)].take (min 1 n))=repC n (min 1 n):=by
  have:n=0∨n=1∨n=2∨n=3:=by omega
  rcases this with rfl|rfl|rfl|rfl<;>rfl
 have sc:scopy (h.lays [.cells (repC n 0) false false]) 1 (.slice (some ⟨h.next,0,none⟩) n n) (.slice (some ⟨b,0,none⟩) 1 1)=some (.int .i64 (min 1 n:Nat),h.lays [.cells (repC n (min 1 n)) false false]):=by
  by_cases h0:n=0
  ·subst h0
   simp[scopy,lenOf,firstOf,AH.load,AH.lays_lt hb,gb,repC]
  ·have m1:min 1 n=1:=by omega
   simp only[scopy,lenOf,firstOf,m1,AH.load,AH.lays_lt hb,gb]
   simp only[m1]at cp
   simp[AH.store,repC_len,show 1≤n by omega]
   rw[show List.take 1 [Value.int .i64 (-1)]=[Value.int .i64 (-1)] from rfl]at cp
   rw[cp]
 simp -implicitDefEqProofs[c180_7,sc]
 refine W_loop (inv180 h n) (n-min 1 n) ⟨min 1 n,rfl,by omega,by omega,rfl,by simp⟩ ?_
 rintro mm F hh ⟨m,rfl,hm,hz,rfl,rfl⟩
 simp -implicitDefEqProofs[c180_10,c180_8]
 by_cases h1:m<n
 ·have s1:sslice 1 (some ⟨h.next,0,none⟩) n n (some (.int .i64 m)) none none=some (.slice (some ⟨h.next,m,none⟩) (n-m) (n-m)):=by
   unfold sslice
   rw[sbounds_l,if_pos (by omega)]
   simp[addrAdd,show ¬n=m by omega]
  have s2:sslice 1 (some ⟨h.next,0,none⟩) n n none (some (.int .i64 m)) none=some (.slice (some ⟨h.next,0,none⟩) m n):=by
   unfold sslice
   rw[sbounds_h,if_pos (by omega)]
   simp[addrAdd]
  have s3:scopy (h.lays [.cells (repC n m) false false]) 1 (.slice (some ⟨h.next,m,none⟩) (n-m) (n-m)) (.slice (some ⟨h.next,0,none⟩) m n)=some (.int .i64 (min m (n-m):Nat),h.lays [.cells (repC n (m+min m (n-m))) false false]):=by
   have q:min m (n-m)≠0:=by omega
   simp only[scopy,lenOf,firstOf,AH.load]
   simp[repC_len hm,AH.store,show min m (n-m)≤n by omega,q]
   rw[if_pos (by omega),repC_next hm]
  have w3:IntKind.i64.wrap ((m:Int)+(min m (n-m):Nat))=((m+min m (n-m):Nat):Int):=by rw[wrap64 (by omega)];rfl
  simp -implicitDefEqProofs[h1,c180_9,c180_9b,s1,s2,s3,w3]
  exact⟨n-(m+min m (n-m)),by omega,m+min m (n-m),rfl,by omega,by omega,rfl,by simp⟩
 ·have:m=n:=by omega
  subst this
  simp -implicitDefEqProofs[c180_11]
  refine k _ ⟨by simp[repC_len],.inr ⟨h.next,none,false,Nat.le_refl _,by simp,by simp,.inl rfl,rfl⟩⟩
end Go.Jq
namespace Go.Jq
variable {G:Nat→SFunc} {h h0 h1:AH} {R:Value→AH→Prop}
structure Wrd(h:AH)(wb nb:Nat)(lv iv tv kv fv:Value)(sp:Option Nat)(cap:Nat)(w:Wk):Prop where
 wbk:∃lg g,h.get wb=.cells [lv,iv,tv,.slice (some ⟨nb,0,sp⟩) w.parts.length cap,lg,kv,fv] g false∧RowC 4 h w.log.length (w.log.flatMap Wr.c) lg
 nbk:∃(xs:List (Part×(Value×Value))) (g:Bool),h.get nb=.cells (xs.flatMap pwc) g false∧xs.map Prod.fst=w.parts∧∀x∈xs,PartW h x.1 x.2
 nw:wb<h.next
 nn:nb<h.next
theorem Wst.rd{ms:List Nat}{wb nb:Nat}{lv iv tv kv fv:Value}{sp:Option Nat}{cap:Nat}{w:Wk}(S:Wst h ms wb nb lv iv tv kv fv sp cap w):Wrd h wb nb lv iv tv kv fv sp cap w:=by
 obtain⟨lg,g1,gw,rl⟩:=S.wbk
 obtain⟨xs,g2,gn,ex,px⟩:=S.nbk
 exact⟨⟨lg,g1,gw,rl.xt Km.xt⟩,⟨xs,g2,gn,ex,fun x hx=>(px x hx).xt Km.xt⟩,S.lt _ S.iw,S.lt _ S.inb⟩
theorem Wrd.xt{wb nb:Nat}{lv iv tv kv fv:Value}{sp:Option Nat}{cap:Nat}{w:Wk}(S:Wrd h wb nb lv iv tv kv fv sp cap w)(x:Xt h h1):Wrd h1 wb nb lv iv tv kv fv sp cap w:=by
 obtain⟨lg,g1,gw,rl⟩:=S.wbk
 obtain⟨xs,g2,gn,ex,px⟩:=S.nbk
 exact⟨⟨lg,g1,x.get _ _ _ _ S.nw gw,rl.xt x⟩,⟨xs,g2,x.get _ _ _ _ S.nn gn,ex,fun q hq=>(px q hq).xt x⟩,Nat.lt_of_lt_of_le S.nw x.next,Nat.lt_of_lt_of_le S.nn x.next⟩
theorem Wrd.at{wb nb:Nat}{lv iv tv kv fv:Value}{sp:Option Nat}{cap:Nat}{w:Wk}(S:Wrd h wb nb lv iv tv kv fv sp cap w){t:Nat}(ht:t<w.parts.length):
  ∃(xs:List (Part×(Value×Value))) (g2:Bool) (wv:Value×Value),h.get nb=.cells (xs.flatMap pwc) g2 false∧xs.map Prod.fst=w.parts∧(∀x∈xs,PartW h x.1 x.2)∧∃hx:t<xs.length,xs[t]=(partA w.parts t,wv):=by
 obtain⟨xs,g2,gn,ex,px⟩:=S.nbk
 have hx:t<xs.length:=by rw[←List.length_map (f:=Prod.fst) (as:=xs),ex];exact ht
 refine⟨xs,g2,xs[t].2,gn,ex,px,hx,?_⟩
 have:(xs.map Prod.fst)[t]'(by simpa using hx)=xs[t].1:=by simp
 have e:xs[t].1=partA w.parts t:=by rw[←this,partA_of ht];simp[ex]
 rw[←e]
structure WrOk(T:Nat)(r:Wr):Prop where
 i:0≤r.i∧r.i≤1000
 t:r.t<0∨∃t:Nat,r.t=t∧t<T
structure FlOk(p:Prg)(w:Wk):Prop where
 T:w.parts.length≤4
 n0:(initsM p).length≤3
 ev:∀t,t<w.parts.length→(partA w.parts t).evs.length≤100∧(partA w.parts t).src.length≤100
 src:∀t,t<w.parts.length→∀f∈(partA w.parts t).src,f<0∨∃j:Nat,f=j∧j<w.log.length∧WrOk w.parts.length (wrA w.log j)
def fstL(n0:Nat)(parts:List Part)(t T:Nat):List Int:=(List.range T).map fun i=>if i<t then(firstM n0 parts i:Int)else 0
theorem fstL_at{n0 t T i:Nat}{parts:List Part}(hi:i<T):(fstL n0 parts t T)[i]?=some (if i<t then(firstM n0 parts i:Int)else 0):=by simp[fstL,hi]
theorem fm_map{l:List Int}:l.flatMap intC=l.map (.int .i64):=by
 induction l with
 | nil=>rfl
 | cons a l ih=>rw[List.flatMap_cons,ih];rfl
theorem fstL_zero{n0 T:Nat}{parts:List Part}:(fstL n0 parts 0 T).flatMap intC=List.replicate T (.int .i64 0):=by
 apply List.ext_getElem?
 intro i
 rw[fm_map]
 by_cases hi:i<T
 ·simp[fstL,hi]
 ·simp[fstL,hi]
theorem fstL_set{n0 t T:Nat}{parts:List Part}(ht:t<T):((fstL n0 parts t T).flatMap intC).set t (.int .i64 (firstM n0 parts t))=(fstL n0 parts (t+1) T).flatMap intC:=by
 rw[fm_map,fm_map]
 apply List.ext_getElem?
 intro i
 rw[List.getElem?_set]
 by_cases hi:i<T
 ·by_cases e:t=i
  ·subst e;simp[fstL,ht]
  ·rw[if_neg e]
   simp[fstL,hi]
   by_cases h2:i<t
   ·rw[if_pos h2,if_pos (by omega)]
   ·rw[if_neg h2,if_neg (by omega)]
 ·rw[if_neg (by omega)]
  simp[fstL,hi]
theorem firstM_succ{n0 t:Nat}{parts:List Part}(ht:t<parts.length):firstM n0 parts (t+1)=firstM n0 parts t+(partA parts t).evs.length:=by
 unfold firstM
 rw[List.take_succ_eq_append_getElem ht,partA_of ht,List.map_append,List.sum_append,List.map_singleton,List.sum_singleton]
 omega
theorem firstM_le{n0:Nat}{parts:List Part}(he:∀t,t<parts.length→(partA parts t).evs.length≤100):∀t,t≤parts.length→firstM n0 parts t≤n0+100*t:=by
 intro t
 induction t with
 | zero=>intro _;simp[firstM]
 | succ t ih=>
  intro ht
  rw[firstM_succ (by omega)]
  have:=ih (by omega)
  have:=he t (by omega)
  omega
def flatT(p:Prg)(parts:List Part)(t:Nat):List Ev6:=initsM p++(parts.take t).flatMap Part.evs
theorem flatT_len{p:Prg}{parts:List Part}{t:Nat}:(flatT p parts t).length=firstM (initsM p).length parts t:=by
 unfold flatT firstM
 simp[List.length_flatMap]
theorem flatT_succ{p:Prg}{parts:List Part}{t:Nat}(ht:t<parts.length):flatT p parts (t+1)=flatT p parts t++(partA parts t).evs:=by
 unfold flatT
 rw[List.take_succ_eq_append_getElem ht,partA_of ht,List.flatMap_append,List.append_assoc]
 simp
def invA(h:AH)(p:Prg)(w:Wk)(wb nb fb:Nat)(sp:Option Nat)(cap:Nat)(v5:Value)(mm:Nat)(F:Fr)(hh:AH):Prop:=
 ∃(t:Nat) (v4:Value),mm=w.parts.length-t∧t≤w.parts.length∧Ext h hh∧fb<hh.next∧hh.get fb=.cells ((fstL (initsM p).length w.parts t w.parts.length).flatMap intC) false false∧GrowR 6 hh h.next (flatT p w.parts t).length ((flatT p w.parts t).flatMap Ev6.c) v4∧blkOf v4≠some fb∧GrowR 1 hh h.next (initsM p).length (repC (initsM p).length (initsM p).length) v5∧(∀b,blkOf v5=some b→blkOf v4≠some b)∧
  F=[(0,ptrV wb),(4,v4),(5,v5),(6,.slice (some ⟨fb,0,none⟩) w.parts.length w.parts.length),(33,.slice (some ⟨nb,0,sp⟩) w.parts.length cap),(34,.int .i64 w.parts.length),(35,.int .i64 t)]
def rfT(p:Prg)(w:Wk)(t:Nat):List Int:=List.replicate (initsM p).length (-1)++(w.parts.take t).flatMap fun x=>x.src.map (placeM (initsM p).length w.parts w.log)
theorem rfT_succ{p:Prg}{w:Wk}{t:Nat}(ht:t<w.parts.length):rfT p w (t+1)=rfT p w t++(partA w.parts t).src.map (placeM (initsM p).length w.parts w.log):=by
 unfold rfT
 rw[List.take_succ_eq_append_getElem ht,partA_of ht,List.flatMap_append,List.append_assoc]
 simp
theorem rfT_le{p:Prg}{w:Wk}(he:∀t,t<w.parts.length→(partA w.parts t).src.length≤100):∀t,t≤w.parts.length→(rfT p w t).length≤(initsM p).length+100*t:=by
 intro t
 induction t with
 | zero=>intro _;simp[rfT]
 | succ t ih=>
  intro ht
  rw[rfT_succ (by omega),List.length_append,List.length_map]
  have:=ih (by omega)
  have:=he t (by omega)
  omega
theorem repC_int{n:Nat}:repC n n=(List.replicate n (-1:Int)).flatMap intC:=by rw[fm_map];simp[repC]
def invB(h:AH)(p:Prg)(w:Wk)(wb nb fb:Nat)(sp:Option Nat)(cap:Nat)(v4:Value)(mm:Nat)(F:Fr)(hh:AH):Prop:=
 ∃(t:Nat) (v5:Value),mm=w.parts.length-t∧t≤w.parts.length∧Ext h hh∧fb<hh.next∧hh.get fb=.cells ((fstL (initsM p).length w.parts w.parts.length w.parts.length).flatMap intC) false false∧GrowR 6 hh h.next (flatT p w.parts w.parts.length).length ((flatT p w.parts w.parts.length).flatMap Ev6.c) v4∧GrowR 1 hh h.next (rfT p w t).length ((rfT p w t).flatMap intC) v5∧blkOf v5≠some fb∧(∀b,blkOf v4=some b→blkOf v5≠some b)∧
  F=[(0,ptrV wb),(4,v4),(5,v5),(6,.slice (some ⟨fb,0,none⟩) w.parts.length w.parts.length),(53,.slice (some ⟨nb,0,sp⟩) w.parts.length cap),(54,.int .i64 w.parts.length),(55,.int .i64 t)]
def invC(h:AH)(p:Prg)(w:Wk)(wb nb fb:Nat)(sp:Option Nat)(cap:Nat)(v4:Value)(t:Nat)(X:Part)(sa:Option Addr)(sc:Nat)(mm:Nat)(F:Fr)(hh:AH):Prop:=
 ∃(j:Nat) (v5:Value),mm=X.src.length-j∧j≤X.src.length∧Ext h hh∧fb<hh.next∧hh.get fb=.cells ((fstL (initsM p).length w.parts w.parts.length w.parts.length).flatMap intC) false false∧GrowR 6 hh h.next (flatT p w.parts w.parts.length).length ((flatT p w.parts w.parts.length).flatMap Ev6.c) v4∧
  GrowR 1 hh h.next ((rfT p w t).length+j) ((rfT p w t++(X.src.take j).map (placeM (initsM p).length w.parts w.log)).flatMap intC) v5∧blkOf v5≠some fb∧(∀b,blkOf v4=some b→blkOf v5≠some b)∧
  F=[(0,ptrV wb),(4,v4),(5,v5),(6,.slice (some ⟨fb,0,none⟩) w.parts.length w.parts.length),(53,.slice (some ⟨nb,0,sp⟩) w.parts.length cap),(54,.int .i64 w.parts.length),(55,.int .i64 t),(60,.slice sa X.src.length sc),(61,.int .i64 X.src.length),(62,.int .i64 j)]
theorem flat_q(g:FlatG G){wb nb:Nat}{lv iv tv kv fv:Value}{sp:Option Nat}{cap:Nat}{w:Wk}{p:Prg}(S:Wrd h wb nb lv iv tv kv fv sp cap w)(V:PrgV h p lv iv tv)(hi:p.init.length=p.locs.length)(O:FlOk p w)
  (k:∀h1 ev rv,Ext h h1→GrowR 6 h1 h.next (flatE p w.parts).length ((flatE p w.parts).flatMap Ev6.c) ev→GrowR 1 h1 h.next (flatR p w).length ((flatR p w).flatMap intC) rv→R (.tuple #[ev,rv]) h1):
  WC G 119 [ptrV wb] h R:=by
 obtain⟨lg,g1,gw,rl⟩:=S.wbk
 have nw:=S.nw
 have nn:=S.nn
 have hn0:=O.n0
 have hl:p.locs.length=(initsM p).length:=by simp[initsM]
 refine WC_enter g.g119 rfl ?_
 simp -implicitDefEqProofs[c119,c119_body,c119_0,c119_1,ptrV,gw]
 refine Inits_q g V hi (by omega) fun h1 v4 x1 s4=>?_
 obtain⟨va,vc,rfl⟩:=s4.len
 have gw1:=(x1.get _ nw).trans gw
 simp -implicitDefEqProofs[c119_2]
 refine Repeat_q (gg:=false) (ro:=false) g (n:=(initsM p).length) hn0 (by simp) (by simp) fun v5 s5=>?_
 have n1:=x1.next
 simp -implicitDefEqProofs[c119_3,gw1,AH.lays_lt (show wb<h1.next by omega)]
 refine⟨by have:=O.T;omega,?_⟩
 obtain⟨hA,ehA⟩:∃hA,hA=h1.lays [.cells [.int .i64 (-1)] false false,.cells (repC (initsM p).length (initsM p).length) false false,.cells (List.replicate w.parts.length (.int .i64 0)) false false]:=⟨_,rfl⟩
 rw[←ehA]
 have xA:Ext h1 hA:=by rw[ehA];exact .lays
 have gwA:=(xA.get _ (by omega)).trans gw1
 have fA:hA.get (h1.next+2)=.cells ((fstL (initsM p).length w.parts 0 w.parts.length).flatMap intC) false false:=by rw[ehA,fstL_zero];simp
 have nA:hA.next=h1.next+3:=by rw[ehA];simp
 have s5A:GrowR 1 hA h.next (initsM p).length (repC (initsM p).length (initsM p).length) v5:=by
  have e:hA=(h1.lays [.cells [.int .i64 (-1)] false false,.cells (repC (initsM p).length (initsM p).length) false false]).lays [.cells (List.replicate w.parts.length (.int .i64 0)) false false]:=by rw[ehA];simp
  simp only[AH.lays_lays,List.cons_append,List.nil_append]at s5
  have s5':=s5.ext (h1:=hA) (by rw[e];exact .lays)
  obtain⟨q1,q2⟩:=s5'
  refine⟨q1,?_⟩
  rcases q2 with q2|⟨b,sp,gg,a1,a2⟩
  ·exact .inl q2
  ·exact .inr ⟨b,sp,gg,by simp at a1;omega,a2⟩
 have b5:∀b,blkOf v5=some b→h1.next+1≤b∧b<h1.next+2:=fun b hb=>by have:=s5.blk hb;simp at this;omega
 clear ehA
 simp -implicitDefEqProofs[c119_4,gwA]
 refine W_loop (invA h p w wb nb (h1.next+2) sp cap v5) w.parts.length ⟨0,.slice va (initsM p).length vc,by omega,by omega,x1.trans xA,by omega,fA,?_,?_,s5A,?_,by simp[ptrV]⟩ ?_
 ·simpa[flatT]using (s4.ext xA).grow
 ·intro e;have:=s4.blk e;omega
 ·intro b hb e;have:=s4.blk e;have:=b5 b hb;omega
 have lf:∀t,((fstL (initsM p).length w.parts t w.parts.length).flatMap intC).length=w.parts.length:=fun t=>by rw[fm_map];simp[fstL]
 rintro mm F hh ⟨t,v4,rfl,ht,x,hfb,gf,s4,n4,s5,n5,rfl⟩
 obtain⟨va,rfl⟩:=s4.len
 have gnh:∀L,(hh.lays L).get nb=h.get nb:=fun L=>by rw[AH.lays_lt (by have:=x.next;omega),x.get _ nn]
 simp -implicitDefEqProofs[c119_10,c119_5,ptrV]
 by_cases h1t:t<w.parts.length
 ·have w1:IntKind.i64.wrap ((t:Int)+1)=((t+1:Nat):Int):=by rw[wrap64 (by have:=O.T;omega)];rfl
  obtain⟨xs,g2,wv,gn,ex,px,hx,ewv⟩:=S.at h1t
  obtain⟨X,hX⟩:∃X,X=partA w.parts t:=⟨_,rfl⟩
  rw[←hX]at ewv
  obtain⟨hle,rowN,lcs,lc1,rd1⟩:=pfacts hx ewv
  have row:=rowN 0 18 (by omega)
  rw[Nat.add_zero,List.drop_zero,List.take_of_length_le (l:=X.c wv) (by rw[Part.c_len];omega)]at row
  have pe:=px _ (List.getElem_mem hx)
  rw[ewv]at pe
  have gnx:hh.get nb=.cells (xs.flatMap pwc) g2 false:=by rw[x.get _ nn];exact gn
  generalize hcs:xs.flatMap pwc=cs at gn gnx hle rowN lcs lc1 rd1 row
  obtain⟨c18,h18⟩:∃c18,c18=X.c wv:=⟨_,rfl⟩
  have c18l:c18.length=18:=by rw[h18];exact Part.c_len _ _
  have c180:c18[0]?=some wv.1:=by rw[h18];simp[Part.c]
  rw[←h18]at row
  simp -implicitDefEqProofs[h1t,c119_6,gnx,AH.load,hle,row,splice,c18l,List.take_of_length_le,c119_7,AH.lays_lt hfb,gf,h1t,lf,-List.length_flatMap]
  have hsv:=fstL_set (n0:=(initsM p).length) (parts:=w.parts) h1t
  rw[flatT_len,hsv]
  obtain⟨hB,ehB⟩:∃hB,hB=(hh.lays [.cells c18 false false]).put (h1.next+2) (.cells ((fstL (initsM p).length w.parts (t+1) w.parts.length).flatMap intC) false false):=⟨_,rfl⟩
  rw[←ehB]
  have nB:hB.next=hh.next+1:=by rw[ehB];simp[AH.put_next]
  have gB:∀b,b<hh.next→b≠h1.next+2→hB.get b=hh.get b:=fun b hb hn=>by rw[ehB,AH.put_get,if_neg hn,AH.lays_lt hb]
  have gB8:hB.get hh.next=.cells c18 false false:=by rw[ehB,AH.put_get,if_neg (by omega)];simp
  have gBf:hB.get (h1.next+2)=.cells ((fstL (initsM p).length w.parts (t+1) w.parts.length).flatMap intC) false false:=by rw[ehB,AH.put_get,if_pos rfl]
  clear ehB
  have xB:Ext h hB:=⟨by have:=x.next;omega,fun b hb=>by rw[gB b (by have:=x.next;omega) (by omega)];exact x.get b hb⟩
  have s4B:=s4.same (h1:=hB) (by omega) fun b hb=>gB b (s4.blk hb).2 fun e=>n4 (e▸hb)
  have s5B:=s5.same (h1:=hB) (by omega) fun b hb=>gB b (s5.blk hb).2 fun e=>by have:=b5 b hb;omega
  have peB:SlX 6 hB X.evs.length (X.evs.flatMap Ev6.c) wv.1:=pe.evs.x.ext xB
  have oe:=(O.ev t h1t).1
  rw[←hX]at oe
  have fl:=flatT_len (p:=p) (parts:=w.parts) (t:=t)
  have fle:=firstM_le (n0:=(initsM p).length) (fun t ht=>(O.ev t ht).1) t ht
  have hT:=O.T
  rw[fl]at s4B
  obtain⟨v4',hC,ap,s4C,nC,gC⟩:=s4B.append (bytes:=48) peB (by omega) (by have:=x.next;omega) (by omega)
  simp -implicitDefEqProofs[c119_8,gB8,c180,ap,c119_9,w1]
  have ab:=fun x (hx:blkOf v4'=some x)=>append_blk ap hx
  refine⟨w.parts.length-(t+1),by omega,t+1,v4',rfl,h1t,⟨by have:=x.next;omega,fun b hb=>?_⟩,by omega,?_,?_,?_,?_,?_,by simp[ptrV]⟩
  ·rw[gC b (by have:=x.next;omega) fun e=>by have:=s4B.blk e;omega]
   exact xB.get b hb
  ·rw[gC _ (by omega) (by rw[←fl];exact n4)];exact gBf
  ·rw[flatT_succ h1t,List.length_append,List.flatMap_append,fl,←hX]
   exact s4C
  ·intro e
   rcases ab _ e with q|q
   ·exact n4 (by rw[fl];exact q)
   ·omega
  ·refine s5B.same nC fun b hb=>gC b (by have:=s5B.blk hb;omega) (by rw[←fl];exact n5 b hb)
  ·intro b hb e
   rcases ab _ e with q|q
   ·exact n5 b hb (by rw[fl];exact q)
   ·have:=b5 b hb;omega
 ·have:t=w.parts.length:=by omega
  subst this
  have gwh:hh.get wb=.cells [lv,iv,tv,.slice (some ⟨nb,0,sp⟩) w.parts.length cap,lg,kv,fv] g1 false:=by rw[x.get _ nw];exact gw
  obtain⟨v4,hv4⟩:∃v4,v4=Value.slice va (flatT p w.parts w.parts.length).length (flatT p w.parts w.parts.length).length:=⟨_,rfl⟩
  rw[←hv4]at s4 n4 n5 ⊢
  simp -implicitDefEqProofs[h1t,c119_11,gwh]
  refine W_loop (invB h p w wb nb (h1.next+2) sp cap v4) w.parts.length ⟨0,v5,by omega,by omega,x,hfb,gf,s4,?_,?_,fun b hb e=>n5 b e hb,by simp[ptrV]⟩ ?_
  ·have:rfT p w 0=List.replicate (initsM p).length (-1):=by simp[rfT]
   rw[this,←repC_int,List.length_replicate]
   exact s5
  ·intro e;have:=b5 _ e;omega
  clear gf s5 n5 hfb gwh n4
  rintro mm F h3 ⟨t,v5,rfl,ht,x3,hfb,gf,s4,s5,n5,n4,rfl⟩
  obtain⟨va5,rfl⟩:=s5.len
  simp -implicitDefEqProofs[c119_27,c119_12,ptrV]
  by_cases h1t:t<w.parts.length
  ·have w1:IntKind.i64.wrap ((t:Int)+1)=((t+1:Nat):Int):=by rw[wrap64 (by have:=O.T;omega)];rfl
   obtain⟨xs,g2,wv,gn,ex,px,hx,ewv⟩:=S.at h1t
   obtain⟨X,hX⟩:∃X,X=partA w.parts t:=⟨_,rfl⟩
   rw[←hX]at ewv
   obtain⟨hle,rowN,lcs,lc1,rd1⟩:=pfacts hx ewv
   have row:=rowN 0 18 (by omega)
   rw[Nat.add_zero,List.drop_zero,List.take_of_length_le (l:=X.c wv) (by rw[Part.c_len];omega)]at row
   have pe:=px _ (List.getElem_mem hx)
   rw[ewv]at pe
   have gnx:h3.get nb=.cells (xs.flatMap pwc) g2 false:=by rw[x3.get _ nn];exact gn
   generalize hcs:xs.flatMap pwc=cs at gn gnx hle rowN lcs lc1 rd1 row
   obtain⟨c18,h18⟩:∃c18,c18=X.c wv:=⟨_,rfl⟩
   have c18l:c18.length=18:=by rw[h18];exact Part.c_len _ _
   obtain⟨sa,sc,hsv⟩:=pe.src.x.len
   have c181:c18[1]?=some (.slice sa X.src.length sc):=by rw[h18];simp only[Part.c];simpa using hsv
   have c181':c18[1]'(by omega)=.slice sa X.src.length sc:=by
    rw[List.getElem?_eq_getElem (by omega)]at c181
    exact Option.some.inj c181
   have peS:SlX 1 h X.src.length (X.src.flatMap intC) (.slice sa X.src.length sc):=by
    have:=pe.src.x
    rw[hsv]at this
    exact this
   rw[←h18]at row
   simp -implicitDefEqProofs[h1t,c119_13,gnx,AH.load,hle,row,splice,c18l,List.take_of_length_le,c119_14,c181,c181']
   refine W_loop (invC h p w wb nb (h1.next+2) sp cap v4 t X sa sc) X.src.length ⟨0,.slice va5 (rfT p w t).length (rfT p w t).length,rfl,by omega,x3.trans (Ext.lays (L:=[.cells c18 false false])),by simp;omega,by rw[AH.lays_lt hfb];exact gf,s4.ext .lays,by simpa using s5.ext .lays,n5,n4,rfl⟩ ?_
   clear gf s4 s5 n5 n4 hfb gnx
   rintro mm F h4 ⟨j,v5,rfl,hj,x4,hfb,gf,s4,s5,n5,n4,rfl⟩
   obtain⟨va5,rfl⟩:=s5.len
   simp -implicitDefEqProofs[c119_25,c119_15,ptrV]
   by_cases h2j:j<X.src.length
   ·have w2:IntKind.i64.wrap ((j:Int)+1)=((j+1:Nat):Int):=by rw[wrap64 (by have:=(O.ev t h1t).2;rw[←hX]at this;omega)];rfl
    obtain⟨b,o,sp',c0,gg,ro,rfl,hb,hg,hle',hrow,hrd⟩:=peS.view.rd intC_length h2j
    have hv:=hrd 0 Nat.one_pos
    simp[intC]at hv
    have hg4:h4.get b=.cells c0 gg ro:=by rw[x4.get _ hb];exact hg
    obtain⟨f,hf⟩:∃f,f=X.src[j]:=⟨_,rfl⟩
    rw[←hf]at hv
    have hTm:X.src≠[]:=by intro e;rw[e]at h2j;simp at h2j
    have Of:=O.src t h1t f (by rw[←hX,hf];exact List.getElem_mem h2j)
    have Oe:=O.ev t h1t
    have hT:=O.T
    rw[←hX]at Oe
    have rle:=rfT_le (p:=p) (w:=w) (fun t ht=>(O.ev t ht).2) t ht
    simp -implicitDefEqProofs[h2j,c119_16,hg4,hv,c119_17,c119_18]
    generalize hK:blockK 5 _=K
    have tail:∀pl,placeM (initsM p).length w.parts w.log f=pl→W G (SCode.reg [0,4,5,6,53,54,55,60,61,62] c119_23) [(0,ptrV wb),(4,v4),(5,.slice va5 ((rfT p w t).length+j) ((rfT p w t).length+j)),(6,.slice (some ⟨h1.next+2,0,none⟩) w.parts.length w.parts.length),(13,.int .i64 pl),(53,.slice (some ⟨nb,0,sp⟩) w.parts.length cap),(54,.int .i64 w.parts.length),(55,.int .i64 t),(60,.slice (some ⟨b,o,sp'⟩) X.src.length sc),(61,.int .i64 X.src.length),(62,.int .i64 j)] h4 K:=by
     intro pl hpl
     subst hK
     obtain⟨v5',hC,ap,s5C,nC,gC⟩:=(s5.ext (Ext.lays (L:=[.cells [.int .i64 pl] false false]))).append (m:=1) (bytes:=8) (y:=.slice (some ⟨h4.next,0,none⟩) 1 1) (ec:=[.int .i64 pl]) ⟨rfl,.inr ⟨h4.next,0,none,1,[.int .i64 pl],false,false,rfl,.inl rfl,Nat.le_refl _,by simp,by simp,by simp,by simp⟩⟩ (by omega) (by simp;have:=x4.next;omega) (by omega)
     have ab:=fun x (hx:blkOf v5'=some x)=>append_blk ap hx
     simp -implicitDefEqProofs[c119_23,ptrV,ap,c119_24,w2]
     have nxt:=x4.next
     simp at nC
     have gC':∀y,y<h4.next→blkOf (.slice va5 ((rfT p w t).length+j) ((rfT p w t).length+j))≠some y→hC.get y=h4.get y:=fun y hy hn=>by rw[gC y (by simp;omega) hn,AH.lays_lt hy]
     refine⟨X.src.length-(j+1),by omega,j+1,v5',rfl,h2j,⟨by omega,fun b hb=>?_⟩,by omega,?_,?_,?_,?_,?_,by simp[ptrV]⟩
     ·rw[gC' b (by omega) fun e=>by have:=s5.blk e;omega]
      exact x4.get b hb
     ·rw[gC' _ (by omega) n5];exact gf
     ·exact s4.same (by omega) fun b hb=>gC' b (s4.blk hb).2 (n4 b hb)
     ·rw[List.take_succ_eq_append_getElem h2j,List.map_append,←List.append_assoc,List.flatMap_append,←hf,List.map_singleton,hpl]
      exact s5C
     ·intro e
      rcases ab _ e with q|q
      ·exact n5 q
      ·simp at q;omega
     ·intro b hb e
      rcases ab _ e with q|q
      ·exact n4 b hb q
      ·simp at q;have:=s4.blk hb;omega
    generalize eQ:branchK G _ _ _ _ _ _=Q
    by_cases f0:0≤f
    ·obtain⟨fn,rfl,hfl,wo⟩:∃fn:Nat,f=fn∧fn<w.log.length∧WrOk w.parts.length (wrA w.log fn):=by
      rcases Of with q|q
      ·omega
      ·exact q
     have gw4:h4.get wb=.cells [lv,iv,tv,.slice (some ⟨nb,0,sp⟩) w.parts.length cap,lg,kv,fv] g1 false:=by rw[x4.get _ nw];exact gw
     obtain⟨lga,lgc,rfl⟩:=rl.x.len
     obtain⟨bl,ol,spl,cl,gl,rol,rfl,hbl,hgl,hlel,hrowl,hrdl⟩:=(rl.x.ext x4).view.rd wr_len hfl
     have ewr:wrA w.log fn=w.log[fn]:=wrA_of hfl
     rw[←ewr]at hrdl
     have hv0:=hrdl 0 (by omega)
     have hv1:=hrdl 1 (by omega)
     simp[Wr.c]at hv0 hv1
     unfold placeM at tail
     rw[if_neg (by omega),show((fn:Int)).toNat=fn by omega]at tail
     obtain⟨wi,wt⟩:=wo
     generalize wrA w.log fn=r at*
     obtain⟨rt,ri,rloc,rval⟩:=r
     simp only at wi wt tail hv0 hv1
     rcases wt with wt|⟨tn,rfl,wt⟩
     ·rw[if_pos wt]at tail
      subst eQ
      simp -implicitDefEqProofs[f0,c119_19,c119_20,c119_21,gw4,hfl,hgl,hv0,hv1,show ¬0≤rt by omega]
      exact tail _ rfl
     ·rw[if_neg (by omega),show((tn:Int)).toNat=tn by omega]at tail
      have ft:((fstL (initsM p).length w.parts w.parts.length w.parts.length).flatMap intC)[tn]?=some (.int .i64 (firstM (initsM p).length w.parts tn)):=by
       rw[fm_map,List.getElem?_map,fstL_at wt,if_pos wt];rfl
      have fle:=firstM_le (n0:=(initsM p).length) (fun t ht=>(O.ev t ht).1) tn (by omega)
      have w3:IntKind.i64.wrap (ri+(firstM (initsM p).length w.parts tn:Nat))=ri+(firstM (initsM p).length w.parts tn:Nat):=wrap64 (by omega)
      subst eQ
      simp -implicitDefEqProofs[f0,c119_19,c119_20,c119_21,c119_22,gw4,hfl,hgl,hv0,hv1,wt,gf,ft,w3]
      exact tail _ rfl
    ·subst eQ
     simp -implicitDefEqProofs[f0]
     exact tail (-1) (by unfold placeM;rw[if_pos (by omega)])
   ·have:j=X.src.length:=by omega
    subst this
    simp -implicitDefEqProofs[h2j,c119_26,w1]
    refine⟨w.parts.length-(t+1),by omega,t+1,_,rfl,h1t,x4,hfb,gf,s4,?_,n5,n4,by simp[ptrV]⟩
    rw[rfT_succ h1t,←hX]
    rw[List.take_length]at s5
    simpa using s5
  ·have:t=w.parts.length:=by omega
   subst this
   simp -implicitDefEqProofs[h1t,c119_28]
   have eE:flatT p w.parts w.parts.length=flatE p w.parts:=by unfold flatT flatE;rw[List.take_length]
   have eR:rfT p w w.parts.length=flatR p w:=by unfold rfT flatR;rw[List.take_length]
   rw[eE]at s4
   rw[eR]at s5 ⊢
   exact k _ _ _ x3 s4 s5
end Go.Jq
namespace Go.Jq
variable {G:Nat→SFunc} {h h0 h1:AH} {R:Value→AH→Prop}
structure PrgX(h:AH)(p:Prg)(lv iv tv:Value):Prop where
 locs:SlX 1 h p.locs.length (p.locs.flatMap bytC) lv
 init:SlX 1 h p.init.length (p.init.flatMap intC) iv
 ths:NestX Ins.c 9 h p.ths tv
theorem PrgX.v{p:Prg}{lv iv tv:Value}(V:PrgX h p lv iv tv):PrgV h p lv iv tv:=by
 obtain⟨a,b,tvs,c,d⟩:=V
 exact⟨a.view,b.view,tvs,c.view,d.imp fun _ _ _ _ e=>e.view⟩
theorem PrgX.xt{p:Prg}{lv iv tv:Value}(V:PrgX h p lv iv tv)(x:Xt h h1):PrgX h1 p lv iv tv:=⟨V.locs.xt x,V.init.xt x,V.ths.xt x⟩
theorem PrgS.px{lo:Nat}{p:Prg}{lv iv tv:Value}(s:PrgS h lo p lv iv tv):PrgX h p lv iv tv:=by
 obtain⟨a,b,tvs,c,d⟩:=s
 exact⟨a.x,b.x,tvs,c.x,d.imp fun _ _ _ _ e=>e.x⟩
structure HopeG(G:Nat→SFunc):Prop extends FlatG G where
 g171:G 171=c171
 g108:G 108=c108
 g181:G 181=c181
 g120:G 120=c120
theorem ins_len(i:Ins):i.c.length=9:=rfl
theorem IndexFunc_n(g171:G 171=c171){l:List Ins}{v:Value}{fn:Nat}{caps:List Value}{P:Ins→Bool}(s:SlV 9 h l.length (l.flatMap Ins.c) v)(hl:l.length≤9223372036854775806)
  (hf:∀(x:Ins) (R:Value→AH→Prop),x∈l→R (.bool (P x)) h→WC G fn (x.v::caps) h R)(k:R (.int .i64 (idxF P l)) h):WC G 171 [v,.func (.func fn) #[] caps.toArray] h R:=by
 obtain⟨a,c,rfl⟩:=s.len
 refine WC_enter g171 rfl ?_
 simp -implicitDefEqProofs[c171,c171_body,c171_0,c171_1]
 refine W_loop (invIx h (.slice a l.length c) (.func (.func fn) #[] caps.toArray) P l) l.length ⟨0,rfl,by omega,fun _ _ h=>by omega,rfl,rfl⟩ ?_
 rintro mm F hh ⟨j,rfl,hj,hno,rfl,rfl⟩
 simp -implicitDefEqProofs[c171_7,c171_2]
 by_cases h1:j<l.length
 ·obtain⟨b,o,sp,c0,gg,ro,rfl,hb,hg,hle,hrow,hr⟩:=s.rd ins_len h1
  have w1:IntKind.i64.wrap ((j:Int)+1)=((j+1:Nat):Int):=by rw[wrap64 (by omega)];rfl
  simp -implicitDefEqProofs[h1,c171_3,c171_4,hg,AH.load,hle,hrow]
  refine hf _ _ (List.getElem_mem h1) ?_
  cases e:P l[j]with
  | true=>
   simp -implicitDefEqProofs[c171_5]
   rw[idxF_at h1 e fun i hi=>hno i (by omega) hi]at k
   exact k
  | false=>
   simp -implicitDefEqProofs[c171_6,w1]
   refine⟨l.length-(j+1),by omega,j+1,rfl,by omega,fun i hi h2=>?_,rfl,by simp⟩
   by_cases ei:i=j
   ·subst ei;exact e
   ·exact hno i hi (by omega)
 ·simp -implicitDefEqProofs[h1,c171_8]
  rw[idxF_none fun i hi=>hno i hi (by omega)]at k
  exact k
theorem Contains_n(g171:G 171=c171)(g108:G 108=c108){l:List Ins}{v:Value}{fn:Nat}{caps:List Value}{P:Ins→Bool}(s:SlV 9 h l.length (l.flatMap Ins.c) v)(hl:l.length≤9223372036854775806)
  (hf:∀(x:Ins) (R:Value→AH→Prop),x∈l→R (.bool (P x)) h→WC G fn (x.v::caps) h R)(k:R (.bool (l.any P)) h):WC G 108 [v,.func (.func fn) #[] caps.toArray] h R:=by
 refine WC_enter g108 rfl ?_
 simp -implicitDefEqProofs[c108,c108_body,c108_0,c108_1]
 refine IndexFunc_n g171 s hl hf ?_
 simp -implicitDefEqProofs[idxF_any]
 exact k
theorem hope1(g:HopeG G){i:Ins}{b:Nat}{loc:Int}{gg ro:Bool}(hb:b<h.next)(gb:h.get b=.cells [.int .i64 loc] gg ro)(k:R (.bool (wrI loc i)) h):WC G 181 [i.v,.pointer (some ⟨b,0,none⟩)] h R:=by
 have key:∀q,wrI loc i=q→R (.bool q) h:=fun q e=>e▸k
 refine WC_pure (WC_enter g.g181 rfl ?_)
 unfold wrI at key
 by_cases k1:i.kind=1
 ·by_cases kl:i.loc=loc
  ·simp -implicitDefEqProofs[c181,c181_body,c181_0,c181_1,Ins.v,Ins.c,k1,kl,AH.lays_lt hb,gb,Ext.lays]
   exact key _ (by simp[k1,kl])
  ·simp -implicitDefEqProofs[c181,c181_body,c181_0,c181_1,Ins.v,Ins.c,k1,kl,AH.lays_lt hb,gb,Ext.lays]
   exact key _ (by simp[k1,kl])
 ·by_cases k4:i.kind=4
  ·by_cases kl:i.loc=loc
   ·simp -implicitDefEqProofs[c181,c181_body,c181_0,c181_1,Ins.v,Ins.c,k1,k4,kl,AH.lays_lt hb,gb,Ext.lays]
    exact key _ (by simp[k4,kl])
   ·simp -implicitDefEqProofs[c181,c181_body,c181_0,c181_1,Ins.v,Ins.c,k1,k4,kl,AH.lays_lt hb,gb,Ext.lays]
    exact key _ (by simp[k4,kl])
  ·simp -implicitDefEqProofs[c181,c181_body,c181_0,c181_1,Ins.v,Ins.c,k1,k4,AH.lays_lt hb,gb,Ext.lays]
   exact key _ (by simp[k1,k4])
theorem fmk_drop{α:Type}{f:α→List Value}{k:Nat}(hf:∀a,(f a).length=k){l:List α}{i:Nat}:(l.flatMap f).drop (i*k)=(l.drop i).flatMap f:=by
 induction i generalizing l with
 | zero=>simp
 | succ i ih=>
  cases l with
  | nil=>simp
  | cons a l=>rw[List.flatMap_cons,List.drop_succ_cons,←ih,show(i+1)*k=(f a).length+i*k by rw[Nat.succ_mul,hf];omega,List.drop_append,List.drop_of_length_le (by omega),List.nil_append,Nat.add_sub_cancel_left]
def inv120(h:AH)(p:Prg)(w:Wk)(wb nb:Nat)(sp:Option Nat)(cap:Nat)(t:Nat)(loc:Int)(mm:Nat)(F:Fr)(hh:AH):Prop:=
 ∃j:Nat,mm=w.parts.length-j∧j≤w.parts.length∧Ext h hh∧h.next<hh.next∧hh.get h.next=.cells [.int .i64 loc] false false∧(∀i,i<j→hopeB p w.parts t loc i=false)∧
  F=[(0,ptrV wb),(1,.int .i64 t),(5,.pointer (some ⟨h.next,0,none⟩)),(12,.slice (some ⟨nb,0,sp⟩) w.parts.length cap),(13,.int .i64 w.parts.length),(14,.int .i64 j)]
theorem hopes_q(g:HopeG G){wb nb:Nat}{lv iv tv kv fv:Value}{sp:Option Nat}{cap:Nat}{w:Wk}{p:Prg}{t:Nat}{loc:Int}(S:Wrd h wb nb lv iv tv kv fv sp cap w)(V:PrgX h p lv iv tv)(hlen:w.parts.length=p.ths.length)(hT:w.parts.length≤4)
  (hth:∀l∈p.ths,l.length≤1000)(hm:∀i,i<w.parts.length→(partA w.parts i).more=true→(partA w.parts i).l.pc≤(thA p i).length∧0<(thA p i).length)
  (k:R (.bool (hopesM p w.parts t loc)) h):WC G 120 [ptrV wb,.int .i64 t,.int .i64 loc] h R:=by
 obtain⟨lg,g1,gw,rl⟩:=S.wbk
 have nw:=S.nw
 have nn:=S.nn
 refine WC_pure (WC_enter g.g120 rfl ?_)
 simp -implicitDefEqProofs[c120,c120_body,c120_0,c120_1,ptrV,AH.lays_lt nw,gw]
 refine W_loop (inv120 h p w wb nb sp cap t loc) w.parts.length ⟨0,rfl,by omega,.lays,by simp,by simp,fun i hi=>by omega,by simp[ptrV]⟩ ?_
 rintro mm F hh ⟨j,rfl,hj,x,hx,g0,hno,rfl⟩
 simp -implicitDefEqProofs[c120_8,c120_2,ptrV]
 by_cases h1:j<w.parts.length
 ·have w1:IntKind.i64.wrap ((j:Int)+1)=((j+1:Nat):Int):=by rw[wrap64 (by omega)];rfl
  obtain⟨xs,g2,wv,gn,ex,px,hx',ewv⟩:=S.at h1
  obtain⟨X,hX⟩:∃X,X=partA w.parts j:=⟨_,rfl⟩
  rw[←hX]at ewv
  obtain⟨hle,rowN,lcs,lc1,rd1⟩:=pfacts hx' ewv
  have row:=rowN 0 18 (by omega)
  rw[Nat.add_zero,List.drop_zero,List.take_of_length_le (l:=X.c wv) (by rw[Part.c_len];omega)]at row
  have gnx:hh.get nb=.cells (xs.flatMap pwc) g2 false:=by rw[x.get _ nn];exact gn
  have gwx:hh.get wb=.cells [lv,iv,tv,.slice (some ⟨nb,0,sp⟩) w.parts.length cap,lg,kv,fv] g1 false:=by rw[x.get _ nw];exact gw
  generalize hcs:xs.flatMap pwc=cs at gn gnx hle rowN lcs lc1 rd1 row
  have eB:hopeB p w.parts t loc j=(decide (j≠t)&&(X.more&&((thA p j).drop X.l.pc).any (wrI loc))):=by rw[hX];rfl
  have hmj:=hm j h1
  rw[←hX]at hmj
  simp only[Part.c,Lcl.c,Ins.c,List.cons_append,List.nil_append]at row
  have next:hopeB p w.parts t loc j=false→∀L,∃m,m<w.parts.length-j∧inv120 h p w wb nb sp cap t loc m [(0,.pointer (some ⟨wb,0,none⟩)),(1,.int .i64 t),(5,.pointer (some ⟨h.next,0,none⟩)),(12,.slice (some ⟨nb,0,sp⟩) w.parts.length cap),(13,.int .i64 w.parts.length),(14,.int .i64 ((j:Int)+1))] (hh.lays L):=fun e L=>
   ⟨w.parts.length-(j+1),by omega,j+1,rfl,by omega,x.lays',by simp;omega,by rw[AH.lays_lt hx];exact g0,fun i hi=>by
    by_cases ei:i=j
    ·rw[ei];exact e
    ·exact hno i (by omega),by simp[ptrV]⟩
  simp -implicitDefEqProofs[h1,c120_3,gnx,AH.load,hle,row,splice]
  generalize eQ:wO G c120_4 _ _ _=Q
  by_cases ejt:j=t
  ·subst eQ
   simp -implicitDefEqProofs[c120_4,eq_true ejt,eq_true (show(j:Int)=t by omega),c120_7,w1]
   exact next (by rw[eB];simp[ejt]) _
  ·cases em:X.more with
   | false=>
    subst eQ
    simp -implicitDefEqProofs[c120_4,eq_false ejt,eq_false (show ¬(j:Int)=t by omega),em,c120_7,w1]
    exact next (by rw[eB];simp[em]) _
   | true=>
    subst eQ
    obtain⟨ta,tc,rfl⟩:=V.ths.len
    obtain⟨q1,q2⟩:=hmj em
    have hjt:j<p.ths.length:=by omega
    obtain⟨b,o,sp',c0,gg,ro,u,rfl,hb,hg,r0,su⟩:=(V.ths.xt x.xt).at hjt
    have eth:thA p j=p.ths[j]:=by simp[thA,hjt]
    rw[eth]at q1 q2 eB
    have hthl:=hth _ (List.getElem_mem hjt)
    generalize p.ths[j]=th at*
    obtain⟨ua,uc,rfl⟩:=su.len
    obtain⟨v',e1,su',_⟩:=su.drop q2 q1
    rw[show th.flatMap Ins.c=th.flatMap Ins.c from rfl,fmk_drop ins_len]at su'
    have nwx:wb<hh.next:=by have:=x.next;omega
    simp -implicitDefEqProofs[c120_4,eq_false ejt,eq_false (show ¬(j:Int)=t by omega),em,c120_5,c120_5b,AH.lays_lt nwx,gwx,AH.lays_lt hb,hg,r0,hjt,e1,h1]
    refine Contains_n (P:=wrI loc) g.g171 g.g108 (l:=th.drop X.l.pc) ?_ (by simp;omega) (fun i R' _ k'=>hope1 g (by simp;omega) (by rw[AH.lays_lt hx];exact g0) k') ?_
    ·rw[List.length_drop]
     exact su'.view.ext .lays
    ·cases ea:(th.drop X.l.pc).any (wrI loc)with
     | true=>
      have e:hopesM p w.parts t loc=true:=List.any_eq_true.2 ⟨j,by simp;omega,by rw[eB];simp[ejt,em,ea]⟩
      simp -implicitDefEqProofs[AH.lays_lt nwx,gwx,AH.lays_lt hb,hg,r0,c120_6]
      rw[e]at k
      exact⟨x.lays',k⟩
     | false=>
      simp -implicitDefEqProofs[AH.lays_lt nwx,gwx,AH.lays_lt hb,hg,r0,c120_7,w1]
      exact next (by rw[eB];simp[ea]) _
 ·have e:hopesM p w.parts t loc=false:=by
   unfold hopesM
   rw[List.any_eq_false]
   intro i hi
   rw[hno i (by simp at hi;omega)]
   simp
  rw[e]at k
  simp -implicitDefEqProofs[h1,c120_9]
  exact⟨x,k⟩
end Go.Jq
namespace Go.Jq
def MoreOk(th:List Ins)(x:Part):Prop:=(x.more=true∧nextM th x.l=some x.need∧rdI x.need=true)∨(x.more=false∧nextM th x.l=none)
structure WOk(p:Prg)(w:Wk):Prop where
 inv:∃σ N,WInv p w σ N
 more:∀t,t<w.parts.length→MoreOk (thA p t) (partA w.parts t)
def LocOk(p:Prg):Prop:=∀t l i,nextM (thA p t) l=some i→i.kind=1∨i.kind=2∨i.kind=4→plP p.locs.length i.loc
theorem LocOk.ev{p:Prg}(H:LocOk p){t:Nat}{l:Lcl}{i:Ins}{n:Nat}{v:Int}(hn:nextM (thA p t) l=some i)(h:rdI i=true∨(e6 t n (evtM i l v)).writes=true):plP p.locs.length i.loc:=by
 refine H t l i hn ?_
 rcases h with h|h
 ·simp[rdI]at h;omega
 ·by_cases k1:i.kind=1
  ·exact .inl k1
  ·by_cases k2:i.kind=2
   ·exact .inr (.inl k2)
   ·by_cases k4:i.kind=4
    ·exact .inr (.inr k4)
    ·simp[e6,evtM,k1,k2,k4,Ev6.writes]at h
theorem run_ok{p:Prg}(H:LocOk p){t:Nat}:∀(m:Nat) (w:Wk),t<w.parts.length→(thA p t).length-(partA w.parts t).l.pc≤m→(∃σ N,WInv p w σ N)→
  (∃σ N,WInv p ⟨w.parts.set t (runP (thA p t) t (partA w.parts t) w.log).1,(runP (thA p t) t (partA w.parts t) w.log).2⟩ σ N)∧MoreOk (thA p t) (runP (thA p t) t (partA w.parts t) w.log).1:=by
 intro m
 induction m with
 | zero=>
  intro w ht hm ⟨σ,N,I⟩
  have e:nextM (thA p t) (partA w.parts t).l=none:=by unfold nextM;rw[dif_neg (by omega)]
  rw[run_none e]
  exact⟨⟨σ,N,I.same ht rfl rfl rfl⟩,.inr ⟨rfl,e⟩⟩
 | succ m ih=>
  intro w ht hm ⟨σ,N,I⟩
  cases e:nextM (thA p t) (partA w.parts t).l with
  | none=>
   rw[run_none e]
   exact⟨⟨σ,N,I.same ht rfl rfl rfl⟩,.inr ⟨rfl,e⟩⟩
  | some i=>
   cases hk:rdI i with
   | true=>
    rw[run_read e hk]
    exact⟨⟨σ,N,I.same ht rfl rfl rfl⟩,.inl ⟨rfl,e,hk⟩⟩
   | false=>
    rw[run_on e hk]
    have hl:=(nextM_mem e).2.1
    have h2:=aft_pc (x:=0) e
    have J:=I.add (v:=0) (src:=-1) (x:={ addP t { partA w.parts t with more:=false } (evtM i (partA w.parts t).l 0) (-1)with l:=aftM (thA p t) (partA w.parts t).l 0 }) ht e (fun q=>H.ev e q) (by rw[if_neg (by simp[hk])];exact⟨rfl,rfl⟩) rfl rfl rfl
    have:=ih ⟨w.parts.set t { addP t { partA w.parts t with more:=false } (evtM i (partA w.parts t).l 0) (-1)with l:=aftM (thA p t) (partA w.parts t).l 0 },addL t (partA w.parts t) (evtM i (partA w.parts t).l 0) w.log⟩ (by simpa using ht) (by
     show(thA p t).length-(partA (w.parts.set t _) t).l.pc≤m
     rw[partA_set ht,if_pos rfl]
     show(thA p t).length-(aftM (thA p t) (partA w.parts t).l 0).pc≤m
     omega) ⟨_,_,J⟩
    simp only[partA_set ht,if_true,List.set_set]at this
    exact this
theorem read_ok{p:Prg}(H:LocOk p){t f:Nat}{w:Wk}(W:WOk p w)(ht:t<w.parts.length)(hm:(partA w.parts t).more=true)(hf:f<w.log.length)(hl:(wrA w.log f).loc=(partA w.parts t).need.loc):WOk p (readW p w t f):=by
 obtain⟨σ,N,I⟩:=W.inv
 rcases W.more t ht with⟨_,e,hk⟩|⟨q,_⟩
 ·have J:=I.add (v:=(wrA w.log f).val) (src:=f) (x:={ addP t (partA w.parts t) (evtM (partA w.parts t).need (partA w.parts t).l (wrA w.log f).val) f with l:=aftM (thA p t) (partA w.parts t).l (wrA w.log f).val,stale:=0 }) ht e (fun q=>H.ev e q) (by rw[if_pos hk];exact⟨f,rfl,hf,hl,rfl⟩) rfl rfl rfl
  have:=run_ok H (t:=t) _ ⟨w.parts.set t { addP t (partA w.parts t) (evtM (partA w.parts t).need (partA w.parts t).l (wrA w.log f).val) f with l:=aftM (thA p t) (partA w.parts t).l (wrA w.log f).val,stale:=0 },addL t (partA w.parts t) (evtM (partA w.parts t).need (partA w.parts t).l (wrA w.log f).val) w.log⟩ (by simpa using ht) (Nat.le_refl _) ⟨_,_,J⟩
  simp only[partA_set ht,if_true,List.set_set]at this
  refine⟨this.1,fun s hs=>?_⟩
  simp only[readW,List.length_set]at hs
  simp only[readW,partA_set ht]
  split
  ·rename_i e;subst e;exact this.2
  ·exact W.more s hs
 ·rw[hm]at q;simp at q
theorem stale_ok{p:Prg}{t n:Nat}{w:Wk}(W:WOk p w)(ht:t<w.parts.length):WOk p ⟨w.parts.set t (staleP (partA w.parts t) n),w.log⟩:=by
 obtain⟨σ,N,I⟩:=W.inv
 refine⟨⟨σ,N,I.same ht rfl rfl rfl⟩,fun s hs=>?_⟩
 simp only[List.length_set]at hs
 simp only[partA_set ht]
 split
 ·rename_i e;subst e;exact W.more s hs
 ·exact W.more s hs
theorem on_inv{p:Prg}{keep:List Ev6×List Int→Bool}{I:Wk→Prop}{Q:List Ev6×List Int→Prop}
  (hr:∀w t f,I w→t<w.parts.length→(partA w.parts t).more=true→f<w.log.length→(wrA w.log f).loc=(partA w.parts t).need.loc→keep (flatM p (readW p w t f))=true→I (readW p w t f))
  (hs:∀w t n,I w→t<w.parts.length→I ⟨w.parts.set t (staleP (partA w.parts t) n),w.log⟩)(hq:∀w,I w→(∀t,t<w.parts.length→(partA w.parts t).more=false)→Q (flatM p w)):∀n w,I w→∀c∈onM p keep n w,Q c:=by
 intro n
 induction n with
 | zero=>intro w _ c hc;simp[onM]at hc
 | succ n ih=>
  intro w hw c hc
  rw[onM]at hc
  have key:∀(ts:List Nat) (fresh:List Part) (ended:Bool),ts=List.range' (w.parts.length-ts.length) ts.length→ts.length≤w.parts.length→fresh.length=w.parts.length→(∀s∈ts,partA fresh s=partA w.parts s)→I ⟨fresh,w.log⟩→
    (ended=true→∀t,t<w.parts.length→t∉ts→(partA w.parts t).more=false)→c∈onT p keep (onM p keep n) w ts fresh ended→Q c:=by
   intro ts
   induction ts with
   | nil=>
    intro fresh ended _ _ hl _ hf he hc
    simp only[onT]at hc
    split at hc
    ·simp only[List.mem_singleton]at hc
     subst hc
     exact hq w hw fun t ht=>he ‹_› t ht (by simp)
    ·simp at hc
   | cons t ts ih2=>
    intro fresh ended hts hle hl hfr hf he hc
    have ht:t<w.parts.length:=by
     have:t∈List.range' (w.parts.length-(t::ts).length) (t::ts).length:=hts▸List.mem_cons_self ..
     rw[List.mem_range'_1]at this
     simp only[List.length_cons]at this hle
     omega
    have hts2:ts=List.range' (w.parts.length-ts.length) ts.length:=by
     simp only[List.length_cons]at hts hle
     rw[List.range'_succ]at hts
     have:=(List.cons.inj hts).2
     rw[show w.parts.length-(ts.length+1)+1=w.parts.length-ts.length by omega]at this
     exact this
    have hnt:t∉ts:=by
     intro hm
     rw[hts2,List.mem_range'_1]at hm
     have:t=w.parts.length-(t::ts).length:=by
      simp only[List.length_cons]at hts
      rw[List.range'_succ]at hts
      exact(List.cons.inj hts).1
     simp only[List.length_cons]at this hle
     omega
    rw[onT]at hc
    have ef:=hfr t (by simp)
    split at hc
    ·rename_i hm
     rw[List.mem_append]at hc
     rcases hc with hc|hc
     ·rw[List.mem_flatMap]at hc
      obtain⟨f,hf1,hf2⟩:=hc
      rw[List.mem_range'_1]at hf1
      unfold onF at hf2
      split at hf2
      ·rename_i hloc
       split at hf2
       ·rename_i hk
        exact ih _ (hr ⟨fresh,w.log⟩ t f hf (by simp;omega) (by rw[ef];exact hm) (by simp;omega) hloc hk) c hf2
       ·simp at hf2
      ·simp at hf2
     ·split at hc
      ·refine ih2 (fresh.set t (staleP (partA fresh t) w.log.length)) false hts2 (by simp at hle;omega) (by simpa using hl) (fun s hs'=>?_) (hs ⟨fresh,w.log⟩ t _ hf (by simp;omega)) (by simp) hc
       rw[partA_set (by omega),if_neg (by rintro rfl;exact hnt hs')]
       exact hfr s (by simp[hs'])
      ·simp at hc
    ·rename_i hm
     refine ih2 fresh ended hts2 (by simp at hle;omega) hl (fun s hs'=>hfr s (by simp[hs'])) hf (fun h t' ht' hn'=>?_) hc
     by_cases e:t'=t
     ·subst e;simpa using hm
     ·exact he h t' ht' (by simp[e,hn'])
  refine key (List.range w.parts.length) w.parts true (by simp[List.range_eq_range']) (by simp) rfl (fun _ _=>rfl) hw (fun _ t ht hn=>?_) hc
  simp at hn;omega
end Go.Jq
namespace Go.Jq
def lftT(p:Prg)(parts:List Part)(t:Nat):Nat:=(thA p t).length-(partA parts t).l.pc
def lftM(p:Prg)(parts:List Part):Nat:=((List.range parts.length).map (lftT p parts)).sum
theorem run_pc{th:List Ins}{t:Nat}:∀(m:Nat) (x:Part) (log:List Wr),th.length-x.l.pc≤m→x.l.pc≤(runP th t x log).1.l.pc∧(runP th t x log).2.length+(th.length-(runP th t x log).1.l.pc)≤log.length+(th.length-x.l.pc):=by
 intro m
 induction m with
 | zero=>
  intro x log hm
  rw[run_none (by unfold nextM;rw[dif_neg (by omega)])]
  exact⟨Nat.le_refl _,Nat.le_refl _⟩
 | succ m ih=>
  intro x log hm
  cases e:nextM th x.l with
  | none=>rw[run_none e];exact⟨Nat.le_refl _,Nat.le_refl _⟩
  | some i=>
   cases hk:rdI i with
   | true=>rw[run_read e hk];exact⟨Nat.le_refl _,Nat.le_refl _⟩
   | false=>
    rw[run_on e hk]
    have hl:=(nextM_mem e).2.1
    have pc2:=aft_pc (x:=0) e
    have:=ih { addP t { x with more:=false } (evtM i x.l 0) (-1)with l:=aftM th x.l 0 } (addL t x (evtM i x.l 0) log) (by show th.length-(aftM th x.l 0).pc≤m;omega)
    have la:(addL t x (evtM i x.l 0) log).length≤log.length+1:=by unfold addL;split<;>simp
    obtain⟨a,b⟩:=this
    have a':(aftM th x.l 0).pc≤_:=a
    have b':_≤(addL t x (evtM i x.l 0) log).length+(th.length-(aftM th x.l 0).pc):=b
    exact⟨by omega,by omega⟩
theorem read_pc{th:List Ins}{t f:Nat}{x:Part}{log:List Wr}(e:nextM th x.l=some x.need):x.l.pc<(readP th t x log f).1.l.pc∧(readP th t x log f).2.length+(th.length-(readP th t x log f).1.l.pc)≤log.length+(th.length-x.l.pc):=by
 have hl:=(nextM_mem e).2.1
 have pc2:=aft_pc (x:=(wrA log f).val) e
 have:=run_pc (th:=th) (t:=t) _ { addP t x (evtM x.need x.l (wrA log f).val) f with l:=aftM th x.l (wrA log f).val,stale:=0 } (addL t x (evtM x.need x.l (wrA log f).val) log) (Nat.le_refl _)
 have la:(addL t x (evtM x.need x.l (wrA log f).val) log).length≤log.length+1:=by unfold addL;split<;>simp
 obtain⟨a,b⟩:=this
 have a':(aftM th x.l (wrA log f).val).pc≤_:=a
 have b':_≤(addL t x (evtM x.need x.l (wrA log f).val) log).length+(th.length-(aftM th x.l (wrA log f).val).pc):=b
 unfold readP
 exact⟨by omega,by omega⟩
theorem sum_one{f g:Nat→Nat}{t:Nat}:∀n,t<n→(∀s,s<n→s≠t→f s=g s)→((List.range n).map f).sum+g t=((List.range n).map g).sum+f t:=by
 intro n
 induction n with
 | zero=>intro h;omega
 | succ n ih=>
  intro ht h
  rw[List.range_succ,List.map_append,List.map_append,List.sum_append,List.sum_append]
  simp only[List.map_singleton,List.sum_singleton]
  by_cases e:t=n
  ·subst e
   have:(List.range t).map f=(List.range t).map g:=List.map_congr_left fun s hs=>h s (by simp at hs;omega) (by simp at hs;omega)
   rw[this];omega
  ·have:=ih (by omega) fun s hs hn=>h s (by omega) hn
   rw[h n (by omega) (fun q=>e q.symm)]
   omega
theorem left_set{p:Prg}{parts:List Part}{t:Nat}{x:Part}(ht:t<parts.length):lftM p (parts.set t x)+lftT p parts t=lftM p parts+((thA p t).length-x.l.pc):=by
 unfold lftM
 rw[List.length_set]
 have:=sum_one (f:=lftT p (parts.set t x)) (g:=lftT p parts) (t:=t) parts.length ht fun s hs hn=>by
  unfold lftT
  rw[partA_set ht,if_neg hn]
 rw[this]
 congr 1
 unfold lftT
 rw[partA_set ht,if_pos rfl]
theorem left_le{p:Prg}{parts:List Part}{t:Nat}(ht:t<parts.length):lftT p parts t≤lftM p parts:=by
 have:=left_set (p:=p) (x:=⟨[],[],⟨(thA p t).length,0,0,0,0⟩,.zero,false,0⟩) ht
 simp at this
 omega
def FitW(p:Prg)(w:Wk):Prop:=w.log.length+lftM p w.parts≤900
theorem read_left{p:Prg}{w:Wk}{t f:Nat}(W:WOk p w)(ht:t<w.parts.length)(hm:(partA w.parts t).more=true):lftM p (readW p w t f).parts<lftM p w.parts∧(FitW p w→FitW p (readW p w t f)):=by
 rcases W.more t ht with⟨_,e,hk⟩|⟨q,_⟩
 ·obtain⟨a,b⟩:=read_pc (t:=t) (f:=f) (log:=w.log) e
  have l:=left_set (p:=p) (x:=(readP (thA p t) t (partA w.parts t) w.log f).1) ht
  have hl:=(nextM_mem e).2.1
  unfold lftT at l
  unfold FitW readW
  simp only
  exact⟨by omega,fun h=>by omega⟩
 ·rw[hm]at q;simp at q
theorem stale_left{p:Prg}{parts:List Part}{t n:Nat}(ht:t<parts.length):lftM p (parts.set t (staleP (partA parts t) n))=lftM p parts:=by
 have l:=left_set (p:=p) (x:=staleP (partA parts t) n) ht
 unfold lftT at l
 have:(staleP (partA parts t) n).l=(partA parts t).l:=rfl
 rw[this]at l
 omega
theorem thru_len{th:List Ins}{t:Int}{evs:List Ev6}{l:Lcl}(T:Thru th t evs l):evs.length≤th.length:=by
 have h1:=T []
 have h2:=unf_len (th:=th) (t:=t) th.length (rdsM evs++[]) (begL th) 0 (by omega)
 rw[h1]at h2
 simp at h2
 omega
structure PrgB(p:Prg):Prop where
 T:p.ths.length≤4
 pos:0<p.ths.length
 len:∀l∈p.ths,l.length≤11
 nl:p.locs.length≤3
 il:p.init.length=p.locs.length
 loc:LocOk p
theorem thA_len{p:Prg}(B:PrgB p)(t:Nat):(thA p t).length≤11:=by
 unfold thA
 by_cases h:t<p.ths.length
 ·rw[List.getElem?_eq_getElem h];exact B.len _ (List.getElem_mem h)
 ·rw[List.getElem?_eq_none (by omega)];simp
theorem WOk.ev_le{p:Prg}{w:Wk}(W:WOk p w)(B:PrgB p){t:Nat}(ht:t<w.parts.length):(partA w.parts t).evs.length≤11:=by
 obtain⟨σ,N,I⟩:=W.inv
 exact Nat.le_trans (thru_len (I.thru t ht)) (thA_len B t)
theorem WOk.fl{p:Prg}{w:Wk}(W:WOk p w)(B:PrgB p):FlOk p w:=by
 obtain⟨σ,N,I⟩:=W.inv
 have hn:(initsM p).length=p.locs.length:=by simp[initsM]
 refine⟨by rw[I.len];exact B.T,by rw[hn];exact B.nl,fun t ht=>?_,fun t ht f hf=>?_⟩
 ·have:=W.ev_le B ht
  have:=I.slen t ht
  omega
 ·obtain⟨i,hi,rfl⟩:=List.getElem_of_mem hf
  have e:intA (partA w.parts t).src i=(partA w.parts t).src[i]:=by simp[intA,hi]
  have s:=I.src t ht i (by rw[←I.slen t ht];exact hi)
  rw[e]at s
  split at s
  ·obtain⟨f,a1,a2,a3,a4,a5⟩:=s
   refine .inr ⟨f,a1,a2,?_⟩
   by_cases h6:p.init.length≤f
   ·obtain⟨t2,i2,d3,d4,d5,d6,_⟩:=I.ent f h6 a2
    have:=W.ev_le B d5
    exact⟨by omega,.inr ⟨t2,d3,d5⟩⟩
   ·have:=I.l0 f (by omega)
    rw[this]
    have:=B.nl;have:=B.il
    exact⟨by simp;omega,.inl (by simp)⟩
  ·exact .inl (by omega)
theorem WOk.more_pc{p:Prg}{w:Wk}(W:WOk p w){t:Nat}(ht:t<w.parts.length)(hm:(partA w.parts t).more=true):nextM (thA p t) (partA w.parts t).l=some (partA w.parts t).need∧rdI (partA w.parts t).need=true∧(partA w.parts t).l.pc<(thA p t).length:=by
 rcases W.more t ht with⟨_,e,hk⟩|⟨q,_⟩
 ·exact⟨e,hk,(nextM_mem e).2.1⟩
 ·rw[hm]at q;simp at q
end Go.Jq
namespace Go.Jq
variable {G:Nat→SFunc} {h h0 h1:AH} {R:Value→AH→Prop}
structure OnG(G:Nat→SFunc):Prop extends HopeG G where
 g117:G 117=c117
 g62:G 62=c62
theorem clone_q(g:OnG G){b n c:Nat}{sp:Option Nat}{cs:List Value}{gg ro:Bool}(hb:b<h.next)(gb:h.get b=.cells cs gg ro)(hl:cs.length=n*18)(hn:0<n)(hn2:n≤1000)
  (k:R (.slice (some ⟨h.next+1,0,some 18⟩) n n) (h.lays [.cells [] false false,.cells cs true false])):WC G 117 [.slice (some ⟨b,0,sp⟩) n c] h R:=by
 refine WC_enter g.g117 rfl ?_
 have e:sappend (h.lays [.cells [] false false]) 18 176 (.slice (some ⟨h.next,0,none⟩) 0 0) (.slice (some ⟨b,0,sp⟩) n c)=some (.slice (some ⟨h.next+1,0,some 18⟩) n n,h.lays [.cells [] false false,.cells cs true false]):=by
  have l1:firstOf (h.lays [.cells [] false false]) 18 n (.slice (some ⟨b,0,sp⟩) n c)=some cs:=by
   show(h.lays _).load b 0 (n*18)=some cs
   rw[load_of (c:=cs) (g:=gg) (ro:=ro) (by rw[AH.lays_lt hb];exact gb) (by omega)]
   rw[List.drop_zero,List.take_of_length_le (by omega)]
  unfold sappend
  simp only[lenOf,l1]
  rw[if_neg (by omega),if_neg (by omega)]
  simp[AH.load]
 simp -implicitDefEqProofs[c117,c117_body,c117_0,c117_1,c117_3,e]
 exact k
end Go.Jq
namespace Go.Jq
variable {G:Nat→SFunc} {h h0 h1:AH} {R:Value→AH→Prop}
structure OutSA(h:AH)(ob:Nat)(A:List Nat)(L:List Exe)(v:Value):Prop where
 at':h.get ob=.cells [v] false false
 hob:ob<h.next
 ne:blkOf v≠some ob
 sm:∀x∈L,Sm x
 ws:∃ws,SlG 3 h 0 L.length (ws.flatMap c3) v∧All2 (ExW (Km h (ob::((blkOf v).toList++A)))) L ws
def OutKA(h:AH)(ob:Nat)(A:List Nat)(v:Value)(R:Value→AH→Prop)(r:Bool×List Exe):Prop:=∀h1 v1,h.next≤h1.next→Xt (Sd h ob v) (Sd h1 ob v1)→OutSA h1 ob A r.2 v1→R (.bool r.1) h1
section
variable {ob:Nat} {A A':List Nat} {L:List Exe} {v:Value}
theorem OutSA.lt(O:OutSA h ob A L v){b:Nat}(e:blkOf v=some b):b<h.next:=by obtain⟨ws,s,_⟩:=O.ws;exact(s.blk e).2
theorem OutSA.new(O:OutSA h ob A L v)(x:Ext h h1)(hA:∀a∈A',a∈A∨h.next≤a):OutSA h1 ob A' L v:=by
 obtain⟨ws,s,a⟩:=O.ws
 refine⟨by rw[x.get _ O.hob];exact O.at',Nat.lt_of_lt_of_le O.hob x.next,O.ne,O.sm,ws,s.ext x,a.imp fun _ _ _ _ e=>ExeV.xt e (Km.chg x.next (fun b hb _=>x.get b hb) fun b hb=>?_)⟩
 simp only[List.mem_cons,List.mem_append]at hb ⊢
 rcases hb with q|q|q
 ·exact .inl (.inl q)
 ·exact .inl (.inr (.inl q))
 ·rcases hA b q with q|q
  ·exact .inl (.inr (.inr q))
  ·exact .inr q
theorem OutSA.ext(O:OutSA h ob A L v)(x:Ext h h1):OutSA h1 ob A L v:=O.new x fun _ m=>.inl m
theorem OutSA.less(O:OutSA h ob A L v)(hA:∀a∈A',a∈A):OutSA h ob A' L v:=O.new (Ext.refl h) fun a m=>.inl (hA a m)
theorem OutSA.put(O:OutSA h ob A L v){b:Nat}{o:ABlk}(hb:b∈A)(h1:b≠ob)(h2:blkOf v≠some b):OutSA (h.put b o) ob A L v:=by
 obtain⟨ws,s,a⟩:=O.ws
 refine⟨by rw[AH.put_get,if_neg (fun e=>h1 e.symm)];exact O.at',O.hob,O.ne,O.sm,ws,?_,by rw[Km.put (by simp[hb])];exact a⟩
 obtain⟨s1,s2⟩:=s
 refine⟨s1,?_⟩
 rcases s2 with s2|⟨b',q1,q2,q3,q4⟩
 ·exact .inl s2
 ·refine .inr ⟨b',q1,q2,?_,q4⟩
  rw[AH.put_get,if_neg (by rintro rfl;rw[q4]at h2;exact h2 rfl)]
  exact q3
end
abbrev Cd:=List Ev6×List Int
def CandK(p:Prg)(c:Cd):Prop:=∃w,WOk p w∧c=flatM p w
def CandT(p:Prg)(c:Cd):Prop:=∃w,WOk p w∧(∀t,t<w.parts.length→(partA w.parts t).more=false)∧c=flatM p w
def KeepSp(G:Nat→SFunc)(p:Prg)(kv:Value)(keep:Cd→Bool):Prop:=
 (kv=.nilFunc∧∀c,keep c=true)∨∃fn,kv=.func (.func fn) #[] #[]∧∀(h:AH) (R:Value→AH→Prop) (c:Cd) (ev rv:Value),CandK p c→SlX 6 h c.1.length (c.1.flatMap Ev6.c) ev→SlX 1 h c.2.length (c.2.flatMap intC) rv→R (.bool (keep c)) h→WC G fn [ev,rv] h R
structure Told(G:Nat→SFunc)(p:Prg)(ob:Nat)(fv:Value)(C:AH→Prop)(T:List Exe→Cd→Bool×List Exe)(Ok:List Exe→Prop):Prop where
 xt:∀h h1,Xt h h1→C h→C h1
 ok:∀L c,Ok L→(T L c).1=true→Ok (T L c).2
 sp:∃(fn:Nat) (caps:List Value),fv=.func (.func fn) #[] caps.toArray∧∀(h:AH) (R:Value→AH→Prop) (L:List Exe) (v:Value) (c:Cd) (ev rv:Value) (A:List Nat),(∀a∈A,a<h.next)→OutSA h ob A L v→C (Sd h ob v)→CandT p c→Ok L→SlX 6 (Sd h ob v) c.1.length (c.1.flatMap Ev6.c) ev→SlX 1 (Sd h ob v) c.2.length (c.2.flatMap intC) rv→OutKA h ob A v R (T L c)→WC G fn (ev::rv::caps) h R
theorem tell_ok{Ok:List Exe→Prop}{T:List Exe→Cd→Bool×List Exe}(ok:∀L c,Ok L→(T L c).1=true→Ok (T L c).2):∀(l:List Cd) (L:List Exe),Ok L→(tellM T l L).1=true→Ok (tellM T l L).2:=by
 intro l
 induction l with
 | nil=>intro L h _;exact h
 | cons c l ih=>
  intro L h e
  simp only[tellM]at e ⊢
  split at e
  ·rename_i q
   rw[if_pos q]
   exact ih _ (ok L c h q) e
  ·simp at e
section
variable (G) (p:Prg) (kv fv:Value) (keep:Cd→Bool) (ob:Nat) (C:AH→Prop) (T:List Exe→Cd→Bool×List Exe) (Ok:List Exe→Prop)
def OnSp(n:Nat):Prop:=∀(h:AH) (R:Value→AH→Prop) (w:Wk) (wb nb:Nat) (lv iv tv:Value) (sp:Option Nat) (cap:Nat) (L:List Exe) (v:Value) (A:List Nat),
 lftM p w.parts<n→WOk p w→FitW p w→(∀a∈A,a<h.next)→OutSA h ob A L v→Ok L→PrgX (Sd h ob v) p lv iv tv→C (Sd h ob v)→Wrd (Sd h ob v) wb nb lv iv tv kv fv sp cap w→OutKA h ob A v R (tellM T (onM p keep n w) L)→WC G 62 [ptrV wb] h R
structure Frs(h hh:AH)(v v':Value)(fb fnb:Nat)(lv iv tv lg:Value)(w:Wk)(fresh:List Part)(t:Nat):Prop where
 xt:Xt (Sd h ob v) (Sd hh ob v')
 lo:h.next+3≤hh.next
 gf:(Sd hh ob v').get fb=.cells [lv,iv,tv,.slice (some ⟨fnb,0,some 18⟩) w.parts.length w.parts.length,lg,kv,fv] false false
 gn:∃ys:List (Part×(Value×Value)),(Sd hh ob v').get fnb=.cells (ys.flatMap pwc) true false∧ys.map Prod.fst=fresh∧∀y∈ys,PartW (Sd h ob v) y.1 y.2
 ok:WOk p ⟨fresh,w.log⟩
 fit:FitW p ⟨fresh,w.log⟩
 left:lftM p fresh=lftM p w.parts
 len:fresh.length=w.parts.length
 same:∀s,t≤s→s<w.parts.length→partA fresh s=partA w.parts s
def inv62(A:List Nat)(h:AH)(v lv iv tv lg:Value)(wb nb:Nat)(sp:Option Nat)(cap:Nat)(w:Wk)(n:Nat)(L:List Exe)(mm:Nat)(F:Fr)(hh:AH):Prop:=
 ∃(t:Nat) (fresh:List Part) (ended:Bool) (L':List Exe) (v':Value),mm=w.parts.length-t∧t≤w.parts.length∧Frs p kv fv ob h hh v v' h.next (h.next+2) lv iv tv lg w fresh t∧OutSA hh ob A L' v'∧Ok L'∧(ended=true→∀s,s<t→(partA w.parts s).more=false)∧
  tellM T (onM p keep (n+1) w) L=tellM T (onT p keep (onM p keep n) w (List.range' t (w.parts.length-t)) fresh ended) L'∧
  F=[(0,ptrV wb),(3,.bool ended),(4,ptrV h.next),(21,.slice (some ⟨nb,0,sp⟩) w.parts.length cap),(22,.int .i64 w.parts.length),(23,.int .i64 t)]
def inv62b(A:List Nat)(h:AH)(v lv iv tv lg:Value)(wb nb:Nat)(sp:Option Nat)(cap:Nat)(w:Wk)(n:Nat)(L:List Exe)(t:Nat)(fresh:List Part)(wv:Value×Value)(xb:Nat)(mm:Nat)(F:Fr)(hh:AH):Prop:=
 ∃(f:Nat) (L':List Exe) (v':Value),mm=w.log.length-f∧xb<hh.next∧Frs p kv fv ob h hh v v' h.next (h.next+2) lv iv tv lg w fresh t∧OutSA hh ob A L' v'∧Ok L'∧(Sd hh ob v').get xb=.cells ((partA w.parts t).c wv) false false∧
  tellM T (onM p keep (n+1) w) L=tellM T ((List.range' f (w.log.length-f)).flatMap (onF p keep (onM p keep n) ⟨fresh,w.log⟩ t)++(if hopesM p w.parts t (partA w.parts t).need.loc then onT p keep (onM p keep n) w (List.range' (t+1) (w.parts.length-(t+1))) (fresh.set t (staleP (partA fresh t) w.log.length)) false else [])) L'∧
  F=[(0,ptrV wb),(3,.bool false),(4,ptrV h.next),(5,.int .i64 t),(6,ptrV xb),(7,.int .i64 f),(21,.slice (some ⟨nb,0,sp⟩) w.parts.length cap),(22,.int .i64 w.parts.length),(23,.int .i64 t)]
end
section
variable {p:Prg} {kv fv:Value} {ob:Nat} {hh:AH} {v v' lv iv tv lg:Value} {fb fnb:Nat} {w:Wk} {fresh:List Part} {t t':Nat}
theorem Frs.ext(F:Frs p kv fv ob h hh v v' fb fnb lv iv tv lg w fresh t)(x:Ext hh h1)(ht:t≤t')(hf:fb<hh.next)(hfn:fnb<hh.next):Frs p kv fv ob h h1 v v' fb fnb lv iv tv lg w fresh t':=by
 obtain⟨ys,a,b,c⟩:=F.gn
 exact⟨F.xt.trans (Sd.ext x),Nat.le_trans F.lo x.next,(Sd.ext x).get _ _ _ _ hf F.gf,⟨ys,(Sd.ext x).get _ _ _ _ hfn a,b,c⟩,F.ok,F.fit,F.left,F.len,fun s hs h2=>F.same s (by omega) h2⟩
theorem Sd.km{ms:List Nat}(x:Ext h h1)(hms:∀b∈ms,b=ob∨blkOf v=some b∨h.next≤b):Xt (Sd h ob v) (Km h1 ms):=⟨x.next,fun b c g ro hb e=>by
 obtain⟨q1,q2,q3⟩:=Sd.up e
 have hb:b<h.next:=hb
 rw[Km.get (fun m=>by rcases hms b m with q|q|q;exact q1 q;exact q2 q;omega),x.get b hb];exact q3⟩
theorem Km.sd{ms:List Nat}(x:Ext h h1)(hms:ob∈ms∧∀b,blkOf v=some b→b∈ms):Xt (Km h ms) (Sd h1 ob v):=⟨x.next,fun b c g ro hb e=>by
 obtain⟨q1,q2⟩:=Km.up e
 rw[Sd.get (fun e=>q1 (by rw[e];exact hms.1)) (fun e=>q1 (hms.2 b e)),x.get b hb];exact q2⟩
theorem keep_nil{wb wb' nb':Nat}{lv iv tv pv lg fv':Value}{g1:Bool}{a3 a4 a5 a6 a7 a21 a22 a23:Value}{Rest:SExit→Fr→AH→Prop}(gw:h.get wb=.cells [lv,iv,tv,pv,lg,.nilFunc,fv'] g1 false)
  (k:Rest .normal [(0,ptrV wb),(3,a3),(4,a4),(5,a5),(6,a6),(7,a7),(8,ptrV wb'),(21,a21),(22,a22),(23,a23),(77,.bool false)] h):
  wD G c62_15b c62_15 [(0,.pointer (some ⟨wb,0,none⟩)),(3,a3),(4,a4),(5,a5),(6,a6),(7,a7),(8,.pointer (some ⟨wb',0,none⟩)),(21,a21),(22,a22),(23,a23)] h [] [] [] (keepK [0,3,4,5,6,7,8,21,22,23,77] Rest):=by
 simp -implicitDefEqProofs[c62_15,c62_15b,gw]
 exact k
theorem keep_fn(g:FlatG G){wb wb' nb' fn:Nat}{lv iv tv pv lg fv':Value}{g1:Bool}{sp:Option Nat}{cap:Nat}{w':Wk}{keep:Cd→Bool}{lv' iv' tv' kv' fv'':Value}{a3 a4 a5 a6 a7 a21 a22 a23:Value}{Rest:SExit→Fr→AH→Prop}(hw:wb<h.next)(gw:h.get wb=.cells [lv,iv,tv,pv,lg,.func (.func fn) #[] #[],fv'] g1 false)
  (S:Wrd h wb' nb' lv' iv' tv' kv' fv'' sp cap w')(V:PrgV h p lv' iv' tv')(hi:p.init.length=p.locs.length)(O:FlOk p w')(Wo:WOk p w')
  (hk:∀(h:AH) (R:Value→AH→Prop) (c:Cd) (ev rv:Value),CandK p c→SlX 6 h c.1.length (c.1.flatMap Ev6.c) ev→SlX 1 h c.2.length (c.2.flatMap intC) rv→R (.bool (keep c)) h→WC G fn [ev,rv] h R)
  (k:∀h1,Ext h h1→Rest .normal [(0,ptrV wb),(3,a3),(4,a4),(5,a5),(6,a6),(7,a7),(8,ptrV wb'),(21,a21),(22,a22),(23,a23),(77,.bool (!keep (flatM p w')))] h1):
  wD G c62_15b c62_15 [(0,.pointer (some ⟨wb,0,none⟩)),(3,a3),(4,a4),(5,a5),(6,a6),(7,a7),(8,.pointer (some ⟨wb',0,none⟩)),(21,a21),(22,a22),(23,a23)] h [] [] [] (keepK [0,3,4,5,6,7,8,21,22,23,77] Rest):=by
 simp -implicitDefEqProofs[c62_15,c62_15b,gw]
 refine flat_q g S V hi O fun h1 ev rv x se sr=>?_
 have gw1:=(x.get _ hw).trans gw
 simp -implicitDefEqProofs[gw1]
 refine hk h1 _ (flatM p w') ev rv ⟨w',Wo,rfl⟩ se.x sr.x ?_
 simp -implicitDefEqProofs[gw1]
 exact k h1 x
theorem tell_one{T:List Exe→Cd→Bool×List Exe}{c:Cd}{L:List Exe}:tellM T [c] L=T L c:=by
 simp only[tellM]
 split
 ·rename_i h;rw[←h]
 ·rename_i h;simp at h;rw[←h]
end
theorem on_step(g:OnG G){p:Prg}{kv fv:Value}{keep:Cd→Bool}{ob:Nat}{C:AH→Prop}{T:List Exe→Cd→Bool×List Exe}{Ok:List Exe→Prop}(B:PrgB p)(PT:∀l∈p.ths,TOk (plP p.locs.length) l)(K:KeepSp G p kv keep)(D:Told G p ob fv C T Ok){n:Nat}(ih:OnSp G p kv fv keep ob C T Ok n):OnSp G p kv fv keep ob C T Ok (n+1):=by
 intro h R w wb nb lv iv tv sp cap L v A hn W Fi hA O oL V hC' S k
 have hlen:w.parts.length=p.ths.length:=by obtain⟨σ,N,I⟩:=W.inv;exact I.len
 have hT:=B.T
 have hT0:=B.pos
 obtain⟨lg,g1,gwS,rl⟩:=S.wbk
 obtain⟨xs,g2,gnS,ex,px⟩:=S.nbk
 obtain⟨wob,wv0,gw⟩:=Sd.up gwS
 obtain⟨nob,nv0,gn⟩:=Sd.up gnS
 have nw:wb<h.next:=S.nw
 have nn:nb<h.next:=S.nn
 have xl:xs.length=w.parts.length:=by rw[←ex];simp
 have hcl:(xs.flatMap pwc).length=w.parts.length*18:=by rw[fmk_len pwc_len,xl]
 refine WC_enter g.g62 rfl ?_
 simp -implicitDefEqProofs[c62,c62_body,c62_0,c62_1,c62_2,ptrV,gw,AH.load,splice,AH.lays_lt nw]
 simp -implicitDefEqProofs[c62_3,gw,AH.lays_lt nw]
 refine clone_q g (n:=w.parts.length) (by simp;omega) (by rw[AH.lays_lt nn];exact gn) hcl (by omega) (by omega) ?_
 simp -implicitDefEqProofs[splice,c62_4,gw,AH.lays_lt nw]
 have x0:∀L,Ext h (h.lays L):=fun L=>.lays
 have vlt:∀b,blkOf v=some b→b<h.next:=fun b e=>O.lt e
 have sd0:∀(L:List ABlk) (i:Nat) (c:List Value) (gg:Bool),L[i]?=some (.cells c gg false)→(Sd (h.lays L) ob v).get (h.next+i)=.cells c gg false:=fun L i c gg e=>by
  rw[Sd.get (by have:=O.hob;omega) (fun e=>by have:=vlt _ e;omega),AH.lays_get,e];rfl
 refine W_loop (inv62 p kv fv keep ob T Ok ((h.next+2)::A) h v lv iv tv lg wb nb sp cap w n L) w.parts.length ⟨0,w.parts,true,L,v,by omega,by omega,⟨Sd.ext .lays,by simp,?_,⟨xs,?_,ex,px⟩,W,Fi,rfl,rfl,fun _ _ _=>rfl⟩,O.new .lays (fun a m=>by simp at m;rcases m with q|q;exact .inr (by omega);exact .inl q),oL,fun _ s hs=>by omega,?_,by simp[ptrV]⟩ ?_
 ·exact sd0 _ 0 _ _ rfl
 ·exact sd0 _ 2 _ _ rfl
 ·rw[onM,Nat.sub_zero,List.range_eq_range']
 rintro mm F hh ⟨t,fresh,ended,L',v',rfl,ht,FR,O',oL',he,hrest,rfl⟩
 have S':=S.xt FR.xt
 have Shh:=S'.xt Sd.xt
 obtain⟨wob',wv',gw'⟩:=Sd.up (FR.xt.get _ _ _ _ nw gwS)
 obtain⟨nob',nv',gn'⟩:=Sd.up (FR.xt.get _ _ _ _ nn gnS)
 have nx:=FR.lo
 simp -implicitDefEqProofs[c62_24,c62_5,ptrV]
 by_cases h1:t<w.parts.length
 ·have htp:t<p.ths.length:=by omega
  have w1:IntKind.i64.wrap ((t:Int)+1)=((t+1:Nat):Int):=by rw[wrap64 (by omega)];rfl
  have hx:t<xs.length:=by omega
  obtain⟨X,hX⟩:∃X,X=partA w.parts t:=⟨_,rfl⟩
  obtain⟨wv,ewv⟩:∃wv,xs[t]=(X,wv):=⟨xs[t].2,by
   have:(xs.map Prod.fst)[t]'(by simpa using hx)=xs[t].1:=by simp
   have e:xs[t].1=X:=by rw[←this,hX,partA_of h1];simp[ex]
   rw[←e]⟩
  obtain⟨hle,rowN,_,_,_⟩:=pfacts hx ewv
  have row:=rowN 0 18 (by omega)
  rw[Nat.add_zero,List.drop_zero,List.take_of_length_le (l:=X.c wv) (by rw[Part.c_len];omega)]at row
  have hcs:∃cs,cs=xs.flatMap pwc:=⟨_,rfl⟩
  obtain⟨cs,hcs⟩:=hcs
  rw[←hcs]at gn' hle row
  have Xc:X.c wv=[wv.1,wv.2,.int .i64 X.l.pc,.int .i64 X.l.r0,.int .i64 X.l.r1,.int .i64 X.l.r2,.int .i64 X.l.r3,.int .i64 X.need.kind,.int .i64 X.need.reg,.int .i64 X.need.loc,.int .i64 X.need.areg,.int .i64 X.need.aval,.int .i64 X.need.op,.int .i64 X.need.breg,.int .i64 X.need.bval,.int .i64 X.need.n,.bool X.more,.int .i64 X.stale]:=rfl
  rw[Xc]at row
  have hrng:List.range' t (w.parts.length-t)=t::List.range' (t+1) (w.parts.length-(t+1)):=by
   rw[show w.parts.length-t=(w.parts.length-(t+1))+1 by omega,List.range'_succ]
  rw[hrng,onT,←hX]at hrest
  simp -implicitDefEqProofs[h1,c62_6,gn',AH.load,hle,row,splice,c62_7]
  generalize eQ:branchK G _ _ _ _ _ _=Q
  cases em:X.more with
  | false=>
   subst eQ
   rw[em]at hrest
   simp only[Bool.false_eq_true,if_false]at hrest
   simp -implicitDefEqProofs[em,c62_23,w1]
   refine⟨w.parts.length-(t+1),by omega,t+1,fresh,ended,L',v',rfl,h1,FR.ext .lays (by omega) (by omega) (by omega),O'.ext .lays,oL',fun e s hs=>?_,hrest,by simp[ptrV]⟩
   by_cases q:s=t
   ·rw[q,←hX];exact em
   ·exact he e s (by omega)
  | true=>
   subst eQ
   rw[em]at hrest
   simp only[if_true]at hrest
   simp -implicitDefEqProofs[em,c62_8,c62_9]
   obtain⟨hX1,ehX1⟩:∃hX1,hX1=hh.lays [.cells [wv.1,wv.2,.int .i64 X.l.pc,.int .i64 X.l.r0,.int .i64 X.l.r1,.int .i64 X.l.r2,.int .i64 X.l.r3,.int .i64 X.need.kind,.int .i64 X.need.reg,.int .i64 X.need.loc,.int .i64 X.need.areg,.int .i64 X.need.aval,.int .i64 X.need.op,.int .i64 X.need.breg,.int .i64 X.need.bval,.int .i64 X.need.n,.bool true,.int .i64 X.stale] false false]:=⟨_,rfl⟩
   rw[←ehX1]
   have xX1:Ext hh hX1:=by rw[ehX1];exact .lays
   have gX1:(Sd hX1 ob v').get hh.next=.cells (X.c wv) false false:=by
    rw[Sd.get (by have:=O'.hob;omega) (fun e=>by have:=O'.lt e;omega),ehX1,Xc,em];simp
   have FR1:=FR.ext (t':=t) xX1 (Nat.le_refl _) (by omega) (by omega)
   have O1:=O'.ext xX1
   obtain⟨xb,hxb⟩:∃xb,xb=hh.next:=⟨_,rfl⟩
   have hxl:xb<hX1.next:=by rw[ehX1];simp;omega
   have hxh:h.next≤xb:=by omega
   rw[←hxb]at gX1 ⊢
   refine W_loop (inv62b p kv fv keep ob T Ok ((h.next+2)::A) h v lv iv tv lg wb nb sp cap w n L t fresh wv xb) (w.log.length-X.stale) ⟨X.stale,L',v',rfl,hxl,FR1,O1,oL',by rw[←hX];exact gX1,by rw[←hX];exact hrest,by simp[ptrV]⟩ ?_
   clear FR1 O1 gX1 hrest ehX1 xX1 hxl oL' O' gn' gw' wv' nv' S' Shh FR
   rintro mm F h3 ⟨f,L3,v3,rfl,hx3,FR,O3,oL3,gX,hrest,rfl⟩
   have S3:=S.xt FR.xt
   have Sh3:=S3.xt Sd.xt
   obtain⟨wob',wv',gw3⟩:=Sd.up (FR.xt.get _ _ _ _ nw gwS)
   obtain⟨xob,xv3,gX3⟩:=Sd.up gX
   obtain⟨fob,fv3,gf3⟩:=Sd.up FR.gf
   obtain⟨ys,gys,eys,pys⟩:=FR.gn
   obtain⟨nob3,nv3,gn3⟩:=Sd.up gys
   have hob3:=O3.hob
   have vlt3:∀b,blkOf v3=some b→b<h3.next:=fun b e=>O3.lt e
   rw[←hX,Xc]at gX3
   rw[←hX]at hrest gX
   obtain⟨la,lc,elg⟩:=rl.x.len
   have nx3:=FR.lo
   have hlog:w.log.length≤900:=by unfold FitW at Fi;omega
   rw[elg]at gw3 gf3
   have rl3:=(rl.x.xt (FR.xt)).xt Sd.xt
   rw[elg]at rl3
   simp -implicitDefEqProofs[c62_19,c62_10,ptrV,gw3]
   by_cases h2:f<w.log.length
   ·have w2:IntKind.i64.wrap ((f:Int)+1)=((f+1:Nat):Int):=by rw[wrap64 (by omega)];rfl
    have hrng2:List.range' f (w.log.length-f)=f::List.range' (f+1) (w.log.length-(f+1)):=by
     rw[show w.log.length-f=(w.log.length-(f+1))+1 by omega,List.range'_succ]
    rw[hrng2,List.flatMap_cons,List.append_assoc]at hrest
    obtain⟨bl,ol,spl,cl,gl,rol,rfl,hbl,hgl,hlel,hrowl,hrdl⟩:=rl3.view.rd wr_len h2
    have hv2:=hrdl 2 (by omega)
    rw[←wrA_of h2]at hv2
    simp[Wr.c]at hv2
    have oF:onF p keep (onM p keep n) ⟨fresh,w.log⟩ t f=if(wrA w.log f).loc=X.need.loc then(if keep (flatM p (readW p ⟨fresh,w.log⟩ t f))then onM p keep n (readW p ⟨fresh,w.log⟩ t f)else [])else []:=by
     unfold onF
     rw[show(⟨fresh,w.log⟩:Wk).log=w.log from rfl,show(⟨fresh,w.log⟩:Wk).parts=fresh from rfl,FR.same t (Nat.le_refl _) h1,←hX]
    rw[oF]at hrest
    simp -implicitDefEqProofs[h2,c62_11,gw3,hgl,hv2,gX3]
    generalize eQ:branchK G _ _ _ _ _ _=Q
    by_cases el:(wrA w.log f).loc=X.need.loc
    ·rw[if_pos el]at hrest
     subst eQ
     simp -implicitDefEqProofs[eq_true el,c62_12,gf3,AH.load,splice,c62_13,AH.lays_lt (show h.next<h3.next by omega)]
     have yl:ys.length=w.parts.length:=by rw[←FR.len,←eys];simp
     have hcy:(ys.flatMap pwc).length=w.parts.length*18:=by rw[fmk_len pwc_len,yl]
     refine clone_q g (n:=w.parts.length) (by simp;omega) (by rw[AH.lays_lt (by omega)];exact gn3) hcy (by omega) (by omega) ?_
     simp -implicitDefEqProofs[splice,c62_14]
     obtain⟨hB,ehB⟩:∃hB,hB=h3.lays [.cells [lv,iv,tv,.slice (some ⟨h3.next+2,0,some 18⟩) w.parts.length w.parts.length,.slice (some ⟨bl,ol,spl⟩) w.log.length lc,kv,fv] false false,.cells [] false false,.cells (List.flatMap pwc ys) true false]:=⟨_,rfl⟩
     rw[←ehB]
     have xB:Ext h3 hB:=by rw[ehB];exact .lays
     have nB:hB.next=h3.next+3:=by rw[ehB];simp
     obtain⟨ms,hms⟩:∃ms,ms=h3.next::(h3.next+2)::ob::(blkOf v3).toList:=⟨_,rfl⟩
     have ms1:∀b∈ms,b=ob∨blkOf v3=some b∨h3.next≤b:=fun b m=>by
      rw[hms]at m
      simp at m
      rcases m with q|q|q|q
      ·exact .inr (.inr (by omega))
      ·exact .inr (.inr (by omega))
      ·exact .inl q
      ·exact .inr (.inl q)
     have ms2:ob∈ms∧∀b,blkOf v3=some b→b∈ms:=by
      rw[hms]
      exact⟨by simp,fun b e=>by rw[e];simp⟩
     have y3:Xt (Sd h ob v) (Km hB ms):=FR.xt.trans (Sd.km xB ms1)
     have rlB:=rl.xt y3
     rw[elg]at rlB
     have SB:Wst hB ms h3.next (h3.next+2) lv iv tv kv fv (some 18) w.parts.length ⟨fresh,w.log⟩:=by
      refine⟨⟨_,false,by rw[ehB,FR.len];simp,rlB⟩,⟨ys,true,by rw[ehB];simp,eys,fun y hy=>(pys y hy).xt y3⟩,by omega,by rw[hms];simp,by rw[hms];simp,fun m hm=>?_⟩
      rcases ms1 m hm with q|q|q
      ·omega
      ·have:=vlt3 _ q;omega
      ·rw[hms]at hm
       simp at hm
       rcases hm with q|q|q|q
       ·omega
       ·omega
       ·omega
       ·have:=vlt3 _ q;omega
     clear ehB
     have pf:partA fresh t=X:=by rw[FR.same t (Nat.le_refl _) h1,hX]
     have mp:=FR.ok.more_pc (t:=t) (by rw[FR.len];exact h1) (by rw[pf];exact em)
     simp only[pf]at mp
     obtain⟨mp1,mp2,mp3⟩:=mp
     have eth:p.ths[t]=thA p t:=by simp[thA,htp]
     have inv:=FR.ok.inv
     obtain⟨σ,N,I⟩:=inv
     have hpcs:=I.pcs t (by rw[FR.len];exact h1)
     have hsl:=I.slen t (by rw[FR.len];exact h1)
     simp only[pf]at hpcs hsl
     have hfit:=FR.fit
     unfold FitW at hfit
     simp only at hfit
     have hlt:=left_le (p:=p) (parts:=fresh) (t:=t) (by rw[FR.len];exact h1)
     unfold lftT at hlt
     rw[pf]at hlt
     refine read_q (n:=p.locs.length) g.toWalkG SB ((V.xt y3).v) (by rw[FR.len];exact h1) htp eth (eth▸PT _ (List.getElem_mem htp)) (by have:=thA_len B t;omega) pf mp1 mp2 h2 hpcs hsl (by show w.log.length+_≤1000;omega) fun hC oC SC=>?_
     obtain⟨w',hw'⟩:∃w',w'=readW p ⟨fresh,w.log⟩ t f:=⟨_,rfl⟩
     have ew':(⟨fresh.set t (readP (thA p t) t X w.log f).1,(readP (thA p t) t X w.log f).2⟩:Wk)=w':=by rw[hw'];unfold readW;simp only[pf]
     simp only[ew']at SC
     have W':WOk p w':=by rw[hw'];exact read_ok B.loc FR.ok (by rw[FR.len];exact h1) (by simp only[pf];exact em) h2 (by simp only[pf];exact el)
     have rl':=read_left (f:=f) FR.ok (by rw[FR.len];exact h1) (by simp only[pf];exact em)
     rw[←hw']at rl' hrest
     have w'l:w'.parts.length=w.parts.length:=by rw[hw'];simp[readW,FR.len]
     have xC:Ext h3 hC:=⟨by have:=oC.next;omega,fun b hb=>by rw[oC.get b (by omega) (by simp;omega),xB.get b hb]⟩
     have nC:=xC.next
     have nBC:=oC.next
     have gwC:hC.get wb=.cells [lv,iv,tv,.slice (some ⟨nb,0,sp⟩) w.parts.length cap,.slice (some ⟨bl,ol,spl⟩) w.log.length lc,kv,fv] g1 false:=by rw[xC.get _ (by omega)];exact gw3
     have VC:PrgX hC p lv iv tv:=((V.xt FR.xt).xt Sd.xt).xt xC.xt
     have SCr:Wrd hC h3.next (h3.next+2) lv iv tv kv fv (some 18) w.parts.length w':=SC.rd
     have next:∀(h5:AH) (L5:List Exe) (v5:Value),h3.next≤h5.next→Xt (Sd h3 ob v3) (Sd h5 ob v5)→OutSA h5 ob ((h.next+2)::A) L5 v5→Ok L5→tellM T (onM p keep (n+1) w) L=tellM T ((List.range' (f+1) (w.log.length-(f+1))).flatMap (onF p keep (onM p keep n) ⟨fresh,w.log⟩ t)++(if hopesM p w.parts t X.need.loc then onT p keep (onM p keep n) w (List.range' (t+1) (w.parts.length-(t+1))) (fresh.set t (staleP (partA fresh t) w.log.length)) false else [])) L5→∃m,m<w.log.length-f∧inv62b p kv fv keep ob T Ok ((h.next+2)::A) h v lv iv tv lg wb nb sp cap w n L t fresh wv xb m
       [(0,.pointer (some ⟨wb,0,none⟩)),(3,.bool false),(4,.pointer (some ⟨h.next,0,none⟩)),(5,.int .i64 t),(6,.pointer (some ⟨xb,0,none⟩)),(7,.int .i64 ((f:Int)+1)),(21,.slice (some ⟨nb,0,sp⟩) w.parts.length cap),(22,.int .i64 w.parts.length),(23,.int .i64 t)] h5:=by
      intro h5 L5 v5 n5 x5 O5 oL5 hr5
      refine⟨w.log.length-(f+1),by omega,f+1,L5,v5,rfl,by omega,⟨FR.xt.trans x5,by omega,x5.get _ _ _ _ (by show h.next<h3.next;omega) FR.gf,?_,FR.ok,FR.fit,FR.left,FR.len,FR.same⟩,O5,oL5,x5.get _ _ _ _ (by show xb<h3.next;exact hx3) (by rw[←hX];exact gX),by rw[←hX];exact hr5,by simp[ptrV]⟩
      exact⟨ys,x5.get _ _ _ _ (by show h.next+2<h3.next;omega) gys,eys,pys⟩
     simp -implicitDefEqProofs
     generalize hR2:(thenK _ _)=Rest
     have cont:∀hD,Ext hC hD→Rest .normal [(0,ptrV wb),(3,.bool false),(4,.pointer (some ⟨h.next,0,none⟩)),(5,.int .i64 t),(6,.pointer (some ⟨xb,0,none⟩)),(7,.int .i64 f),(8,ptrV h3.next),(21,.slice (some ⟨nb,0,sp⟩) w.parts.length cap),(22,.int .i64 w.parts.length),(23,.int .i64 t),(77,.bool (!keep (flatM p w')))] hD:=by
      intro hD xD
      have xD3:=xC.trans xD
      have nD:=xD.next
      subst hR2
      cases ek:keep (flatM p w')with
      | false=>
       rw[ek,if_neg (by simp),List.nil_append]at hrest
       simp -implicitDefEqProofs[c62_18,w2]
       exact next hD L3 v3 (by omega) (Sd.ext xD3) (O3.ext xD3) oL3 hrest
      | true=>
       rw[ek,if_pos rfl]at hrest
       simp -implicitDefEqProofs[c62_16]
       refine ih hD _ w' h3.next (h3.next+2) lv iv tv (some 18) w.parts.length L3 v3 ((h.next+2)::A) ?_ W' (rl'.2 FR.fit) ?_ (O3.ext xD3) oL3 (V.xt (FR.xt.trans (Sd.ext xD3))) (D.xt _ _ (FR.xt.trans (Sd.ext xD3)) hC') ?_ ?_
       ·have:=rl'.1;have:=FR.left;simp only at *;omega
       ·intro a m
        simp at m
        rcases m with q|q
        ·omega
        ·have:=hA a q;omega
       ·obtain⟨lgC,gC1,gwC2,rlC⟩:=SC.wbk
        obtain⟨zs,gC2,gnC2,ez,pz⟩:=SC.nbk
        have yD:Xt (Km hC ms) (Sd hD ob v3):=Km.sd xD ms2
        have q1:∀b,h3.next≤b→b<hC.next→(Sd hD ob v3).get b=hC.get b:=fun b b1 b2=>by
         rw[Sd.get (by omega) (fun e=>by have:=vlt3 _ e;omega),xD.get b b2]
        have z1:=SC.lt _ SC.iw
        have z2:=SC.lt _ SC.inb
        exact⟨⟨lgC,gC1,by rw[q1 _ (by omega) z1];exact gwC2,rlC.xt yD⟩,⟨zs,gC2,by rw[q1 _ (by omega) z2];exact gnC2,ez,fun z hz=>(pz z hz).xt yD⟩,by show h3.next<hD.next;omega,by show h3.next+2<hD.next;omega⟩
       ·rw[tell_app]at hrest
        have tok:=tell_ok D.ok (onM p keep n w') L3 oL3
        generalize eT:tellM T (onM p keep n w') L3=r at hrest tok
        obtain⟨bT,LT⟩:=r
        intro h5 v5 n5 x5 O5
        have x35:=(Sd.ext (ob:=ob) (v:=v3) xD3).trans x5
        cases bT with
        | false=>
         simp only[Bool.false_eq_true,if_false]at hrest
         rw[hrest]at k
         simp -implicitDefEqProofs[c62_17]
         exact k h5 v5 (by omega) (FR.xt.trans x35) (O5.less fun a m=>by simp[m])
        | true=>
         simp only[if_true]at hrest
         simp -implicitDefEqProofs[c62_18,w2]
         exact next h5 LT v5 (by omega) x35 O5 (tok rfl) hrest
     rcases K with⟨rfl,hk⟩|⟨fn,rfl,hk⟩
     ·rw[hk]at cont
      exact keep_nil (wb':=h3.next) (nb':=h3.next+2) gwC (cont hC (Ext.refl _))
     ·exact keep_fn (p:=p) g.toFlatG (by omega) gwC SCr VC.v B.il (W'.fl B) W' hk cont
    ·rw[if_neg el,List.nil_append]at hrest
     subst eQ
     simp -implicitDefEqProofs[eq_false el,c62_18,w2]
     exact⟨w.log.length-(f+1),by omega,f+1,L3,v3,rfl,hx3,FR,O3,oL3,by rw[←hX];exact gX,by rw[←hX];exact hrest,by simp[ptrV]⟩
   ·generalize eQ:branchK G _ _ _ _ _ _=Q
    have e0:w.log.length-f=0:=by omega
    rw[e0,List.range'_zero,List.flatMap_nil,List.nil_append]at hrest
    subst eQ
    simp -implicitDefEqProofs[h2,c62_20,gX3]
    refine hopes_q g.toHopeG Sh3 ((V.xt FR.xt).xt Sd.xt) hlen (by omega) (fun l hl=>by have:=B.len l hl;omega) (fun i hi hm=>by have:=W.more_pc hi hm;omega) ?_
    cases eh:hopesM p w.parts t X.need.loc with
    | false=>
     rw[eh]at hrest
     simp only[Bool.false_eq_true,if_false,tellM]at hrest
     rw[hrest]at k
     simp -implicitDefEqProofs[c62_21]
     exact k h3 v3 (by omega) FR.xt (O3.less fun a m=>by simp[m])
    | true=>
     rw[eh,if_pos rfl]at hrest
     have hty:t<ys.length:=by rw[←List.length_map (f:=Prod.fst) (as:=ys),eys,FR.len];exact h1
     have pf:partA fresh t=X:=by rw[FR.same t (Nat.le_refl _) h1,hX]
     obtain⟨wvy,ewvy⟩:∃wv,ys[t]=(X,wv):=⟨ys[t].2,by
      have:(ys.map Prod.fst)[t]'(by simpa using hty)=ys[t].1:=by simp
      have e:ys[t].1=X:=by rw[←this,←pf,partA_of (by rw[FR.len];exact h1)];simp[eys]
      rw[←e]⟩
     obtain⟨hley,_,lcsy,_,_⟩:=pfacts hty ewvy
     have hle17:t*18+17+1≤(List.flatMap pwc ys).length:=by omega
     simp -implicitDefEqProofs[c62_22,c62_22b,gf3,gw3,gn3,h1,hle17,-List.length_flatMap,c62_23,w1]
     rw[lcsy 17 (staleP X w.log.length,wvy) _ (by simp) (by simp[pwc,Part.c,staleP,Lcl.c,Ins.c,splice])]
     have xP:Xt (Sd h ob v) (Sd (h3.put (h.next+2) (.cells ((ys.set t (staleP X w.log.length,wvy)).flatMap pwc) true false)) ob v3):=⟨by show h.next≤h3.next;omega,fun b c gg ro hb e=>by
      have hb:b<h.next:=hb
      obtain⟨q1,q2,q3⟩:=Sd.up (FR.xt.get b c gg ro hb e)
      rw[Sd.get q1 q2,AH.put_get,if_neg (by omega)]
      exact q3⟩
     refine⟨w.parts.length-(t+1),by omega,t+1,fresh.set t (staleP X w.log.length),false,L3,v3,rfl,h1,⟨xP,by show h.next+3≤h3.next;omega,?_,⟨ys.set t (staleP X w.log.length,wvy),?_,by rw[List.map_set,eys],fun y hy=>?_⟩,?_,?_,?_,by simp[FR.len],fun s hs hs2=>?_⟩,O3.put (by simp) nob3 nv3,oL3,by simp,by rw[hrest,pf],by simp[ptrV]⟩
     ·rw[Sd.get fob fv3,AH.put_get,if_neg (by omega)]
      rw[gf3,elg]
     ·rw[Sd.get nob3 nv3,AH.put_get,if_pos rfl]
     ·rcases List.mem_or_eq_of_mem_set hy with q|q
      ·exact pys y q
      ·have:=pys _ (List.getElem_mem hty)
       rw[ewvy]at this
       rw[q]
       exact⟨this.evs,this.src⟩
     ·have:=stale_ok (n:=w.log.length) FR.ok (t:=t) (by rw[FR.len];exact h1)
      simp only[pf]at this
      exact this
     ·have:=stale_left (p:=p) (parts:=fresh) (t:=t) (n:=w.log.length) (by rw[FR.len];exact h1)
      rw[pf]at this
      have hfit:=FR.fit
      unfold FitW at hfit ⊢
      simp only at hfit ⊢
      omega
     ·have:=stale_left (p:=p) (parts:=fresh) (t:=t) (n:=w.log.length) (by rw[FR.len];exact h1)
      rw[pf]at this
      rw[this,FR.left]
     ·rw[partA_set (by rw[FR.len];exact h1),if_neg (by omega)]
      exact FR.same s (by omega) hs2
 ·have:t=w.parts.length:=by omega
  subst this
  rw[Nat.sub_self]at hrest
  generalize eQ:branchK G _ _ _ _ _ _=Q
  cases ended with
  | false=>
   simp only[List.range'_zero,onT,Bool.false_eq_true,if_false,tellM]at hrest
   rw[hrest]at k
   subst eQ
   simp -implicitDefEqProofs[c62_25,c62_25b]
   exact k _ _ (by omega) FR.xt (O'.less fun a m=>by simp[m])
  | true=>
   simp only[List.range'_zero,onT,if_true]at hrest
   rw[tell_one]at hrest
   rw[hrest]at k
   subst eQ
   obtain⟨fn,caps,rfl,sp'⟩:=D.sp
   simp -implicitDefEqProofs[c62_25,c62_25b,gw']
   refine flat_q g.toFlatG Shh ((V.xt FR.xt).xt Sd.xt).v B.il (W.fl B) fun h3 ev rv x3 se sr=>?_
   have nxt3:=x3.next
   have g3w:h3.get wb=.cells [lv,iv,tv,.slice (some ⟨nb,0,sp⟩) w.parts.length cap,lg,kv,.func (.func fn) #[] caps.toArray] g1 false:=by rw[x3.get _ (by have:=Shh.nw;omega)];exact gw'
   simp -implicitDefEqProofs[g3w]
   have hob:=O'.hob
   have vlt':∀b,blkOf v'=some b→b<hh.next:=fun b e=>O'.lt e
   refine sp' h3 _ L' v' (flatM p w) ev rv A (fun a m=>by have:=hA a m;omega) ((O'.ext x3).less fun a m=>by simp[m]) (D.xt _ _ (FR.xt.trans (Sd.ext x3)) hC') ⟨w,W,fun s hs=>he rfl s hs,rfl⟩ oL' (se.x.sd fun b hb=>?_) (sr.x.sd fun b hb=>?_) fun h4 v4 n4 x4 O4=>?_
   ·have:=se.blk hb
    exact⟨by omega,fun e=>by have:=vlt' _ e;omega⟩
   ·have:=sr.blk hb
    exact⟨by omega,fun e=>by have:=vlt' _ e;omega⟩
   ·simp -implicitDefEqProofs
    exact k h4 v4 (by omega) ((FR.xt.trans (Sd.ext x3)).trans x4) O4
theorem on_all(g:OnG G){p:Prg}{kv fv:Value}{keep:Cd→Bool}{ob:Nat}{C:AH→Prop}{T:List Exe→Cd→Bool×List Exe}{Ok:List Exe→Prop}(B:PrgB p)(PT:∀l∈p.ths,TOk (plP p.locs.length) l)(K:KeepSp G p kv keep)(D:Told G p ob fv C T Ok):∀n,OnSp G p kv fv keep ob C T Ok n:=by
 intro n
 induction n with
 | zero=>intro h R w wb nb lv iv tv sp cap L v A hn;omega
 | succ n ih=>exact on_step g B PT K D ih
end Go.Jq
namespace Go.Jq
def begP(p:Prg)(t:Nat):Part:={ Part.zero with l:=begL (thA p t) }
def begV(p:Prg):Nat→Wk
 | 0=>⟨(List.range p.ths.length).map (begP p),wr0 p⟩
 | t+1=>⟨(begV p t).parts.set t (runP (thA p t) t (partA (begV p t).parts t) (begV p t).log).1,(runP (thA p t) t (partA (begV p t).parts t) (begV p t).log).2⟩
theorem begV_len{p:Prg}:∀t,(begV p t).parts.length=p.ths.length
 | 0=>by simp[begV]
 | t+1=>by simp[begV,begV_len t]
theorem begW_len{p:Prg}:∀t,(begW p t).parts.length=p.ths.length
 | 0=>by simp[begW]
 | t+1=>by simp[begW,begW_len t]
theorem beg_eq{p:Prg}:∀t,t≤p.ths.length→(begW p t).log=(begV p t).log∧(∀s,s<t→partA (begW p t).parts s=partA (begV p t).parts s)∧∀s,t≤s→s<p.ths.length→partA (begW p t).parts s=.zero∧partA (begV p t).parts s=begP p s:=by
 intro t
 induction t with
 | zero=>
  intro _
  refine⟨rfl,fun s hs=>by omega,fun s _ hs=>⟨?_,?_⟩⟩
  ·simp[begW,partA,hs]
  ·simp[begV,partA,hs]
 | succ t ih=>
  intro ht
  obtain⟨a,b,c⟩:=ih (by omega)
  obtain⟨c1,c2⟩:=c t (Nat.le_refl _) (by omega)
  have lw:=begW_len (p:=p) t
  have lv:=begV_len (p:=p) t
  have ex:({ partA (begW p t).parts t with l:=nrm (thA p t) .zero }:Part)=partA (begV p t).parts t:=by rw[c1,c2];rfl
  refine⟨by simp only[begW,begV];rw[ex,a],fun s hs=>?_,fun s hs hs2=>?_⟩
  ·simp only[begW,begV]
   rw[ex,a,partA_set (by omega),partA_set (by omega)]
   split
   ·rfl
   ·exact b s (by omega)
  ·simp only[begW,begV]
   rw[partA_set (by omega),partA_set (by omega),if_neg (by omega),if_neg (by omega)]
   exact c s (by omega) hs2
theorem beg_all{p:Prg}:begW p p.ths.length=begV p p.ths.length:=by
 obtain⟨a,b,_⟩:=beg_eq (p:=p) p.ths.length (Nat.le_refl _)
 have lw:=begW_len (p:=p) p.ths.length
 have lv:=begV_len (p:=p) p.ths.length
 have e:(begW p p.ths.length).parts=(begV p p.ths.length).parts:=by
  refine List.ext_getElem (by omega) fun i h1 h2=>?_
  rw[←partA_of h1,←partA_of h2]
  exact b i (by omega)
 generalize begW p p.ths.length=x at*
 generalize begV p p.ths.length=y at*
 cases x;cases y
 simp only at a e
 rw[a,e]
theorem wr0_len{p:Prg}:(wr0 p).length=p.init.length:=by simp[wr0]
theorem wr0_at{p:Prg}{i:Nat}(hi:i<p.init.length):wrA (wr0 p) i=⟨-1,i,i,intA p.init i⟩:=by simp[wrA,wr0,hi]
theorem begV_inv{p:Prg}(B:PrgB p):∀t,t≤p.ths.length→(∃σ N,WInv p (begV p t) σ N)∧(∀s,s<t→MoreOk (thA p s) (partA (begV p t).parts s))∧(begV p t).log.length+lftM p (begV p t).parts≤900:=by
 intro t
 induction t with
 | zero=>
  intro _
  have pz:∀s,s<p.ths.length→partA (begV p 0).parts s=begP p s:=fun s hs=>by simp[begV,partA,hs]
  refine⟨⟨fun _ _=>0,0,?_⟩,fun s hs=>by omega,?_⟩
  ·have l0:=begV_len (p:=p) 0
   refine⟨l0,by simp[begV,wr0_len],fun i hi=>wr0_at hi,fun j h1 h2=>by simp[begV,wr0_len]at h2;omega,fun s hs i hi=>?_,fun s hs=>?_,fun s hs i hi=>?_,fun s i hs hi=>?_,fun s i hs hi=>?_,fun s hs=>?_,fun s hs=>?_⟩
   all_goals rw[l0]at hs
   ·rw[pz s hs]at hi;simp[begP,Part.zero]at hi
   ·rw[pz s hs];rfl
   ·rw[pz s hs]at hi;simp[begP,Part.zero]at hi
   ·rw[pz s hs]at hi;simp[begP,Part.zero]at hi
   ·rw[pz s hs]at hi;simp[begP,Part.zero]at hi
   ·rw[pz s hs];exact Thru.zero
   ·rw[pz s hs];simp[begP,Part.zero]
  ·have hl:lftM p (begV p 0).parts≤11*p.ths.length:=by
    unfold lftM
    rw[begV_len]
    have:∀(l:List Nat),(∀s∈l,s<p.ths.length)→(l.map (lftT p (begV p 0).parts)).sum≤11*l.length:=by
     intro l
     induction l with
     | nil=>intro _;simp
     | cons a l ih=>
      intro h
      have:=ih fun s hs=>h s (by simp[hs])
      have h2:=thA_len B a
      simp only[List.map_cons,List.sum_cons,List.length_cons]
      have h3:lftT p (begV p 0).parts a≤11:=by unfold lftT;omega
      omega
    have:=this (List.range p.ths.length) (by simp)
    simpa using this
   have:=B.T
   have h3:=B.nl
   have h4:=B.il
   show(wr0 p).length+_≤900
   rw[wr0_len]
   omega
 | succ t ih=>
  intro ht
  obtain⟨⟨σ,N,I⟩,M,F⟩:=ih (by omega)
  have lv:=begV_len (p:=p) t
  have r:=run_ok B.loc (t:=t) _ (begV p t) (by omega) (Nat.le_refl _) ⟨σ,N,I⟩
  refine⟨r.1,fun s hs=>?_,?_⟩
  ·simp only[begV]
   rw[partA_set (by omega)]
   split
   ·rename_i e;subst e;exact r.2
   ·exact M s (by omega)
  ·have l:=left_set (p:=p) (t:=t) (x:=(runP (thA p t) t (partA (begV p t).parts t) (begV p t).log).1) (parts:=(begV p t).parts) (by omega)
   have rp:=run_pc (th:=thA p t) (t:=t) _ (partA (begV p t).parts t) (begV p t).log (Nat.le_refl _)
   have hlt:=left_le (p:=p) (parts:=(begV p t).parts) (t:=t) (by omega)
   unfold lftT at l hlt
   simp only[begV]
   omega
theorem beg_ok{p:Prg}(B:PrgB p):WOk p (begW p p.ths.length)∧FitW p (begW p p.ths.length):=by
 rw[beg_all]
 obtain⟨a,b,c⟩:=begV_inv B p.ths.length (Nat.le_refl _)
 exact⟨⟨a,fun s hs=>b s (by rw[begV_len]at hs;exact hs)⟩,c⟩
theorem beg_fit{p:Prg}(B:PrgB p){t:Nat}(ht:t<p.ths.length):(begW p t).log.length≤900:=by
 obtain⟨a,_,_⟩:=beg_eq (p:=p) t (by omega)
 have:=(begV_inv B t (by omega)).2.2
 rw[a];omega
theorem sum_mono{f g:Nat→Nat}(h:∀i,f i≤g i):∀l:List Nat,(l.map f).sum≤(l.map g).sum:=by
 intro l
 induction l with
 | nil=>simp
 | cons a l ih=>simp only[List.map_cons,List.sum_cons];have:=h a;omega
theorem beg_left{p:Prg}{parts:List Part}(hl:parts.length=p.ths.length):lftM p parts<sizeM p+1:=by
 have e:(List.range p.ths.length).map (fun t=>(thA p t).length)=p.ths.map List.length:=by
  refine List.ext_getElem (by simp) fun i h1 h2=>?_
  simp at h1 h2
  simp[thA,h1]
 unfold lftM sizeM
 rw[hl,←e]
 have:=sum_mono (f:=lftT p parts) (g:=fun t=>(thA p t).length) (fun i=>by unfold lftT;omega) (List.range p.ths.length)
 omega
end Go.Jq
namespace Go.Jq
def FwdR(rk:Nat→Nat)(r:Nat→Nat):Prop:=∀i j,(r i).testBit j=true→rk i<rk j
theorem FwdR.cloK{rk:Nat→Nat}{n k:Nat}{r:Nat→Nat}(h:FwdR rk r):FwdR rk (cloK n r k):=fun i j e=>by
 rw[cloK_has]at e
 rcases e with e|⟨_,e1,e2⟩
 ·exact h i j e
 ·exact Nat.lt_trans (h i k e1) (h k j e2)
theorem FwdR.clo{rk:Nat→Nat}{n:Nat}{r:Nat→Nat}(h:FwdR rk r):FwdR rk (clo n r):=foldl_keep (P:=FwdR rk) (fun _ _ h=>h.cloK) h
end Go.Jq
