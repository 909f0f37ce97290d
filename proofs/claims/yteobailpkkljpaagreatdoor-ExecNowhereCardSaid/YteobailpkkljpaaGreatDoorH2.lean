/- Blocks of one's own, laid in a row behind memory; runs seen anew at their end. -/
import Derived.Test.YteobailpkkljpaaGreatDoorH
set_option linter.unusedSimpArgs false
set_option linter.unusedVariables false
namespace Go.Jq
variable {G:Nat→SFunc}
def AH.lays(h:AH)(L:List ABlk):AH:=⟨h.next+L.length,fun i=>if i<h.next then h.get i else(L[i-h.next]?).getD (h.get i)⟩
section
variable {h:AH} {L M:List ABlk} {o:ABlk} {b i:Nat}
theorem AH.ext2{a b:AH}(h1:a.next=b.next)(h2:∀i,a.get i=b.get i):a=b:=by
 cases a;cases b;simp at h1 h2;subst h1;congr 1;funext i;exact h2 i
@[simp] theorem AH.lays_nil:h.lays []=h:=AH.ext2 rfl fun i=>by simp[AH.lays]
@[simp] theorem AH.lays_next:(h.lays L).next=h.next+L.length:=rfl
theorem AH.lays_lt(hb:b<h.next):(h.lays L).get b=h.get b:=by simp[AH.lays,hb]
@[simp] theorem AH.lays_get:(h.lays L).get (h.next+i)=(L[i]?).getD (h.get (h.next+i)):=by
 show(if h.next+i<h.next then _ else _)=_
 rw[if_neg (by omega),Nat.add_sub_cancel_left]
@[simp] theorem AH.lays_get0:(h.lays L).get h.next=(L[0]?).getD (h.get h.next):=by simp[AH.lays]
@[simp] theorem AH.lays_lays:(h.lays L).lays M=h.lays (L++M):=AH.ext2 (by simp[Nat.add_assoc]) fun i=>by
 simp only[AH.lays,List.getElem?_append]
 by_cases h1:i<h.next
 ·simp[h1,show i<h.next+L.length by omega]
 ·by_cases h2:i<h.next+L.length
  ·simp[h1,h2,show i-h.next<L.length by omega]
  ·simp only[h1,h2,show ¬(i-h.next<L.length) by omega,if_false]
   rw[show i-(h.next+L.length)=i-h.next-L.length by omega,show L[i-h.next]?=none from List.getElem?_eq_none (by omega)]
   simp
@[simp] theorem AH.alloc_lays:h.alloc o=h.lays [o]:=AH.ext2 (by simp[AH.alloc]) fun i=>by
 simp only[AH.lays,AH.alloc]
 by_cases h1:i<h.next
 ·simp[h1,show ¬i=h.next by omega]
 ·by_cases h2:i=h.next
  ·subst h2;simp
  ·rw[if_neg h2,if_neg h1,List.getElem?_eq_none (by simp;omega)];rfl
@[simp] theorem AH.lays_put (hi:i<L.length):(h.lays L).put (h.next+i) o=h.lays (L.set i o):=AH.ext2 (by simp[AH.put]) fun j=>by
 simp only[AH.lays,AH.put,List.getElem?_set]
 by_cases h1:j<h.next
 ·simp[h1,show ¬j=h.next+i by omega]
 ·by_cases h2:j=h.next+i
  ·subst h2;rw[if_pos rfl,if_neg h1,if_pos (by omega),if_pos (by omega)];rfl
  ·rw[if_neg h2,if_neg h1,if_neg h1,if_neg (by omega)]
@[simp] theorem AH.lays_put0 (hi:0<L.length):(h.lays L).put h.next o=h.lays (L.set 0 o):=AH.lays_put (i:=0) hi
theorem AH.lays_low(hb:b<h.next):(h.lays L).put b o=(h.put b o).lays L:=AH.ext2 (by simp[AH.put]) fun j=>by
 simp only[AH.lays,AH.put]
 by_cases h2:j=b
 ·subst h2;simp[hb]
 ·simp[h2]
theorem Ext.lays:Ext h (h.lays L):=⟨by simp,fun _ hi=>AH.lays_lt hi⟩
theorem Ext.lays'{h0:AH}(x:Ext h0 h):Ext h0 (h.lays L):=x.trans .lays
end
abbrev idn:Nat→Nat:=fun b=>b
abbrev Clean(n:Nat)(v:Value):Prop:=RV (fun _=>False) idn n v v
mutual
theorem RV.more{K K':Value→Prop}{ρ ρ':Nat→Nat}{n n':Nat}(hK:∀v,K v→K' v)(hn:n≤n')(hρ:∀b,b<n→ρ' b=ρ b):∀{v u:Value},RV K ρ n v u→RV K' ρ' n' v u
 | _,_,.keep h=>.keep (hK _ h)
 | _,_,.bool=>.bool
 | _,_,.int=>.int
 | _,_,.str=>.str
 | _,_,.ptr0=>.ptr0
 | _,_,.ptr h=>by rw[←hρ _ h];exact .ptr (Nat.lt_of_lt_of_le h hn)
 | _,_,.sl0=>.sl0
 | _,_,.sl h=>by rw[←hρ _ h];exact .sl (Nat.lt_of_lt_of_le h hn)
 | _,_,.map0=>.map0
 | _,_,.map h=>by rw[←hρ _ h];exact .map (Nat.lt_of_lt_of_le h hn)
 | _,_,.func0=>.func0
 | _,_,.func h k=>.func (RV.moreL hK hn hρ h) (RV.moreL hK hn hρ k)
 | _,_,.agg h=>.agg (RV.moreL hK hn hρ h)
 | _,_,.tuple h=>.tuple (RV.moreL hK hn hρ h)
theorem RV.moreL{K K':Value→Prop}{ρ ρ':Nat→Nat}{n n':Nat}(hK:∀v,K v→K' v)(hn:n≤n')(hρ:∀b,b<n→ρ' b=ρ b):∀{l m:List Value},FA2 (RV K ρ n) l m→FA2 (RV K' ρ' n') l m
 | _,_,.nil=>.nil
 | _,_,.cons h k=>.cons (RV.more hK hn hρ h) (RV.moreL hK hn hρ k)
end
section
variable {K:Value→Prop} {ρ:Nat→Nat} {n:Nat}
@[simp] theorem FA2_nil {α β:Type} {R:α→β→Prop}:FA2 R [] []=True:=eq_true .nil
@[simp] theorem FA2_cons {α β:Type} {R:α→β→Prop} {a:α} {b:β} {l:List α} {m:List β}:FA2 R (a::l) (b::m)=(R a b∧FA2 R l m):=
 propext ⟨fun h=>by cases h with|cons h k=>exact⟨h,k⟩,fun h=>.cons h.1 h.2⟩
@[simp] theorem RV_bool {b:Bool}:RV K ρ n (.bool b) (.bool b)=True:=eq_true .bool
@[simp] theorem RV_int {k:IntKind} {i:Int}:RV K ρ n (.int k i) (.int k i)=True:=eq_true .int
@[simp] theorem RV_str {s:ByteArray}:RV K ρ n (.string s) (.string s)=True:=eq_true .str
@[simp] theorem RV_ptr0:RV K ρ n (.pointer none) (.pointer none)=True:=eq_true .ptr0
@[simp] theorem RV_sl0 {l c:Nat}:RV K ρ n (.slice none l c) (.slice none l c)=True:=eq_true .sl0
@[simp] theorem RV_map0:RV K ρ n (.map none) (.map none)=True:=eq_true .map0
@[simp] theorem RV_func0:RV K ρ n .nilFunc .nilFunc=True:=eq_true .func0
@[simp] theorem RV_aggL {a b:List Value}:RV (fun _=>False) ρ n (.agg a.toArray) (.agg b.toArray)=FA2 (RV (fun _=>False) ρ n) a b:=propext ⟨fun h=>by cases h with|keep h=>exact h.elim|agg h=>simpa using h,fun h=>.agg (by simpa using h)⟩
@[simp] theorem RV_tupL {a b:List Value}:RV (fun _=>False) ρ n (.tuple a.toArray) (.tuple b.toArray)=FA2 (RV (fun _=>False) ρ n) a b:=propext ⟨fun h=>by cases h with|keep h=>exact h.elim|tuple h=>simpa using h,fun h=>.tuple (by simpa using h)⟩
theorem RV.lt_ptr{b o:Nat}{sp:Option Nat}{u:Value}(h:RV (fun _=>False) ρ n (.pointer (some ⟨b,o,sp⟩)) u):b<n:=by
 cases h
 ·contradiction
 ·assumption
theorem RV.lt_sl{b o l c:Nat}{sp:Option Nat}{u:Value}(h:RV (fun _=>False) ρ n (.slice (some ⟨b,o,sp⟩) l c) u):b<n:=by
 cases h
 ·contradiction
 ·assumption
theorem RV.lt_map{b:Nat}{u:Value}(h:RV (fun _=>False) ρ n (.map (some b)) u):b<n:=by
 cases h
 ·contradiction
 ·assumption
@[simp] theorem Clean_ptr {b o:Nat} {sp:Option Nat}:Clean n (.pointer (some ⟨b,o,sp⟩))=(b<n):=propext ⟨RV.lt_ptr,fun h=>.ptr (ρ:=idn) h⟩
@[simp] theorem Clean_sl {b o l c:Nat} {sp:Option Nat}:Clean n (.slice (some ⟨b,o,sp⟩) l c)=(b<n):=propext ⟨RV.lt_sl,fun h=>.sl (ρ:=idn) h⟩
@[simp] theorem Clean_map {b:Nat}:Clean n (.map (some b))=(b<n):=propext ⟨RV.lt_map,fun h=>.map (ρ:=idn) h⟩
end
def CleanL(n:Nat):List Value→Prop
 | []=>True
 | v::l=>Clean n v∧CleanL n l
@[simp] theorem CleanL_nil {n:Nat}:CleanL n []=True:=rfl
@[simp] theorem CleanL_cons {n:Nat} {v:Value} {l:List Value}:CleanL n (v::l)=(Clean n v∧CleanL n l):=rfl
theorem CleanL.fa{n:Nat}{l:List Value}(h:CleanL n l):FA2 (RV (fun _=>False) idn n) l l:=by
 induction l with
 | nil=>exact .nil
 | cons a l ih=>exact .cons h.1 (ih h.2)
theorem CleanL_all{n:Nat}{l:List Value}(h:∀v∈l,Clean n v):CleanL n l:=by
 induction l with
 | nil=>trivial
 | cons a l ih=>exact⟨h a (by simp),ih fun v hv=>h v (by simp[hv])⟩
theorem CleanL.app{n:Nat}{l m:List Value}(h:CleanL n l)(k:CleanL n m):CleanL n (l++m):=by
 induction l with
 | nil=>exact k
 | cons a l ih=>exact⟨h.1,ih h.2⟩
def CleanB(n:Nat):ABlk→Prop
 | .cells c _ _=>CleanL n c
 | .map es _=>∀e∈es,Clean n e.1∧Clean n e.2.1
 | .dead=>True
@[simp] theorem CleanB_cells {n:Nat} {c:List Value} {g ro:Bool}:CleanB n (.cells c g ro)=CleanL n c:=rfl
@[simp] theorem CleanB_dead {n:Nat}:CleanB n .dead=True:=rfl
theorem CleanB.rb{K:Value→Prop}{n n':Nat}{ρ:Nat→Nat}{o:ABlk}(h:CleanB n o)(hn:n≤n')(hρ:∀b,b<n→ρ b=b):RB K ρ n' o o:=by
 cases o with
 | cells c g ro=>exact⟨rfl,RV.moreL (fun _ h=>h.elim) hn hρ (CleanL.fa h)⟩
 | map es k=>
  refine⟨rfl,?_⟩
  induction es with
  | nil=>exact .nil
  | cons a l ih=>exact .cons ⟨RV.more (fun _ h=>h.elim) hn hρ (h a (by simp)).1,RV.more (fun _ h=>h.elim) hn hρ (h a (by simp)).2,rfl⟩ (ih fun e he=>h e (by simp[he]))
 | dead=>trivial
theorem View.drop{K:Value→Prop}{h h1:AH}(x:Ext h h1):View K idn h h1 h:=⟨Nat.le_refl _,fun _ _=>rfl,fun _ _ _ _ e=>e,fun b hb=>.inl ⟨hb,rfl,x.get b hb⟩⟩
theorem WC_gc{f:Nat}{args:List Value}{h:AH}{R:Value→AH→Prop}(H:WC G f args h fun v h1=>∃ρ v' h2,View (ofArgs args) ρ h h1 h2∧RV (ofArgs args) ρ h2.next v' v∧R v' h2):WC G f args h R:=by
 obtain⟨v,h1,r,ρ,v',h2,V,q,k⟩:=H
 exact⟨v',h2,.gcC r V q,k⟩
theorem WC_pure{f:Nat}{args:List Value}{h:AH}{R:Value→AH→Prop}(H:WC G f args h fun v h1=>Ext h h1∧Clean h.next v∧R v h):WC G f args h R:=by
 refine WC_gc ?_
 obtain⟨v,h1,r,x,c,k⟩:=H
 exact⟨v,h1,r,idn,v,h,.drop x,RV.more (fun _ h=>h.elim) (Nat.le_refl _) (fun _ _=>rfl) c,k⟩
theorem WC_is{f:Nat}{args:List Value}{h:AH}{R:Value→AH→Prop}{v:Value}(c:Clean h.next v)(k:R v h)(H:∀R':Value→AH→Prop,(∀h1,Ext h h1→R' v h1)→WC G f args h R'):WC G f args h R:=
 WC_pure (H _ fun _ x=>⟨x,c,k⟩)
theorem View.new{K:Value→Prop}{h h1:AH}{b:Nat}{o:ABlk}(x:Ext h h1)(hb:h.next≤b)(hg:o=.dead∨h1.get b=o)(c:CleanB h.next o):View K (fun i=>if i=h.next then b else i) h h1 (h.lays [o]):=by
 refine⟨by simp,fun i hi=>by simp;omega,fun i j hi hj e=>?_,fun i hi=>?_⟩
 ·simp at hi hj e;split at e<;>split at e<;>omega
 ·simp at hi
  by_cases e:i=h.next
  ·subst e
   right
   simp only[AH.lays_get0,if_true,List.getElem?_cons_zero,Option.getD_some,AH.lays_next,List.length_cons,List.length_nil,Nat.zero_add]
   rcases hg with rfl|hg
   ·trivial
   ·rw[hg]
    exact c.rb (by omega) fun i hi=>by simp;omega
  ·left
   have:i<h.next:=by omega
   exact⟨this,AH.lays_lt this,x.get i this⟩
theorem SlG.one{h:AH}{o:ABlk}{k n:Nat}{cs:List Value}{v:Value}(s:SlG k (h.lays [o]) h.next n cs v)(hn:0<n):o=.cells cs true false∧v=.slice (some ⟨h.next,0,some k⟩) n n:=by
 rcases s.2 with⟨rfl,_⟩|⟨b,b1,b2,b3,rfl⟩
 ·omega
 ·have:b=h.next:=by simp at b2;omega
  subst this
  simp at b3
  exact⟨b3,rfl⟩
def FrOk(F0:Fr)(n:Nat):Fr→Prop
 | []=>True
 | (t,v)::r=>(F0.get t=some v∨Clean n v)∧FrOk F0 n r
@[simp] theorem FrOk_nil {F0:Fr} {n:Nat}:FrOk F0 n []=True:=rfl
@[simp] theorem FrOk_cons {F0 F:Fr} {n t:Nat} {v:Value}:FrOk F0 n ((t,v)::F)=((F0.get t=some v∨Clean n v)∧FrOk F0 n F):=rfl
theorem FrOk.get{F0 F:Fr}{n:Nat}(h:FrOk F0 n F){t:Nat}{v:Value}(e:F.get t=some v):RV (ofFr F0) idn n v v:=by
 induction F with
 | nil=>simp[Fr.get]at e
 | cons a r ih=>
  obtain⟨k,x⟩:=a
  simp only[Fr.get]at e
  split at e
  ·simp only[Option.some.injEq]at e
   subst e
   rcases h.1 with q|q
   ·exact .keep ⟨_,_,q,.inl rfl⟩
   ·exact RV.more (fun _ h=>h.elim) (Nat.le_refl _) (fun _ _=>rfl) q
  ·exact ih h.2 e
def LaOk(n:Nat):List ABlk→List ABlk→Prop
 | [],[]=>True
 | [],o::l=>CleanB n o∧LaOk n [] l
 | o0::l0,o::l=>(o=o0∨CleanB n o)∧LaOk n l0 l
 | _::_,[]=>False
@[simp] theorem LaOk_nil {n:Nat}:LaOk n [] []=True:=rfl
@[simp] theorem LaOk_nc {n:Nat} {o:ABlk} {l:List ABlk}:LaOk n [] (o::l)=(CleanB n o∧LaOk n [] l):=rfl
@[simp] theorem LaOk_cc {n:Nat} {o o0:ABlk} {l l0:List ABlk}:LaOk n (o0::l0) (o::l)=((o=o0∨CleanB n o)∧LaOk n l0 l):=rfl
theorem LaOk.get{n:Nat}:∀{l0 l:List ABlk},LaOk n l0 l→l0.length≤l.length∧∀i (h:i<l.length),(i<l0.length∧l0[i]?=some l[i])∨CleanB n l[i]
 | [],[],_=>⟨Nat.le_refl _,fun i h=>by simp at h⟩
 | [],o::l,h=>⟨by simp,fun i hi=>by
   cases i with
   | zero=>exact .inr h.1
   | succ i=>
    rcases(LaOk.get h.2).2 i (by simpa using hi)with q|q
    ·simp at q
    ·exact .inr q⟩
 | o0::l0,o::l,h=>⟨by simpa using (LaOk.get h.2).1,fun i hi=>by
   cases i with
   | zero=>
    rcases h.1 with q|q
    ·exact .inl (by simp[q])
    ·exact .inr q
   | succ i=>
    rcases(LaOk.get h.2).2 i (by simpa using hi)with q|q
    ·exact .inl (by simpa using q)
    ·exact .inr q⟩
 | _::_,[],h=>h.elim
def gcN(F0:Fr)(h0:AH)(R:Fr→AH→Prop)(F1:Fr)(h1:AH):Prop:=
 R F1 h1∨∃ρ F2 h2,View (ofFr F0) ρ h0 h1 h2∧(∀t v,F2.get t=some v→∃u,F1.get t=some u∧RV (ofFr F0) ρ h2.next v u)∧R F2 h2
def gcK(F0:Fr)(h0:AH)(R:SExit→Fr→AH→Prop):SExit→Fr→AH→Prop
 | .normal,F1,h1=>gcN F0 h0 (R .normal) F1 h1
 | .exit id,F1,h1=>R (.exit id) F1 h1
 | .ret,F1,h1=>R .ret F1 h1
@[simp] theorem gcK_e {F0 F1:Fr} {h0 h1:AH} {R:SExit→Fr→AH→Prop} {id:Nat}:gcK F0 h0 R (.exit id) F1 h1=R (.exit id) F1 h1:=rfl
@[simp] theorem gcK_r {F0 F1:Fr} {h0 h1:AH} {R:SExit→Fr→AH→Prop}:gcK F0 h0 R .ret F1 h1=R .ret F1 h1:=rfl
theorem gcK_lays{F0 F1:Fr}{h:AH}{L0 L1:List ABlk}{R:SExit→Fr→AH→Prop}(k:Nat)(hk:k≤L1.length)(hL:LaOk (h.next+k) L0 (L1.take k))(hF:FrOk F0 (h.next+k) F1)(H:R .normal F1 (h.lays (L1.take k))):
  gcK F0 (h.lays L0) R .normal F1 (h.lays L1):=by
 have lk:(L1.take k).length=k:=by simp;omega
 obtain⟨q1,q2⟩:=hL.get
 rw[lk]at q1
 have hn:(h.lays (L1.take k)).next=h.next+k:=by simp;omega
 refine .inr ⟨idn,F1,h.lays (L1.take k),⟨by rw[hn];simp;omega,fun _ _=>rfl,fun _ _ _ _ e=>e,fun b hb=>?_⟩,fun t v e=>⟨v,e,by rw[hn];exact hF.get e⟩,H⟩
 rw[hn]at hb ⊢
 by_cases h1:b<h.next
 ·exact .inl ⟨by simp;omega,by rw[AH.lays_lt h1,AH.lays_lt h1],by rw[AH.lays_lt h1,AH.lays_lt h1]⟩
 ·obtain⟨i,rfl⟩:∃i,b=h.next+i:=⟨b-h.next,by omega⟩
  have hi:i<(L1.take k).length:=by rw[lk];omega
  have hi':i<L1.length:=by omega
  have e1:(L1.take k)[i]?=some L1[i]:=by rw[List.getElem?_take,if_pos (by omega),List.getElem?_eq_getElem hi']
  have e2:(L1.take k)[i]=L1[i]:=by simp
  simp only[AH.lays_get,e1,Option.getD_some,List.getElem?_eq_getElem hi']
  rcases q2 i hi with⟨c1,c2⟩|c
  ·left
   rw[e2]at c2
   exact⟨by simp;omega,by rw[c2];rfl,by rw[c2];rfl⟩
  ·right
   rw[e2]at c
   exact c.rb (Nat.le_refl _) fun _ _=>rfl
theorem gcK_lays0{F0 F1:Fr}{h:AH}{L1:List ABlk}{R:SExit→Fr→AH→Prop}(H:FrOk F0 h.next F1∧R .normal F1 h):gcK F0 h R .normal F1 (h.lays L1):=by
 have:=gcK_lays (F0:=F0) (F1:=F1) (h:=h) (L0:=[]) (L1:=L1) (R:=R) 0 (by omega) (by simp) (by simpa using H.1) (by simpa using H.2)
 simpa using this
theorem W_loopg{live:List Nat}{a:SCode}{F:Fr}{h:AH}{R:SExit→Fr→AH→Prop}(I:Nat→Fr→AH→Prop)(n:Nat)(H0:I n F h)
  (Hs:∀n F h,I n F h→W G a (F.keep live) h (gcK (F.keep live) h (loopK (fun F1 h1=>∃m,m<n∧I m F1 h1) R))):W G (.loop live a) F h R:=by
 induction n using Nat.strongRecOn generalizing F h with
 | _ n ih=>
  obtain⟨e,F1,h1,r,k⟩:=W_run (Hs n F h H0)
  have key:∃F2 h2,Run G (.code a (F.keep live) h) (.code e F2 h2)∧loopK (fun F1 h1=>∃m,m<n∧I m F1 h1) R e F2 h2:=by
   cases e with
   | normal=>
    rcases k with k|⟨ρ,F2,h2,V,hv,k⟩
    ·exact⟨F1,h1,r,k⟩
    ·exact⟨F2,h2,Run.gcB r V hv,k⟩
   | exit id=>exact⟨F1,h1,r,k⟩
   | ret=>exact⟨F1,h1,r,k⟩
  obtain⟨F2,h2,r2,k⟩:=key
  cases e with
  | normal=>
   obtain⟨m,hm,k⟩:=k
   obtain⟨e2,F3,h3,r3,k2⟩:=ih m hm k
   exact⟨_,_,_,.loopN r2 r3,k2⟩
  | exit id=>exact⟨_,_,_,.loopE r2 (by simp),k⟩
  | ret=>exact⟨_,_,_,.loopE r2 (by simp),k⟩
end Go.Jq
namespace Go.Jq
variable {G:Nat→SFunc} {h:AH} {R:Value→AH→Prop}
theorem Clean_ints{n:Nat}{l:List Value}(h:∀v∈l,∃k i,v=.int k i):CleanL n l:=CleanL_all fun v hv=>by obtain⟨k,i,rfl⟩:=h v hv;exact .int
theorem relC_int{n:Nat}{r:Nat→Nat}:∀x∈relC n r,∃k i,x=.int k i:=by
 intro x hx
 unfold relC at hx
 rcases List.mem_cons.1 hx with rfl|hx
 ·exact⟨_,_,rfl⟩
 ·unfold rowC at hx
  rw[List.mem_map]at hx
  obtain⟨i,_,rfl⟩:=hx
  exact⟨_,_,rfl⟩
@[simp] theorem CleanL_rel {m n:Nat} {r:Nat→Nat}:CleanL m (relC n r)=True:=eq_true (Clean_ints relC_int)
@[simp] theorem Clean_rel {m n:Nat} {r:Nat→Nat}:Clean m (relV n r)=True:=eq_true (.agg (by simpa using CleanL.fa (Clean_ints relC_int)))
theorem New_r(g:RelG G){a:Int}(k:R (relV (newN a) fun _=>0) h):WC G 38 [.int .i64 a] h R:=WC_is (by simp) k fun _=>New_rel g
theorem in_r(g:RelG G){n:Nat}{r:Nat→Nat}{a:Int}(k:R (.bool (inB n a)) h):WC G 98 [relV n r,.int .i64 a] h R:=WC_is (by simp) k fun _=>in_rel g
structure RelG2(G:Nat→SFunc):Prop extends RelG G,PairG G where
 g53:G 53=c53
 g64:G 64=c64
def rowN(n:Nat)(r:Nat→Nat)(a:Int):Nat:=if inB n a then r a.toNat else 0
theorem Row_r(g:RelG2 G){n:Nat}{r:Nat→Nat}{a:Int}(hn:n≤64)(hr:RowsOk r)(k:R (stW (rowN n r a)) h):WC G 53 [relV n r,.int .i64 a] h R:=by
 refine WC_pure (WC_enter g.g53 rfl ?_)
 simp -implicitDefEqProofs[c53,c53_body,c53_0,c53_1,relV,relC_take]
 refine in_r g.toRelG ?_
 cases e:inB n a with
 | false=>
  simp -implicitDefEqProofs[c53_2,Ext.lays]
  simpa[rowN,e,stW]using k
 | true=>
  obtain⟨i,rfl,hi⟩:=inB_nat e
  simp -implicitDefEqProofs[c53_3,show(i:Int)<64 by omega,relC_get (show i<64 by omega),Ext.lays]
  simpa[rowN,e,stW]using k
def invStep(i:Nat)(q:Nat→Nat)(k:Nat):Nat→Nat:=updR q k (withN (q k) i)
def invRow(r:Nat→Nat)(q:Nat→Nat)(i:Nat):Nat→Nat:=(setL (r i)).foldl (invStep i) q
def invR(n:Nat)(r:Nat→Nat):Nat→Nat:=(List.range n).foldl (invRow r) fun _=>0
theorem invStep_ok{i k:Nat}{q:Nat→Nat}(hq:RowsOk q):RowsOk (invStep i q k):=fun j=>by
 unfold invStep updR;split
 ·exact withN_lt (hq _)
 ·exact hq _
theorem foldlP{α β:Type}{P:β→Prop}{f:β→α→β}(hf:∀b a,P b→P (f b a)){l:List α}{b:β}(h:P b):P (l.foldl f b):=by
 induction l generalizing b with
 | nil=>exact h
 | cons a l ih=>exact ih (hf _ _ h)
theorem invR_ok{n:Nat}{r:Nat→Nat}:RowsOk (invR n r):=foldlP (P:=RowsOk) (fun _ _ h=>foldlP (P:=RowsOk) (fun _ _=>invStep_ok) h) fun _=>by decide
def inv64(h:AH)(n:Nat)(r:Nat→Nat)(mm:Nat)(F:Fr)(hh:AH):Prop:=
 ∃(j:Nat) (q:Nat→Nat),mm=n-j∧j≤n∧q=(List.range j).foldl (invRow r) (fun _=>0)∧RowsOk q∧F=[(1,.pointer (some ⟨h.next,0,none⟩)),(2,.pointer (some ⟨h.next+1,0,none⟩)),(3,.pointer (some ⟨h.next+2,0,none⟩)),(10,.int .i64 n),(11,.int .i64 j)]∧
  hh=h.lays [.cells (relC n r) false false,.cells zrel false false,.cells (relC n q) false false]
def inv64b(h:AH)(n:Nat)(r:Nat→Nat)(j:Nat)(T:Nat→Nat)(mm:Nat)(F:Fr)(hh:AH):Prop:=
 ∃(s:Nat) (q:Nat→Nat),mm=(setL s).length∧s<2^64∧(setL s).foldl (invStep j) q=T∧RowsOk q∧F=[(1,.pointer (some ⟨h.next,0,none⟩)),(2,.pointer (some ⟨h.next+1,0,none⟩)),(3,.pointer (some ⟨h.next+2,0,none⟩)),(4,.int .i64 j),(5,stW s),(10,.int .i64 n),(11,.int .i64 j)]∧
  hh=h.lays [.cells (relC n r) false false,.cells zrel false false,.cells (relC n q) false false]
theorem Inverse_r(g:RelG2 G){n:Nat}{r:Nat→Nat}(hn:n≤64)(hr:RowsOk r)(k:R (relV n (invR n r)) h):WC G 64 [relV n r] h R:=by
 refine WC_pure (WC_enter g.g64 rfl ?_)
 simp -implicitDefEqProofs[c64,c64_body,c64_0,c64_1,relV,relC_take]
 refine New_r g.toRelG ?_
 simp -implicitDefEqProofs[c64_2,relV,relC_take,newN_of hn,zrel_splice,zrel_length]
 refine W_loop (inv64 h n r) n ⟨0,_,rfl,by omega,rfl,fun _=>(by decide:0<2^64),rfl,rfl⟩ ?_
 rintro mm F hh ⟨j,q,rfl,hj,hq,oq,rfl,rfl⟩
 simp -implicitDefEqProofs[c64_11,c64_3]
 by_cases h1:j<n
 ·have w1:IntKind.i64.wrap ((j:Int)+1)=((j+1:Nat):Int):=by rw[wrap64 (by omega)];rfl
  have j64:j<64:=by omega
  simp -implicitDefEqProofs[h1,c64_4,c64_5,show(j:Int)<64 by omega,relC_get j64]
  refine W_loop (inv64b h n r j (invRow r q j)) (setL (r j)).length ⟨r j,q,rfl,hr _,rfl,oq,rfl,rfl⟩ ?_
  rintro mm F hh ⟨s,q',rfl,hs,hT,oq',rfl,rfl⟩
  simp -implicitDefEqProofs[c64_9,c64_6]
  by_cases h0:s=0
  ·subst h0
   rw[setL_zero]at hT
   simp only[List.foldl_nil]at hT
   subst hT
   simp -implicitDefEqProofs[c64_10,w1]
   exact⟨n-(j+1),by omega,j+1,_,rfl,by omega,by rw[List.range_succ,List.foldl_append,←hq];rfl,oq',by simp,rfl⟩
  ·have hw:IntKind.u64.wrap ((s:Int)-1)=((s-1:Nat):Int):=by rw[wrapu (by omega)];omega
   have hs1:s-1<2^64:=by omega
   have lb:=(low_bit h0 hs).1
   have hL:=setL_succ h0 hs
   have e:=iand_nat hs hs1
   simp -implicitDefEqProofs[h0,c64_7]
   refine First_spec g.toListG hs ?_
   simp -implicitDefEqProofs[firstI,h0]
   refine First_spec g.toListG hs ?_
   simp -implicitDefEqProofs[firstI,h0,show(Lib.ctz 64 s:Int)<64 by omega,relC_get lb]
   refine With_spec g.toSetG (oq' _) ?_
   simp -implicitDefEqProofs[show(Lib.ctz 64 s:Int)<64 by omega,relC_set,c64_8,hw,e]
   refine⟨by omega,(setL (s &&& (s-1))).length,by rw[hL];simp,s &&& (s-1),invStep j q' (Lib.ctz 64 s),rfl,Nat.lt_of_le_of_lt Nat.and_le_left hs,?_,invStep_ok oq',by simp,rfl⟩
   rw[←hT,hL];rfl
 ·have e:j=n:=by omega
  subst e
  simp -implicitDefEqProofs[c64_12,relC_take,zrel_splice,zrel_length,Ext.lays]
  subst hq
  exact⟨by simpa[relV]using Clean_rel (m:=h.next),k⟩
theorem relC_splice1{n i v:Nat}{r:Nat→Nat}(h:i<64):splice (relC n r) (1+i) [stW v]=relC n (updR r i v):=by rw[splice_one (by simp;omega),relC_set]
end Go.Jq
namespace Go.Jq
def bitsN:Nat→(Nat→Bool)→Nat
 | 0,_=>0
 | n+1,f=>if f n then bitsN n f ||| 2^n else bitsN n f
theorem bitsN_bit{n i:Nat}{f:Nat→Bool}:(bitsN n f).testBit i=(decide (i<n)&&f i):=by
 induction n with
 | zero=>simp[bitsN]
 | succ n ih=>
  unfold bitsN
  by_cases h:i=n
  ·subst h
   cases e:f i<;>simp[ih,e,Nat.testBit_or,Nat.testBit_two_pow]
  ·have h':¬n=i:=fun e=>h e.symm
   have e2:decide (i<n+1)=decide (i<n):=by simp;omega
   rw[e2]
   split
   ·rw[Nat.testBit_or,ih,Nat.testBit_two_pow];simp[h']
   ·exact ih
theorem lt_of_bits{s n:Nat}(h:∀i,n≤i→s.testBit i=false):s<2^n:=Nat.lt_pow_two_of_testBit s h
theorem bitsN_lt{n:Nat}{f:Nat→Bool}(hn:n≤64):bitsN n f<2^64:=lt_of_bits fun i hi=>by rw[bitsN_bit];simp;omega
def relOf(n:Nat)(P:Nat→Nat→Bool):Nat→Nat:=fun a=>if a<n then bitsN n (P a)else 0
theorem relOf_bit{n a b:Nat}{P:Nat→Nat→Bool}:(relOf n P a).testBit b=(decide (a<n)&&(decide (b<n)&&P a b)):=by
 unfold relOf;split
 ·rename_i h;simp[bitsN_bit,h]
 ·rename_i h;simp[h]
theorem relOf_ok{n:Nat}{P:Nat→Nat→Bool}(hn:n≤64):RowsOk (relOf n P):=fun a=>by
 unfold relOf;split
 ·exact bitsN_lt hn
 ·decide
theorem rows_ext{r q:Nat→Nat}(h:∀a b,(r a).testBit b=(q a).testBit b):r=q:=funext fun a=>Nat.eq_of_testBit_eq (h a)
theorem relOf_ext{n:Nat}{P Q:Nat→Nat→Bool}(h:∀a b,a<n→b<n→P a b=Q a b):relOf n P=relOf n Q:=rows_ext fun a b=>by
 rw[relOf_bit,relOf_bit]
 by_cases ha:a<n
 ·by_cases hb:b<n
  ·rw[h a b ha hb]
  ·simp[hb]
 ·simp[ha]
theorem relOf_none{n:Nat}:(fun _=>0)=relOf n fun _ _=>false:=rows_ext fun a b=>by rw[relOf_bit];simp
theorem addR_of{n:Nat}{P:Nat→Nat→Bool}{a b:Nat}(hn:n≤64):addR n (relOf n P) a b=relOf n fun x y=>P x y||(decide (x=a)&&decide (y=b)):=rows_ext fun x y=>by
 unfold addR
 split
 ·rename_i h
  simp only[inB,Bool.and_eq_true,decide_eq_true_eq]at h
  unfold updR
  have ea:(a:Int).toNat=a:=by omega
  by_cases hx:x=a
  ·subst hx
   rw[if_pos ea.symm,withN_bit,ea,relOf_bit,relOf_bit]
   have:x<n:=by omega
   have e64:decide (0≤(b:Int)∧(b:Int)<64)=true:=by simp;omega
   rw[e64]
   by_cases hy:y=b
   ·subst hy;simp[this];omega
   ·have:¬(b:Int)=y:=by omega
    simp[hy,this]
  ·rw[if_neg (by omega),relOf_bit,relOf_bit];simp[hx]
 ·rename_i h
  simp only[inB,Bool.and_eq_true,decide_eq_true_eq]at h
  rw[relOf_bit,relOf_bit]
  by_cases hx:x=a
  ·by_cases hy:y=b
   ·subst hx;subst hy
    by_cases h1:x<n
    ·by_cases h2:y<n
     ·exfalso;omega
     ·simp[h2]
    ·simp[h1]
   ·simp[hy]
  ·simp[hx]
end Go.Jq
namespace Go.Jq
variable {G:Nat→SFunc} {h:AH} {R:Value→AH→Prop}
theorem SlV.rd{α:Type}{f:α→List Value}{k:Nat}(hf:∀x,(f x).length=k){l:List α}{a:Option Addr}{c:Nat}(s:SlV k h l.length (l.flatMap f) (.slice a l.length c)){i:Nat}(hi:i<l.length):
  ∃b o sp c0 g ro,a=some ⟨b,o,sp⟩∧b<h.next∧h.get b=.cells c0 g ro∧o+i*k+k≤c0.length∧(c0.drop (o+i*k)).take k=f l[i]∧∀j,j<k→c0[o+i*k+j]?=(f l[i])[j]?:=by
 obtain⟨b,o,sp,c',c0,g,ro,e1,e2,e3,e4,e5,e6⟩:=s.row hf hi
 simp only[Value.slice.injEq,true_and]at e1
 exact⟨b,o,sp,c0,g,ro,e1.1,e2,e3,e4,e5,e6⟩
theorem SlV.rds{α:Type}{f:α→List Value}{k:Nat}(hf:∀x,(f x).length=k){l:List α}{a:Option Addr}{c:Nat}(s:SlV k h l.length (l.flatMap f) (.slice a l.length c))(hn:0<l.length):
  ∃b o sp c0 g ro,a=some ⟨b,o,sp⟩∧b<h.next∧h.get b=.cells c0 g ro∧∀i (hi:i<l.length),o+i*k+k≤c0.length∧(c0.drop (o+i*k)).take k=f l[i]∧∀j,j<k→c0[o+i*k+j]?=(f l[i])[j]?:=by
 obtain⟨b,o,sp,c0,g,ro,rfl,e2,e3,_⟩:=s.rd hf hn
 refine⟨b,o,sp,c0,g,ro,rfl,e2,e3,fun i hi=>?_⟩
 obtain⟨b',o',sp',c0',g',ro',q1,q2,q3,q4⟩:=s.rd hf hi
 simp only[Option.some.injEq,Addr.mk.injEq]at q1
 obtain⟨rfl,rfl,rfl⟩:=q1
 rw[e3]at q3
 simp only[ABlk.cells.injEq]at q3
 obtain⟨rfl,rfl,rfl⟩:=q3
 exact q4
def intA(l:List Int)(i:Nat):Int:=(l[i]?).getD 0
theorem intA_of{l:List Int}{i:Nat}(h:i<l.length):intA l i=l[i]:=by simp[intA,h]
structure Ev6 where
 t:Int
 i:Int
 kind:Int
 loc:Int
 r:Int
 w:Int
 deriving DecidableEq
def Ev6.c(e:Ev6):List Value:=[.int .i64 e.t,.int .i64 e.i,.int .i64 e.kind,.int .i64 e.loc,.int .i64 e.r,.int .i64 e.w]
def Ev6.v(e:Ev6):Value:=.agg #[.int .i64 e.t,.int .i64 e.i,.int .i64 e.kind,.int .i64 e.loc,.int .i64 e.r,.int .i64 e.w]
theorem Ev6.c_length(e:Ev6):e.c.length=6:=rfl
def Ev6.reads(e:Ev6):Bool:=decide (e.kind=1)||(decide (e.kind=4)||decide (e.kind=5))
def Ev6.writes(e:Ev6):Bool:=decide (e.kind=2)||decide (e.kind=4)
def Ev6.zero:Ev6:=⟨0,0,0,0,0,0⟩
def evA(l:List Ev6)(i:Nat):Ev6:=(l[i]?).getD .zero
theorem evA_of{l:List Ev6}{i:Nat}(h:i<l.length):evA l i=l[i]:=by simp[evA,h]
structure EvG(G:Nat→SFunc):Prop extends RelG2 G where
 g100:G 100=c100
 g101:G 101=c101
 g52:G 52=c52
theorem Writes_e(g:EvG G){e:Ev6}(k:R (.bool e.writes) h):WC G 101 [e.v] h R:=by
 have key:∀b,e.writes=b→R (.bool b) h:=fun b e=>e▸k
 unfold Ev6.writes at key
 by_cases k1:e.kind=2
 ·refine WC_pure (WC_enter g.g101 rfl ?_)
  simp -implicitDefEqProofs[c101,c101_body,c101_0,c101_1,Ev6.v,k1,Ext.lays]
  exact key _ (by simp[k1])
 ·refine WC_pure (WC_enter g.g101 rfl ?_)
  simp -implicitDefEqProofs[c101,c101_body,c101_0,c101_1,Ev6.v,k1,Ext.lays]
  exact key _ (by simp[k1])
def cutB(i k a b:Nat):Bool:=decide (a<i)||(decide (a=i)&&decide (b<k))
theorem cut_true{n i k:Nat}{P:Nat→Nat→Bool}(hn:n≤64)(e:P i k=true):addR n (relOf n fun a b=>P a b&&cutB i k a b) i k=relOf n fun a b=>P a b&&cutB i (k+1) a b:=by
 rw[addR_of hn]
 refine relOf_ext fun a b _ _=>?_
 unfold cutB
 by_cases ha:a=i
 ·subst ha
  by_cases hb:b=k
  ·subst hb;simp[e]
  ·have:decide (b<k+1)=decide (b<k):=by simp;omega
   simp[hb,this]
 ·simp[ha]
theorem cut_false{n i k:Nat}{P:Nat→Nat→Bool}(e:P i k=false):(relOf n fun a b=>P a b&&cutB i k a b)=relOf n fun a b=>P a b&&cutB i (k+1) a b:=by
 refine relOf_ext fun a b _ _=>?_
 unfold cutB
 by_cases ha:a=i
 ·subst ha
  by_cases hb:b=k
  ·subst hb;simp[e]
  ·have:decide (b<k+1)=decide (b<k):=by simp;omega
   simp[this]
 ·simp[ha]
theorem cut_next{n i:Nat}{P:Nat→Nat→Bool}:(relOf n fun a b=>P a b&&cutB i n a b)=relOf n fun a b=>P a b&&cutB (i+1) 0 a b:=by
 refine relOf_ext fun a b _ hb=>?_
 unfold cutB
 by_cases ha:a=i
 ·subst ha;simp[hb]
 ·have:decide (a<i+1)=decide (a<i):=by simp;omega
  simp[ha,this]
theorem cut_end{n:Nat}{P:Nat→Nat→Bool}:(relOf n fun a b=>P a b&&cutB n 0 a b)=relOf n P:=relOf_ext fun a b ha _=>by simp[cutB,ha]
theorem cut_none{n:Nat}{P:Nat→Nat→Bool}:(fun _=>0)=relOf n fun a b=>P a b&&cutB 0 0 a b:=by
 rw[relOf_none (n:=n)];exact relOf_ext fun a b _ _=>by simp[cutB]
def poE(a b:Ev6):Bool:=(decide (a.t<0)&&decide (0≤b.t))||(decide (0≤a.t)&&(decide (a.t=b.t)&&decide (a.i<b.i)))
def poP(l:List Ev6)(a b:Nat):Bool:=poE (evA l a) (evA l b)
def poN(l:List Ev6):Nat:=if 64<l.length then 0 else l.length
end Go.Jq
namespace Go.Jq
variable {G:Nat→SFunc} {h:AH} {R:Value→AH→Prop}
def NestX{α:Type}(f:α→List Value)(k:Nat)(h:AH)(ths:List (List α))(v:Value):Prop:=∃tvs,SlX 1 h ths.length tvs v∧All2 (fun(l:List α) u=>SlX k h l.length (l.flatMap f) u) ths tvs
theorem NestX.ext{α:Type}{f:α→List Value}{k:Nat}{h h1:AH}{ths:List (List α)}{v:Value}(n:NestX f k h ths v)(x:Ext h h1):NestX f k h1 ths v:=by
 obtain⟨tvs,h1,h2⟩:=n
 exact⟨tvs,h1.ext x,h2.imp fun _ _ _ _ s=>s.ext x⟩
theorem NestX.len{α:Type}{f:α→List Value}{k:Nat}{h:AH}{ths:List (List α)}{v:Value}(n:NestX f k h ths v):∃a c,v=.slice a ths.length c:=by
 obtain⟨tvs,h1,h2⟩:=n;exact h1.len
theorem NestX.at{α:Type}{f:α→List Value}{k:Nat}{h:AH}{ths:List (List α)}{a:Option Addr}{c:Nat}(n:NestX f k h ths (.slice a ths.length c)){i:Nat}(hi:i<ths.length):
  ∃b o sp c0 g ro u,a=some ⟨b,o,sp⟩∧b<h.next∧h.get b=.cells c0 g ro∧c0[o+i]?=some u∧SlX k h ths[i].length (ths[i].flatMap f) u:=by
 obtain⟨tvs,h1,h2⟩:=n
 obtain⟨hm,hs⟩:=h2.at hi
 have h1':SlV 1 h tvs.length (tvs.flatMap oneC) (.slice a ths.length c):=by rw[oneC_fm,←h2.len];exact h1.view
 obtain⟨b,o,sp,c,c0,g,ro,e1,e2,e3,e4,e5,e6⟩:=h1'.row oneC_length hm
 simp only[Value.slice.injEq]at e1
 refine⟨b,o,sp,c0,g,ro,tvs[i],e1.1,e2,e3,?_,hs⟩
 have:=e6 0 (by omega)
 simpa[oneC]using this
structure Exe where
 evs:List Ev6
 rf:List Int
 co:List (List Int)
structure ExeV(h:AH)(x:Exe)(ev rv cv:Value):Prop where
 evs:SlV 6 h x.evs.length (x.evs.flatMap Ev6.c) ev
 rf:SlV 1 h x.rf.length (x.rf.flatMap intC) rv
 co:NestX intC 1 h x.co cv
theorem ExeV.ext{h1:AH}{x:Exe}{ev rv cv:Value}(v:ExeV h x ev rv cv)(e:Ext h h1):ExeV h1 x ev rv cv:=⟨v.evs.ext e,v.rf.ext e,v.co.ext e⟩
def idxF{α:Type}(P:α→Bool)(l:List α):Int:=match l.findIdx? P with
 | some i=>i
 | none=>-1
theorem idxF_at{α:Type}{P:α→Bool}{l:List α}{j:Nat}(hj:j<l.length)(hP:P l[j]=true)(hn:∀i (hi:i<j),P (l[i]'(by omega))=false):idxF P l=j:=by
 unfold idxF
 have:l.findIdx? P=some j:=by
  rw[List.findIdx?_eq_some_iff_getElem]
  exact⟨hj,hP,fun i hi=>by simp[hn i hi]⟩
 rw[this]
theorem idxF_none{α:Type}{P:α→Bool}{l:List α}(hn:∀i (hi:i<l.length),P l[i]=false):idxF P l=-1:=by
 unfold idxF
 have:l.findIdx? P=none:=by
  rw[List.findIdx?_eq_none_iff]
  intro x hx
  obtain⟨i,hi,rfl⟩:=List.getElem_of_mem hx
  exact hn i hi
 rw[this]
theorem idxF_any{α:Type}{P:α→Bool}{l:List α}:decide (0≤idxF P l)=l.any P:=by
 unfold idxF
 cases e:l.findIdx? P with
 | none=>
  rw[List.findIdx?_eq_none_iff]at e
  have:l.any P=false:=by rw[List.any_eq_false];intro x hx;simp[e x hx]
  rw[this];rfl
 | some i=>
  rw[List.findIdx?_eq_some_iff_getElem]at e
  obtain⟨hi,hp,_⟩:=e
  have:l.any P=true:=List.any_eq_true.2 ⟨_,List.getElem_mem hi,hp⟩
  rw[this];simp
def invIx(h:AH)(v fv:Value){α:Type}(P:α→Bool)(l:List α)(mm:Nat)(F:Fr)(hh:AH):Prop:=
 ∃j:Nat,mm=l.length-j∧j≤l.length∧(∀i (hi:i<l.length),i<j→P l[i]=false)∧hh=h∧F=[(0,v),(1,fv),(7,.int .i64 l.length),(8,.int .i64 j)]
def badB(lo:Int)(n:Nat)(x:Int):Bool:=decide (x<lo)||decide ((n:Int)≤x)
def soundM(x:Exe):Bool:=decide (x.evs.length≤64)&&(decide (x.rf.length=x.evs.length)&&(!(x.rf.any (badB (-1) x.evs.length))&&!(x.co.any fun l=>l.any (badB 0 x.evs.length))))
end Go.Jq
namespace Go.Jq
variable {G:Nat→SFunc} {h:AH} {R:Value→AH→Prop}
structure ExeOk(x:Exe):Prop where
 evs:x.evs.length≤9223372036854775806
 co:x.co.length≤9223372036854775806
 rows:∀l∈x.co,l.length≤9223372036854775806
theorem z6:zi 6=[.int .i64 0,.int .i64 0,.int .i64 0,.int .i64 0,.int .i64 0,.int .i64 0]:=rfl
end Go.Jq
namespace Go.Jq
variable {G:Nat→SFunc} {h:AH} {R:Value→AH→Prop}
end Go.Jq
namespace Go.Jq
variable {G:Nat→SFunc} {h:AH} {R:Value→AH→Prop}
end Go.Jq
