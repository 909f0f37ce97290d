/- The abstract machine, carried out: values and memory as data that a kernel can reckon with. -/
import Derived.Test.YteobailpkkljpaaGreatDoorM2
set_option linter.unusedSimpArgs false
set_option linter.unusedVariables false
namespace Go.Jq
inductive Tri (α:Type) where
 | leaf
 | node (o:Option α) (l r:Tri α)
def Tri.get{α:Type}:Tri α→Nat→Option α
 | .leaf,_=>none
 | .node o _ _,0=>o
 | .node _ l r,m+1=>cond (Nat.beq (m % 2) 1) (r.get (m / 2)) (l.get (m / 2))
def Tri.setK{α β:Type}(b:α):Nat→Tri α→Nat→(Tri α→β)→β
 | 0,t,_,k=>k t
 | _+1,.leaf,0,k=>k (.node (some b) .leaf .leaf)
 | f+1,.leaf,m+1,k=>cond (Nat.beq (m % 2) 1) (Tri.setK b f .leaf (m / 2) fun t=>k (.node none .leaf t)) (Tri.setK b f .leaf (m / 2) fun t=>k (.node none t .leaf))
 | _+1,.node _ l r,0,k=>k (.node (some b) l r)
 | f+1,.node o l r,m+1,k=>cond (Nat.beq (m % 2) 1) (Tri.setK b f r (m / 2) fun t=>k (.node o l t)) (Tri.setK b f l (m / 2) fun t=>k (.node o t r))
def Tri.set{α:Type}(t:Tri α)(n:Nat)(b:α):Tri α:=Tri.setK b (n+1) t n id
theorem Tri.setK_eq{α:Type}{b:α}{f:Nat}:∀{β:Type} {t:Tri α} {n:Nat} {k:Tri α→β},Tri.setK b f t n k=k (Tri.setK b f t n id):=by
 induction f with
 | zero=>intro β t n k;simp only[Tri.setK];rfl
 | succ f ih=>
  intro β t n k
  cases t<;>cases n with
  | zero=>simp only[Tri.setK,id]
  | succ m=>
   simp only[Tri.setK]
   cases Nat.beq (m % 2) 1<;>simp only[cond_true,cond_false]<;>(rw[ih];conv=>rhs;arg 1;rw[ih])<;>rfl
theorem Tri.get_zero{α:Type}{o:Option α}{l r:Tri α}:(Tri.node o l r).get 0=o:=by rw[Tri.get]
theorem Tri.get_succ{α:Type}{o:Option α}{l r:Tri α}{m:Nat}:(Tri.node o l r).get (m+1)=if m % 2=1 then r.get (m / 2)else l.get (m / 2):=by
 have:Nat.beq (m % 2) 1=decide (m % 2=1):=by
  by_cases h:m % 2=1
  ·rw[h];rfl
  ·have:m % 2=0:=by omega
   rw[this];rfl
 rw[Tri.get,this]
 by_cases h:m % 2=1<;>simp[h]
theorem Tri.leaf_get{α:Type}{n:Nat}:(Tri.leaf:Tri α).get n=none:=by rw[Tri.get]
theorem Tri.setK_get{α:Type}{b:α}{f:Nat}:∀{t:Tri α} {n m:Nat},n<f→(Tri.setK b f t n id).get m=if m=n then some b else t.get m:=by
 induction f with
 | zero=>intro t n m h;omega
 | succ f ih=>
  intro t n m h
  have hb:∀m,Nat.beq (m % 2) 1=decide (m % 2=1):=fun m=>by
   by_cases h:m % 2=1
   ·rw[h];rfl
   ·have:m % 2=0:=by omega
    rw[this];rfl
  have key:∀(o:Option α) (l r:Tri α) (n:Nat),n<f→(cond (Nat.beq (n % 2) 1) (Tri.setK b f r (n / 2) fun t=>Tri.node o l t) (Tri.setK b f l (n / 2) fun t=>Tri.node o t r)).get m=if m=n+1 then some b else(Tri.node o l r).get m:=by
   intro o l r n hn
   rw[hb]
   cases m with
   | zero=>
    by_cases h1:n % 2=1
    ·simp only[h1,decide_true,cond_true]
     rw[Tri.setK_eq]
     simp[Tri.get_zero]
    ·simp only[h1,decide_false,cond_false]
     rw[Tri.setK_eq]
     simp[Tri.get_zero]
   | succ m=>
    by_cases h1:n % 2=1
    ·simp only[h1,decide_true,cond_true]
     rw[Tri.setK_eq,Tri.get_succ,Tri.get_succ,ih (by omega)]
     by_cases h2:m % 2=1
     ·rw[if_pos h2,if_pos h2]
      by_cases h3:m=n
      ·simp[h3]
      ·rw[if_neg (by omega),if_neg (by omega)]
     ·rw[if_neg h2,if_neg h2,if_neg (by rintro h;omega)]
    ·simp only[h1,decide_false,cond_false]
     rw[Tri.setK_eq,Tri.get_succ,Tri.get_succ,ih (by omega)]
     by_cases h2:m % 2=1
     ·rw[if_pos h2,if_pos h2,if_neg (by rintro h;omega)]
     ·rw[if_neg h2,if_neg h2]
      by_cases h3:m=n
      ·simp[h3]
      ·rw[if_neg (by omega),if_neg (by omega)]
  cases t with
  | leaf=>
   cases n with
   | zero=>cases m with
    | zero=>simp[Tri.setK,Tri.get_zero]
    | succ m=>simp[Tri.setK,Tri.get_succ,Tri.leaf_get]
   | succ n=>
    have:=key none .leaf .leaf n (by omega)
    simp only[Tri.setK]
    refine Eq.trans this ?_
    congr 1
    cases m with
    | zero=>rfl
    | succ m=>rw[Tri.get_succ];simp[Tri.leaf_get]
  | node o l r=>
   cases n with
   | zero=>cases m with
    | zero=>simp[Tri.setK,Tri.get_zero]
    | succ m=>simp[Tri.setK,Tri.get_succ]
   | succ n=>exact key o l r n (by omega)
theorem Tri.set_get{α:Type}{b:α}{t:Tri α}{n m:Nat}:(t.set n b).get m=if m=n then some b else t.get m:=Tri.setK_get (Nat.lt_succ_self n)
inductive EV where
 | raw (v:Value)
 | ptr (b o:Nat)
 | slc (b o:Nat) (sp:Option Nat) (len cap:Nat)
 | mp (b:Nat)
 | fn (f:Nat) (first caps:List EV)
 | agg (l:List EV)
 | tup (l:List EV)
 deriving Inhabited
mutual
def den(n0:Nat):EV→Value
 | .raw v=>v
 | .ptr b o=>.pointer (some ⟨n0+b,o,none⟩)
 | .slc b o sp len cap=>.slice (some ⟨n0+b,o,sp⟩) len cap
 | .mp b=>.map (some (n0+b))
 | .fn f first caps=>.func (.func f) (denL n0 first).toArray (denL n0 caps).toArray
 | .agg l=>.agg (denL n0 l).toArray
 | .tup l=>.tuple (denL n0 l).toArray
def denL(n0:Nat):List EV→List Value
 | []=>[]
 | v::l=>den n0 v::denL n0 l
end
theorem denL_map{n0:Nat}{l:List EV}:denL n0 l=l.map (den n0):=by
 induction l with
 | nil=>rfl
 | cons v l ih=>rw[denL,ih];rfl
inductive EBlk where
 | cells (c:List EV) (grow ro:Bool)
 | map (es:List (EV×EV×Nat)) (clock:Nat)
 | dead
def denB(n0:Nat):EBlk→ABlk
 | .cells c g ro=>.cells (c.map (den n0)) g ro
 | .map es clock=>.map (es.map fun x=>(den n0 x.1,den n0 x.2.1,x.2.2)) clock
 | .dead=>.dead
structure TH where
 next:Nat
 tri:Tri EBlk
def denH(h:AH)(T:TH):AH:=⟨h.next+T.next,fun i=>if i<h.next then h.get i else match T.tri.get (i-h.next)with|some b=>denB h.next b|none=>h.get i⟩
def TH.get(T:TH)(b:Nat):EBlk:=match T.tri.get b with|some b=>b|none=>.dead
def TH.put(T:TH)(b:Nat)(o:EBlk):TH:=⟨T.next,T.tri.set b o⟩
def TH.alloc(T:TH)(o:EBlk):TH:=⟨T.next+1,T.tri.set T.next o⟩
theorem denH_next{h:AH}{T:TH}:(denH h T).next=h.next+T.next:=rfl
theorem denH_get{h:AH}{T:TH}{b:Nat}{x:EBlk}(H:T.get b=x)(hx:x≠.dead):(denH h T).get (h.next+b)=denB h.next x:=by
 simp only[denH,TH.get]at*
 rw[if_neg (by omega),show h.next+b-h.next=b by omega]
 cases e:T.tri.get b with
 | none=>rw[e]at H;exact absurd H.symm hx
 | some y=>rw[e]at H;subst H;rfl
theorem denH_nil{h:AH}:denH h ⟨0,.leaf⟩=h:=by
 cases h with
 | mk n g=>
  simp only[denH,Tri.leaf_get,Nat.add_zero,AH.mk.injEq,true_and]
  funext i
  split<;>rfl
theorem denH_ext{h:AH}{T:TH}{i:Nat}(hi:i<h.next):(denH h T).get i=h.get i:=by
 simp only[denH];rw[if_pos hi]
theorem AH.ext''{a b:AH}(h1:a.next=b.next)(h2:∀i,a.get i=b.get i):a=b:=by
 cases a;cases b;simp only[AH.mk.injEq];exact⟨h1,funext h2⟩
theorem denH_put{h:AH}{T:TH}{b:Nat}{o:EBlk}:denH h (T.put b o)=(denH h T).put (h.next+b) (denB h.next o):=by
 refine AH.ext'' rfl fun i=>?_
 simp only[denH,TH.put,AH.put,Tri.set_get]
 by_cases h1:i<h.next
 ·rw[if_pos h1,if_neg (by omega),if_pos h1]
 ·rw[if_neg h1]
  by_cases h2:i=h.next+b
  ·rw[if_pos h2,if_pos (by omega)]
  ·rw[if_neg h2,if_neg (by omega),if_neg h1]
theorem denH_alloc{h:AH}{T:TH}{o:EBlk}:denH h (T.alloc o)=(denH h T).alloc (denB h.next o):=by
 refine AH.ext'' (by simp[denH,TH.alloc,AH.alloc,Nat.add_assoc]) fun i=>?_
 show _=if i=h.next+T.next then denB h.next o else(denH h T).get i
 simp only[denH,TH.alloc,Tri.set_get]
 by_cases h1:i<h.next
 ·rw[if_pos h1,if_neg (by omega),if_pos h1]
 ·rw[if_neg h1]
  by_cases h2:i=h.next+T.next
  ·rw[if_pos h2,if_pos (by omega)]
  ·rw[if_neg h2,if_neg (by omega),if_neg h1]
def TH.load1(T:TH)(b off:Nat):Option EV:=
 match T.get b with
 | .cells c _ _=>c[off]?
 | _=>none
def TH.load(T:TH)(b off n:Nat):Option (List EV):=
 match T.get b with
 | .cells c _ _=>if off+n≤c.length then some ((c.drop off).take n)else none
 | _=>none
def esplice(c:List EV)(off:Nat)(vs:List EV):List EV:=c.take off++(vs++c.drop (off+vs.length))
def forceL{α β:Type}:List α→(List α→β)→β
 | [],k=>k []
 | a::l,k=>forceL l fun l=>k (a::l)
theorem forceL_eq{α β:Type}{l:List α}{k:List α→β}:forceL l k=k l:=by
 induction l generalizing k with
 | nil=>rfl
 | cons a l ih=>rw[forceL,ih]
def TH.store1(T:TH)(b off:Nat)(v:EV):Option TH:=
 match T.get b with
 | .cells c g false=>if off<c.length then forceL (c.set off v) fun c=>some (T.put b (.cells c g false))else none
 | _=>none
def TH.store(T:TH)(b off:Nat)(vs:List EV):Option TH:=
 match T.get b with
 | .cells c g false=>if off+vs.length≤c.length then forceL (esplice c off vs) fun c=>some (T.put b (.cells c g false))else none
 | _=>none
theorem den_load1{h:AH}{T:TH}{b off:Nat}{v:EV}(H:T.load1 b off=some v):(denH h T).load1 (h.next+b) off=some (den h.next v):=by
 unfold TH.load1 at H
 unfold AH.load1
 split at H
 ·rename_i e
  rw[denH_get e (by simp)]
  simp only[denB,List.getElem?_map,H,Option.map_some]
 ·simp at H
theorem den_load{h:AH}{T:TH}{b off n:Nat}{l:List EV}(H:T.load b off n=some l):(denH h T).load (h.next+b) off n=some (l.map (den h.next)):=by
 unfold TH.load at H
 unfold AH.load
 split at H
 ·rename_i e
  rw[denH_get e (by simp)]
  simp only[denB,List.length_map]
  split at H
  ·rename_i hl
   simp only[Option.some.injEq]at H;subst H
   rw[if_pos hl,List.map_take,List.map_drop]
  ·simp at H
 ·simp at H
theorem den_splice{n0:Nat}{c vs:List EV}{off:Nat}:(esplice c off vs).map (den n0)=splice (c.map (den n0)) off (vs.map (den n0)):=by
 simp[esplice,splice,List.map_take,List.map_drop]
theorem den_store1{h:AH}{T T':TH}{b off:Nat}{v:EV}(H:T.store1 b off v=some T'):(denH h T).store1 (h.next+b) off (den h.next v)=some (denH h T'):=by
 unfold TH.store1 at H
 unfold AH.store1
 split at H
 ·rename_i e
  rw[denH_get e (by simp)]
  simp only[denB,List.length_map]
  split at H
  ·rename_i hl
   rw[forceL_eq]at H
   simp only[Option.some.injEq]at H;subst H
   rw[if_pos hl,denH_put,denB,List.map_set]
  ·simp at H
 ·simp at H
theorem den_store{h:AH}{T T':TH}{b off:Nat}{vs:List EV}(H:T.store b off vs=some T'):(denH h T).store (h.next+b) off (vs.map (den h.next))=some (denH h T'):=by
 unfold TH.store at H
 unfold AH.store
 split at H
 ·rename_i e
  rw[denH_get e (by simp)]
  simp only[denB,List.length_map]
  split at H
  ·rename_i hl
   rw[forceL_eq]at H
   simp only[Option.some.injEq]at H;subst H
   rw[if_pos hl,denH_put,denB,den_splice]
  ·simp at H
 ·simp at H
def cv:Value→EV
 | .agg cs=>.agg (cs.toList.map .raw)
 | .tuple cs=>.tup (cs.toList.map .raw)
 | v=>.raw v
theorem den_raws{n0:Nat}{l:List Value}:(l.map EV.raw).map (den n0)=l:=by
 rw[List.map_map]
 conv=>rhs;rw[←List.map_id l]
 congr 1
theorem den_cv{n0:Nat}{v:Value}:den n0 (cv v)=v:=by
 cases v<;>simp only[cv,den]<;>simp[denL_map,den_raws,-List.map_map]
theorem den_cvs{n0:Nat}{l:List Value}:(l.map cv).map (den n0)=l:=by
 rw[List.map_map]
 conv=>rhs;rw[←List.map_id l]
 congr 1
 funext v
 exact den_cv
abbrev EFr:=List (Nat×EV)
def EFr.get:EFr→Nat→Option EV
 | [],_=>none
 | (k,v)::r,t=>cond (Nat.beq t k) (some v) (EFr.get r t)
def EFr.set:EFr→Nat→EV→EFr
 | [],t,v=>[(t,v)]
 | (k,x)::r,t,v=>cond (Nat.beq t k) ((t,v)::r) (cond (Nat.blt t k) ((t,v)::(k,x)::r) ((k,x)::EFr.set r t v))
def EFr.del:EFr→Nat→EFr
 | [],_=>[]
 | (k,x)::r,t=>cond (Nat.beq t k) (EFr.del r t) ((k,x)::EFr.del r t)
def memB:List Nat→Nat→Bool
 | [],_=>false
 | a::l,k=>cond (Nat.beq k a) true (memB l k)
def EFr.keep:EFr→List Nat→EFr
 | [],_=>[]
 | (k,x)::r,l=>cond (memB l k) ((k,x)::EFr.keep r l) (EFr.keep r l)
def EFr.put(F:EFr):Option Nat→EV→EFr
 | some t,v=>F.set t v
 | none,_=>F
def EFr.unput(F:EFr):Option Nat→EFr
 | some t=>F.del t
 | none=>F
def EFr.undo(F:EFr):Option Nat→EFr
 | some t=>F.set t (.tup [])
 | none=>F
def EFr.val(F:EFr):SOpd→Option EV
 | .tmp t=>F.get t
 | .const v=>some (cv v)
 | .func f=>some (.fn f [] [])
def EFr.from:Nat→List EV→EFr
 | _,[]=>[]
 | i,v::r=>(i,v)::EFr.from (i+1) r
def denF(n0:Nat)(F:EFr):Fr:=F.map fun x=>(x.1,den n0 x.2)
theorem beqN{a b:Nat}:Nat.beq a b=decide (a=b):=by
 by_cases h:a=b
 ·rw[h,Nat.beq_refl];simp
 ·rw[decide_eq_false h]
  cases e:Nat.beq a b with
  | false=>rfl
  | true=>exact absurd (Nat.eq_of_beq_eq_true e) h
theorem bltN{a b:Nat}:Nat.blt a b=decide (a<b):=by
 show Nat.ble (a+1) b=_
 cases e:Nat.ble (a+1) b with
 | true=>rw[decide_eq_true];exact Nat.le_of_ble_eq_true e
 | false=>rw[decide_eq_false];exact fun hh=>by rw[Nat.ble_eq_true_of_le hh]at e;simp at e
theorem brec{α:Type}{a b:α}{p:Prop}[Decidable p]:cond (decide p) b a=if p then b else a:=by
 by_cases h:p<;>simp[h]
theorem memB_eq{l:List Nat}{k:Nat}:memB l k=l.contains k:=by
 induction l with
 | nil=>rfl
 | cons a l ih=>
  simp only[memB,beqN,brec,List.contains_cons,ih]
  by_cases h:k=a<;>simp[h]
variable {n0:Nat} {F:EFr}
theorem denF_get{t:Nat}:(denF n0 F).get t=(F.get t).map (den n0):=by
 induction F with
 | nil=>rfl
 | cons x r ih=>
  obtain⟨k,v⟩:=x
  simp only[EFr.get,beqN,brec]
  show Fr.get ((k,den n0 v)::denF n0 r) t=_
  rw[Fr.get,ih]
  split<;>rfl
theorem denF_set{t:Nat}{v:EV}:denF n0 (F.set t v)=(denF n0 F).set t (den n0 v):=by
 induction F with
 | nil=>rfl
 | cons x r ih=>
  obtain⟨k,u⟩:=x
  show _=Fr.set ((k,den n0 u)::denF n0 r) t (den n0 v)
  simp only[EFr.set,beqN,bltN,brec,Fr.set]
  split
  ·rfl
  ·split
   ·rfl
   ·rw[←ih];rfl
theorem denF_del{t:Nat}:denF n0 (F.del t)=(denF n0 F).del t:=by
 induction F with
 | nil=>rfl
 | cons x r ih=>
  obtain⟨k,u⟩:=x
  show _=Fr.del ((k,den n0 u)::denF n0 r) t
  simp only[EFr.del,beqN,brec,Fr.del]
  split
  ·exact ih
  ·rw[←ih];rfl
theorem denF_keep{l:List Nat}:denF n0 (F.keep l)=(denF n0 F).keep l:=by
 induction F with
 | nil=>rfl
 | cons x r ih=>
  obtain⟨k,u⟩:=x
  show _=Fr.keep ((k,den n0 u)::denF n0 r) l
  simp only[EFr.keep,memB_eq,Fr.keep]
  cases l.contains k
  ·exact ih
  ·simp only[if_true];rw[←ih];rfl
theorem denF_put{d:Option Nat}{v:EV}:denF n0 (F.put d v)=(denF n0 F).put d (den n0 v):=by
 cases d with
 | none=>rfl
 | some t=>exact denF_set
theorem denF_unput{d:Option Nat}:denF n0 (F.unput d)=(denF n0 F).unput d:=by
 cases d with
 | none=>rfl
 | some t=>exact denF_del
theorem denF_undo{d:Option Nat}:denF n0 (F.undo d)=(denF n0 F).undo d:=by
 cases d with
 | none=>rfl
 | some t=>exact denF_set
theorem denF_val{x:SOpd}:(denF n0 F).val x=(F.val x).map (den n0):=by
 cases x with
 | tmp t=>exact denF_get
 | const v=>simp[Fr.val,EFr.val,den_cv]
 | func f=>simp[Fr.val,EFr.val,den,denL]
theorem denF_from{l:List EV}{i:Nat}:denF n0 (EFr.from i l)=Fr.from i (l.map (den n0)):=by
 induction l generalizing i with
 | nil=>rfl
 | cons v l ih=>
  show(i,den n0 v)::denF n0 (EFr.from (i+1) l)=_
  rw[ih];rfl
end Go.Jq
namespace Go.Jq
inductive EOut where
 | val (v:EV) (T:TH)
 | skip (T:TH)
 | call (f:Nat) (args:List EV)
def denO(h:AH):EOut→Out
 | .val v T=>.val (den h.next v) (denH h T)
 | .skip T=>.skip (denH h T)
 | .call f args=>.call f (args.map (den h.next))
abbrev EVal:=SOpd→Option EV
def evals(ρ:EVal):List SOpd→Option (List EV)
 | []=>some []
 | x::r=>match ρ x,evals ρ r with
  | some v,some l=>some (v::l)
  | _,_=>none
def evparts(ρ:EVal):List (Nat×Nat×SOpd)→Option (List (Nat×Nat×EV))
 | []=>some []
 | (o,n,x)::r=>match ρ x,evparts ρ r with
  | some v,some l=>some ((o,n,v)::l)
  | _,_=>none
def eopt(ρ:EVal):Option SOpd→Option (Option Value)
 | none=>some none
 | some x=>match ρ x with
  | some (.raw v)=>some (some v)
  | _=>none
def ecells:EV→Option (List EV)
 | .agg l=>some l
 | .tup _=>none
 | .raw (.agg _)=>none
 | .raw (.tuple _)=>none
 | v=>some [v]
def esfill:List (Nat×Nat×EV)→List EV→Option (List EV)
 | [],cs=>some cs
 | (o,n,v)::r,cs=>
  match ecells v with
  | some l=>if l.length=n∧o+n≤cs.length then esfill r (esplice cs o l)else none
  | none=>none
def ecellEq(k:Nat):EV→EV→Option Bool
 | .raw a,.raw b=>cellEq k a b
 | _,_=>none
def ecellsEq:List Nat→List EV→List EV→Option Bool
 | [],[],[]=>some true
 | k::ks,a::x,b::y=>match ecellEq k a b,ecellsEq ks x y with
  | some p,some q=>some (p&&q)
  | _,_=>none
 | _,_,_=>none
def eisnil(k:Nat):EV→Option Bool
 | .raw v=>snil k v
 | .ptr _ _=>if k=0 then some false else none
 | .slc ..=>if k=1 then some false else none
 | .mp _=>if k=2 then some false else none
 | .fn ..=>if k=3 then some false else none
 | _=>none
def eslice(size b o:Nat)(sp:Option Nat)(len cap:Nat)(lo hi mx:Option Value):Option EV:=
 match sbounds len cap lo hi mx with
 | none=>none
 | some (l,h,m)=>
   match sp with
   | none=>some (if m=l then .slc b o none (h-l) (m-l)else .slc b (o+l*size) none (h-l) (m-l))
   | some k=>
    if k=size then
     if mx.isSome∧cap≠0 then some (if m=l then .slc b o none (h-l) (m-l)else .slc b (o+l*size) none (h-l) (m-l))
     else some (.slc b (o+l*size) (some k) (h-l) (m-l))
    else none
def efirst(T:TH)(size n:Nat):EV→Option (List EV)
 | .raw (.slice none _ _)=>if n=0 then some []else none
 | .slc b o _ _ _=>T.load b o (n*size)
 | .raw (.string s)=>if size=1∧n≤s.size then some ((s.data.toList.take n).map fun b=>.raw (.int .u8 b.toNat))else none
 | _=>none
def elen:EV→Option Nat
 | .raw (.slice none n _)=>some n
 | .slc _ _ _ n _=>some n
 | .raw (.string s)=>some s.size
 | _=>none
def eappend(T:TH)(size bytes:Nat)(x y:EV):Option (EV×TH):=
 match elen y with
 | none=>none
 | some n=>
  match efirst T size n y with
  | none=>none
  | some new=>
   match x with
   | .raw (.slice none len cap)=>
    if(len+n)*bytes>70368744177664 then none else
    if len=0∧cap=0 then
     if n=0 then some (.raw (.slice none 0 0),T)
     else some (.slc T.next 0 (some size) n n,T.alloc (.cells new true false))
    else none
   | .slc b o sp len cap=>
    if(len+n)*bytes>70368744177664 then none else
    if len+n≤cap then
     if n=0 then some (.slc b o sp len cap,T)
     else match T.store b (o+len*size) new with
      | some T'=>some (.slc b o sp (len+n) cap,T')
      | none=>none
    else
     match T.load b o (len*size),T.get b with
     | some old,.cells _ _ ro=>
      match sp with
      | none=>some (.slc T.next 0 (some size) (len+n) (len+n),T.alloc (.cells (old++new) true false))
      | some k=>if k=size∧ro=false then some (.slc T.next 0 (some size) (len+n) (len+n),(T.put b .dead).alloc (.cells (old++new) true false))else none
     | _,_=>none
   | _=>none
def ecopy(T:TH)(size:Nat)(x y:EV):Option (EV×TH):=
 match elen y with
 | none=>none
 | some n=>
  match x with
  | .raw (.slice none len _)=>match efirst T size (min n len) y with
   | none=>none
   | some _=>some (.raw (.int .i64 (min n len:Nat)),T)
  | .slc b o _ len _=>match efirst T size (min n len) y with
   | none=>none
   | some new=>if min n len=0 then some (.raw (.int .i64 0),T)else match T.store b o new with
    | some T'=>some (.raw (.int .i64 (min n len:Nat)),T')
    | none=>none
  | _=>none
def erows:List EV→Option (List Value)
 | []=>some []
 | .raw v::l=>match erows l with
  | some r=>some (v::r)
  | none=>none
 | _=>none
def esop(op:SOp)(ρ:EVal)(T:TH):Option EOut:=
 match op with
 | .bad=>none
 | .mov x=>match ρ x with
  | some v=>some (.val v T)
  | none=>none
 | .pick c a b=>match ρ c with
  | some (.raw (.bool true))=>match ρ a with
   | some x=>some (.val x T)
   | none=>none
  | some (.raw (.bool false))=>match ρ b with
   | some x=>some (.val x T)
   | none=>none
  | _=>none
 | .alloc zs=>some (.val (.ptr T.next 0) (T.alloc (.cells (zs.map cv) false false)))
 | .box x=>match ρ x with
  | some v=>match ecells v with
   | some cs=>some (.val (.ptr T.next 0) (T.alloc (.cells cs false false)))
   | none=>none
  | none=>none
 | .build zs ps=>match evparts ρ ps with
  | some l=>match esfill l (zs.map cv)with
   | some cs=>some (.val (.agg cs) T)
   | none=>none
  | none=>none
 | .mkslice n zs ps=>match evparts ρ ps with
  | some l=>match esfill l (zs.map cv)with
   | some cs=>some (.val (.slc T.next 0 none n n) (T.alloc (.cells cs false false)))
   | none=>none
  | none=>none
 | .load1 a=>match ρ a with
  | some (.ptr b o)=>match T.load1 b o with
   | some v=>some (.val v T)
   | none=>none
  | _=>none
 | .loadN n a=>match ρ a with
  | some (.ptr b o)=>match T.load b o n with
   | some cs=>some (.val (.agg cs) T)
   | none=>none
  | _=>none
 | .store1 a x=>match ρ a,ρ x with
  | some (.ptr b o),some v=>match ecells v with
   | some [u]=>match T.store1 b o u with
    | some T'=>some (.skip T')
    | none=>none
   | _=>none
  | _,_=>none
 | .storeN n a x=>match ρ a,ρ x with
  | some (.ptr b o),some v=>match ecells v with
   | some cs=>if cs.length=n then match T.store b o cs with
    | some T'=>some (.skip T')
    | none=>none
    else none
   | none=>none
  | _,_=>none
 | .nilchk x=>match ρ x with
  | some (.ptr b o)=>some (.val (.ptr b o) T)
  | _=>none
 | .bin op x y=>match ρ x,ρ y with
  | some (.raw a),some (.raw b)=>match sbin op a b with
   | some v=>some (.val (.raw v) T)
   | none=>none
  | _,_=>none
 | .eqB neg x y=>match ρ x,ρ y with
  | some (.raw (.bool a)),some (.raw (.bool b))=>some (.val (.raw (.bool (if neg then !(a == b)else(a == b)))) T)
  | _,_=>none
 | .eqN neg ks x y=>match ρ x,ρ y with
  | some (.agg a),some (.agg b)=>match ecellsEq ks a b with
   | some t=>some (.val (.raw (.bool (if neg then !t else t))) T)
   | none=>none
  | _,_=>none
 | .isnil k neg x=>match ρ x with
  | some v=>match eisnil k v with
   | some t=>some (.val (.raw (.bool (if neg then !t else t))) T)
   | none=>none
  | none=>none
 | .un op x=>match ρ x with
  | some (.raw a)=>match sun op a with
   | some v=>some (.val (.raw v) T)
   | none=>none
  | _=>none
 | .conv k x=>match ρ x with
  | some (.raw (.int _ n))=>some (.val (.raw (.int k (k.wrap n))) T)
  | _=>none
 | .mkfunc f first caps=>match evals ρ first,evals ρ caps with
  | some a,some b=>some (.val (.fn f a b) T)
  | _,_=>none
 | .mkmap=>some (.val (.mp T.next) (T.alloc (.map [] 0)))
 | .mkrow size bytes zs l c=>match ρ l,ρ c with
  | some (.raw (.int _ l)),some (.raw (.int _ c))=>
   if 0≤l∧l≤c∧c*bytes≤70368744177664∧c≤70368744177664∧zs.length=size then
    some (.val (.slc T.next 0 none l.toNat c.toNat) (T.alloc (.cells (List.replicate c.toNat (zs.map cv)).flatten false false)))
   else none
  | _,_=>none
 | .slstr x lo hi=>match ρ x,eopt ρ lo,eopt ρ hi with
  | some (.raw (.string s)),some lo,some hi=>match sbounds s.size s.size lo hi none with
   | some (l,h',_)=>some (.val (.raw (.string (s.extract l h'))) T)
   | none=>none
  | _,_,_=>none
 | .slsl size x lo hi mx=>match eopt ρ lo,eopt ρ hi,eopt ρ mx with
  | some lo,some hi,some mx=>match ρ x with
   | some (.raw (.slice none len cap))=>match sslice size none len cap lo hi mx with
    | some v=>some (.val (.raw v) T)
    | none=>none
   | some (.slc b o sp len cap)=>match eslice size b o sp len cap lo hi mx with
    | some v=>some (.val v T)
    | none=>none
   | _=>none
  | _,_,_=>none
 | .slarr n size a lo hi mx=>match eopt ρ lo,eopt ρ hi,eopt ρ mx with
  | some lo,some hi,some mx=>match ρ a with
   | some (.ptr b o)=>match eslice size b o none n n lo hi mx with
    | some v=>some (.val v T)
    | none=>none
   | _=>none
  | _,_,_=>none
 | .fld off a=>match ρ a with
  | some (.ptr b o)=>some (.val (.ptr b (o+off)) T)
  | _=>none
 | .idxS size x i=>match ρ x,ρ i with
  | some (.slc b o _ len _),some (.raw (.int _ i))=>if 0≤i∧i<len then some (.val (.ptr b (o+i.toNat*size)) T)else none
  | _,_=>none
 | .idxA n size a i=>match ρ a,ρ i with
  | some (.ptr b o),some (.raw (.int _ i))=>if 0≤i∧i<n then some (.val (.ptr b (o+i.toNat*size)) T)else none
  | _,_=>none
 | .idxV1 n x i=>match ρ x,ρ i with
  | some (.agg cs),some (.raw (.int _ i))=>if 0≤i∧i<n then match cs[i.toNat]? with
   | some v=>some (.val v T)
   | none=>none
   else none
  | _,_=>none
 | .idxVN n size x i=>match ρ x,ρ i with
  | some (.agg cs),some (.raw (.int _ i))=>if 0≤i∧i<n then some (.val (.agg ((cs.drop (i.toNat*size)).take size)) T)else none
  | _,_=>none
 | .idxT x i=>match ρ x,ρ i with
  | some (.raw (.string s)),some (.raw (.int _ i))=>if 0≤i then match s.data.toList[i.toNat]? with
   | some b=>some (.val (.raw (.int .u8 b.toNat)) T)
   | none=>none
   else none
  | _,_=>none
 | .part1 off x=>match ρ x with
  | some (.agg cs)=>match cs[off]? with
   | some v=>some (.val v T)
   | none=>none
  | _=>none
 | .partN off n x=>match ρ x with
  | some (.agg cs)=>some (.val (.agg ((cs.drop off).take n)) T)
  | _=>none
 | .extr x i=>match ρ x with
  | some (.tup vs)=>match vs[i]? with
   | some v=>some (.val v T)
   | none=>none
  | _=>none
 | .call f args=>match evals ρ args with
  | some l=>some (.call f l)
  | none=>none
 | .callv f args=>match ρ f,evals ρ args with
  | some (.fn f first caps),some l=>some (.call f (first++(l++caps)))
  | _,_=>none
 | .append size bytes x y=>match ρ x,ρ y with
  | some a,some b=>match eappend T size bytes a b with
   | some (v,T')=>some (.val v T')
   | none=>none
  | _,_=>none
 | .copy size x y=>match ρ x,ρ y with
  | some a,some b=>match ecopy T size a b with
   | some (v,T')=>some (.val v T')
   | none=>none
  | _,_=>none
 | .lenS x=>match ρ x with
  | some (.raw (.slice none n _))=>some (.val (.raw (.int .i64 n)) T)
  | some (.slc _ _ _ n _)=>some (.val (.raw (.int .i64 n)) T)
  | _=>none
 | .lenT x=>match ρ x with
  | some (.raw (.string s))=>some (.val (.raw (.int .i64 s.size)) T)
  | _=>none
 | .lenM x=>match ρ x with
  | some (.raw (.map none))=>some (.val (.raw (.int .i64 0)) T)
  | some (.mp r)=>match T.get r with
   | .map es _=>some (.val (.raw (.int .i64 es.length)) T)
   | _=>none
  | _=>none
 | .mm mx xs=>match evals ρ xs with
  | some l=>match erows l with
   | some (x::r)=>match smm mx x r with
    | some v=>some (.val (.raw v) T)
    | none=>none
   | _=>none
  | _=>none
 | .tostr x=>match ρ x with
  | some (.raw (.int _ n))=>some (.val (.raw (.string (Utf8.encode n))) T)
  | _=>none
 | .clear zs x=>match ρ x with
  | some (.slc b o _ n _)=>if n=0 then none else match T.store b o ((Builtin.zeroCells zs.toArray n).toList.map cv)with
   | some T'=>some (.val (.tup []) T')
   | none=>none
  | _=>none
 | .bstr _=>none
 | .mark x=>match ρ x with
  | some (.slc b o sp n c)=>match T.get b with
   | .cells _ _ false=>some (.val (.slc b o sp n c) T)
   | _=>none
  | _=>none
variable {h:AH} {ρ:SOpd→Option Value} {ρ':EVal} {T:TH}
theorem evals_ok(hρ:∀x,ρ x=(ρ' x).map (den h.next)){l:List SOpd}{vs:List EV}(H:evals ρ' l=some vs):vals ρ l=some (vs.map (den h.next)):=by
 induction l generalizing vs with
 | nil=>simp only[evals,Option.some.injEq]at H;subst H;rfl
 | cons x r ih=>
  simp only[evals]at H
  split at H
  ·rename_i v l h1 h2
   simp only[Option.some.injEq]at H;subst H
   simp only[vals,hρ,h1,ih h2,Option.map_some,List.map_cons]
  ·simp at H
theorem evparts_ok(hρ:∀x,ρ x=(ρ' x).map (den h.next)){l:List (Nat×Nat×SOpd)}{vs:List (Nat×Nat×EV)}(H:evparts ρ' l=some vs):vparts ρ l=some (vs.map fun x=>(x.1,x.2.1,den h.next x.2.2)):=by
 induction l generalizing vs with
 | nil=>simp only[evparts,Option.some.injEq]at H;subst H;rfl
 | cons x r ih=>
  obtain⟨o,n,x⟩:=x
  simp only[evparts]at H
  split at H
  ·rename_i v l h1 h2
   simp only[Option.some.injEq]at H;subst H
   simp only[vparts,hρ,h1,ih h2,Option.map_some,List.map_cons]
  ·simp at H
theorem eopt_ok(hρ:∀x,ρ x=(ρ' x).map (den h.next)){o:Option SOpd}{v:Option Value}(H:eopt ρ' o=some v):optVal ρ o=some v:=by
 cases o with
 | none=>simpa[eopt,optVal]using H
 | some x=>
  simp only[eopt]at H
  split at H
  ·rename_i v h1
   simp only[Option.some.injEq]at H;subst H
   simp only[optVal,hρ,h1,Option.map_some,den]
  ·simp at H
theorem ecells_ok{v:EV}{l:List EV}(H:ecells v=some l):vcells (den h.next v)=some (l.map (den h.next)):=by
 unfold ecells at H
 split at H
 ·simp only[Option.some.injEq]at H;subst H;simp[den,denL_map,vcells]
 ·simp at H
 ·simp at H
 ·simp at H
 ·simp only[Option.some.injEq]at H;subst H
  rename_i h1 h2 h3 h4
  cases v with
  | raw v=>cases v<;>simp_all [den,vcells]
  | agg l=>exact absurd rfl (h1 l)
  | tup l=>exact absurd rfl (h2 l)
  | _=>simp[den,vcells]
theorem esfill_ok{l:List (Nat×Nat×EV)}{cs r:List EV}(H:esfill l cs=some r):sfill (l.map fun x=>(x.1,x.2.1,den h.next x.2.2)) (cs.map (den h.next))=some (r.map (den h.next)):=by
 induction l generalizing cs with
 | nil=>simp only[esfill,Option.some.injEq]at H;subst H;rfl
 | cons x l ih=>
  obtain⟨o,n,v⟩:=x
  simp only[esfill]at H
  split at H
  ·rename_i l' h1
   split at H
   ·rename_i h2
    simp only[List.map_cons,sfill,ecells_ok h1,List.length_map]
    rw[if_pos h2,←den_splice]
    exact ih H
   ·simp at H
  ·simp at H
theorem ecellsEq_ok{ks:List Nat}{a b:List EV}{t:Bool}(H:ecellsEq ks a b=some t):cellsEq ks (a.map (den h.next)) (b.map (den h.next))=some t:=by
 induction ks generalizing a b t with
 | nil=>
  cases a<;>cases b<;>simp[ecellsEq]at H ⊢<;>simpa[cellsEq]using H
 | cons k ks ih=>
  cases a with
  | nil=>simp[ecellsEq]at H
  | cons x a=>cases b with
   | nil=>simp[ecellsEq]at H
   | cons y b=>
    simp only[ecellsEq]at H
    split at H
    ·rename_i p q h1 h2
     simp only[Option.some.injEq]at H
     simp only[List.map_cons,cellsEq,ih h2]
     unfold ecellEq at h1
     split at h1
     ·simp only[den,h1]
      rw[H]
     ·simp at h1
    ·simp at H
theorem eisnil_ok{k:Nat}{v:EV}{t:Bool}(H:eisnil k v=some t):snil k (den h.next v)=some t:=by
 unfold eisnil at H
 split at H
 ·exact H
 all_goals first|(simp at H;done)|(split at H<;>simp at H;rename_i e;subst e;subst H;simp[den,snil])
theorem eslice_ok{size b o:Nat}{sp:Option Nat}{len cap:Nat}{lo hi mx:Option Value}{v:EV}(H:eslice size b o sp len cap lo hi mx=some v):sslice size (some ⟨h.next+b,o,sp⟩) len cap lo hi mx=some (den h.next v):=by
 unfold eslice at H
 unfold sslice
 split at H
 ·simp at H
 ·rename_i l u m hs
  rw[hs]
  simp only
  cases sp with
  | none=>
   simp only[Option.some.injEq]at H
   subst H
   simp only
   split<;>simp[den,addrAdd]
  | some k=>
   simp only at H ⊢
   split at H
   ·rename_i hk
    rw[if_pos hk]
    split at H
    ·rename_i hm
     rw[if_pos hm]
     simp only[Option.some.injEq]at H
     subst H
     split<;>simp[den]
    ·rename_i hm
     rw[if_neg hm]
     simp only[Option.some.injEq]at H
     subst H
     simp[den,addrAdd]
   ·simp at H
theorem elen_ok{v:EV}{n:Nat}(H:elen v=some n):lenOf (den h.next v)=some n:=by
 unfold elen at H
 split at H<;>simp at H<;>subst H<;>rfl
theorem efirst_ok{size n:Nat}{v:EV}{l:List EV}(H:efirst T size n v=some l):firstOf (denH h T) size n (den h.next v)=some (l.map (den h.next)):=by
 unfold efirst at H
 split at H
 ·split at H
  ·rename_i h1;simp only[Option.some.injEq]at H;subst H;simp[den,firstOf,h1]
  ·simp at H
 ·simp only[den,firstOf]
  exact den_load H
 ·split at H
  ·rename_i h1;simp only[Option.some.injEq]at H;subst H
   simp only[den,firstOf]
   rw[if_pos h1,List.map_map]
   congr 1
  ·simp at H
 ·simp at H
theorem eappend_ok{size bytes:Nat}{x y v:EV}{T':TH}(H:eappend T size bytes x y=some (v,T')):sappend (denH h T) size bytes (den h.next x) (den h.next y)=some (den h.next v,denH h T'):=by
 unfold eappend at H
 split at H
 ·simp at H
 ·rename_i n hn
  split at H
  ·simp at H
  ·rename_i new hf
   have hn':=elen_ok (h:=h) hn
   have hf':=efirst_ok (h:=h) hf
   split at H
   ·rename_i len cap
    simp only[den,sappend,hn',hf']
    split at H
    ·simp at H
    ·rename_i h1
     rw[if_neg h1]
     split at H
     ·rename_i h2
      rw[if_pos h2]
      split at H
      ·rename_i h3
       rw[if_pos h3]
       simp only[Option.some.injEq,Prod.mk.injEq]at H
       obtain⟨rfl,rfl⟩:=H
       rfl
      ·rename_i h3
       rw[if_neg h3]
       simp only[Option.some.injEq,Prod.mk.injEq]at H
       obtain⟨rfl,rfl⟩:=H
       rw[denH_alloc];rfl
     ·simp at H
   ·rename_i b o sp len cap
    simp only[den,sappend,hn',hf']
    split at H
    ·simp at H
    ·rename_i h1
     rw[if_neg h1]
     split at H
     ·rename_i h2
      rw[if_pos h2]
      split at H
      ·rename_i h3
       rw[if_pos h3]
       simp only[Option.some.injEq,Prod.mk.injEq]at H
       obtain⟨rfl,rfl⟩:=H
       rfl
      ·rename_i h3
       rw[if_neg h3]
       split at H
       ·rename_i T2 hs
        simp only[Option.some.injEq,Prod.mk.injEq]at H
        obtain⟨rfl,rfl⟩:=H
        simp only[den_store hs]
        rfl
       ·simp at H
     ·rename_i h2
      rw[if_neg h2]
      split at H
      ·rename_i old c g ro hl hg
       simp only[den_load hl,denH_get hg (by simp),denB]
       cases sp with
       | none=>
        simp only[Option.some.injEq,Prod.mk.injEq]at H
        obtain⟨rfl,rfl⟩:=H
        rw[denH_alloc]
        simp[denB,den,denH_next]
       | some k=>
        simp only at H ⊢
        split at H
        ·rename_i h4
         rw[if_pos h4]
         simp only[Option.some.injEq,Prod.mk.injEq]at H
         obtain⟨rfl,rfl⟩:=H
         rw[denH_alloc,denH_put]
         simp[denB,den,denH_next]
        ·simp at H
      ·simp at H
   ·simp at H
theorem ecopy_ok{size:Nat}{x y v:EV}{T':TH}(H:ecopy T size x y=some (v,T')):scopy (denH h T) size (den h.next x) (den h.next y)=some (den h.next v,denH h T'):=by
 unfold ecopy at H
 split at H
 ·simp at H
 ·rename_i n hn
  have hn':=elen_ok (h:=h) hn
  split at H
  ·rename_i len cap
   split at H
   ·simp at H
   ·rename_i new hf
    have hf':=efirst_ok (h:=h) hf
    simp only[Option.some.injEq,Prod.mk.injEq]at H
    obtain⟨rfl,rfl⟩:=H
    simp only[den,scopy,hn',hf']
  ·rename_i b o sp len cap
   split at H
   ·simp at H
   ·rename_i new hf
    have hf':=efirst_ok (h:=h) hf
    simp only[den,scopy,hn',hf']
    split at H
    ·rename_i h1
     rw[if_pos h1]
     simp only[Option.some.injEq,Prod.mk.injEq]at H
     obtain⟨rfl,rfl⟩:=H
     rfl
    ·rename_i h1
     rw[if_neg h1]
     split at H
     ·rename_i T2 hs
      simp only[Option.some.injEq,Prod.mk.injEq]at H
      obtain⟨rfl,rfl⟩:=H
      simp only[den_store hs]
      rfl
     ·simp at H
  ·simp at H
theorem erows_ok{l:List EV}{vs:List Value}(H:erows l=some vs):l.map (den h.next)=vs:=by
 induction l generalizing vs with
 | nil=>simp only[erows,Option.some.injEq]at H;subst H;rfl
 | cons x l ih=>
  cases x with
  | raw v=>
   simp only[erows]at H
   split at H
   ·rename_i r hr
    simp only[Option.some.injEq]at H;subst H
    rw[List.map_cons,ih hr];rfl
   ·simp at H
  | _=>simp[erows]at H
theorem ptr_ptr'{b o:Nat}:ptr (.pointer (some ⟨b,o,none⟩))=some (b,o):=rfl
theorem ptr_ptr{n0 b o:Nat}:ptr (den n0 (.ptr b o))=some (n0+b,o):=rfl
theorem esop_ok(hρ:∀x,ρ x=(ρ' x).map (den h.next)){op:SOp}{o:EOut}(H:esop op ρ' T=some o):sop op ρ (denH h T)=some (denO h o):=by
 cases op<;>simp only[esop]at H
 case bad=>simp at H
 case alloc zs=>
  simp only[Option.some.injEq]at H;subst H
  simp only[sop,denO,denH_alloc,denB,den_cvs,den,denH_next]
 case mkmap=>
  simp only[Option.some.injEq]at H;subst H
  simp only[sop,denO,denH_alloc,denB,List.map_nil,den,denH_next]
 case pick c a b=>
  (repeat' split at H)<;>try (simp at H;done)
  all_goals
   rename_i hc _ v hv
   simp only[Option.some.injEq]at H;subst H
   simp only[sop,hρ,hc,hv,Option.map_some,den,denO]
  ·cases ρ' b<;>rfl
  ·cases ρ' a<;>rfl
 case box x=>
  (repeat' split at H)<;>try (simp at H;done)
  rename_i hv _ l hl
  simp only[Option.some.injEq]at H;subst H
  simp only[sop,hρ,hv,Option.map_some,ecells_ok hl,denO,denH_alloc,denB,den,denH_next]
 case build zs ps=>
  (repeat' split at H)<;>try (simp at H;done)
  rename_i h1 _ l h2
  simp only[Option.some.injEq]at H;subst H
  have:=esfill_ok (h:=h) h2
  rw[den_cvs]at this
  simp only[sop,evparts_ok hρ h1,this,denO,den,denL_map]
 case mkslice n zs ps=>
  (repeat' split at H)<;>try (simp at H;done)
  rename_i h1 _ l h2
  simp only[Option.some.injEq]at H;subst H
  have:=esfill_ok (h:=h) h2
  rw[den_cvs]at this
  simp only[sop,evparts_ok hρ h1,this,denO,den,denL_map,denH_alloc,denB,denH_next]
 case load1 a=>
  (repeat' split at H)<;>try (simp at H;done)
  rename_i h1 _ v h2
  simp only[Option.some.injEq]at H;subst H
  simp only[sop,hρ,h1,Option.map_some,Option.bind_some,ptr_ptr,den_load1 h2,denO]
 case loadN n a=>
  (repeat' split at H)<;>try (simp at H;done)
  rename_i h1 _ v h2
  simp only[Option.some.injEq]at H;subst H
  simp only[sop,hρ,h1,Option.map_some,Option.bind_some,ptr_ptr,ptr_ptr',den_load h2,denO,den,denL_map]
 case store1 a x=>
  (repeat' split at H)<;>try (simp at H;done)
  rename_i h1 h2 _ u h3 _ T' h4
  simp only[Option.some.injEq]at H;subst H
  simp only[sop,hρ,h1,h2,Option.map_some,Option.bind_some,ptr_ptr,ecells_ok h3,List.map_cons,List.map_nil,den_store1 h4,denO]
 case storeN n a x=>
  (repeat' split at H)<;>try (simp at H;done)
  rename_i h1 h2 _ u h3 hl _ T' h4
  simp only[Option.some.injEq]at H;subst H
  simp only[sop,hρ,h1,h2,Option.map_some,Option.bind_some,ptr_ptr,ecells_ok h3,List.length_map,den_store h4,denO,hl,if_true]
 case eqN neg ks x y=>
  (repeat' split at H)<;>try (simp at H;done)
  all_goals
   rename_i h1 h2 _ t h3 hn
   simp only[Option.some.injEq]at H;subst H
   have:=ecellsEq_ok (h:=h) h3
   simp[sop,hρ,h1,h2,den,denL_map,this,denO,hn]
 case isnil k neg x=>
  (repeat' split at H)<;>try (simp at H;done)
  all_goals
   rename_i h1 _ t h3 hn
   simp only[Option.some.injEq]at H;subst H
   have:=eisnil_ok (h:=h) h3
   simp[sop,hρ,h1,this,denO,den,hn]
 case mkfunc f a b=>
  (repeat' split at H)<;>try (simp at H;done)
  rename_i h1 h2
  simp only[Option.some.injEq]at H;subst H
  simp only[sop,evals_ok hρ h1,evals_ok hρ h2,denO,den,denL_map]
 case mkrow size bytes zs l c=>
  (repeat' split at H)<;>try (simp at H;done)
  rename_i h1 h2 h3
  simp only[Option.some.injEq]at H;subst H
  simp only[sop,hρ,h1,h2,Option.map_some,den]
  rw[if_pos h3]
  simp only[denO,denH_alloc,denB,den,denH_next]
  rw[List.map_flatten,List.map_replicate,den_cvs]
 case slstr x lo hi=>
  (repeat' split at H)<;>try (simp at H;done)
  rename_i h1 h2 h3 _ l h' m h4
  simp only[Option.some.injEq]at H;subst H
  simp only[sop,hρ,h1,Option.map_some,den,eopt_ok hρ h2,eopt_ok hρ h3,h4,denO]
 case slsl size x lo hi mx=>
  (repeat' split at H)<;>try (simp at H;done)
  ·rename_i h2 h3 h4 _ _ _ h1 _ v h5
   simp only[Option.some.injEq]at H;subst H
   simp only[sop,hρ,h1,Option.map_some,den,eopt_ok hρ h2,eopt_ok hρ h3,eopt_ok hρ h4,h5,denO]
  ·rename_i h2 h3 h4 _ _ _ _ _ _ h1 _ v h5
   simp only[Option.some.injEq]at H;subst H
   simp only[sop,hρ,h1,Option.map_some,den,eopt_ok hρ h2,eopt_ok hρ h3,eopt_ok hρ h4,eslice_ok (h:=h) h5,denO]
 case slarr n size a lo hi mx=>
  (repeat' split at H)<;>try (simp at H;done)
  rename_i h2 h3 h4 _ _ _ h1 _ v h5
  simp only[Option.some.injEq]at H;subst H
  simp only[sop,hρ,h1,Option.map_some,Option.bind_some,ptr_ptr,eopt_ok hρ h2,eopt_ok hρ h3,eopt_ok hρ h4,eslice_ok (h:=h) h5,denO]
 case idxVN n size x i=>
  (repeat' split at H)<;>try (simp at H;done)
  rename_i h1 h2 h3
  simp only[Option.some.injEq]at H;subst H
  simp only[sop,hρ,h1,h2,Option.map_some,den]
  rw[if_pos h3]
  simp only[denO,den,denL_map,List.map_take,List.map_drop]
 case idxV1 n x i=>
  (repeat' split at H)<;>try (simp at H;done)
  rename_i h1 h2 h3 _ v h4
  simp only[Option.some.injEq]at H;subst H
  simp only[sop,hρ,h1,h2,Option.map_some,den]
  rw[if_pos h3]
  simp only[denL_map,List.getElem?_map,h4,Option.map_some,denO]
 case part1 off x=>
  (repeat' split at H)<;>try (simp at H;done)
  rename_i h1 _ v h4
  simp only[Option.some.injEq]at H;subst H
  simp only[sop,hρ,h1,Option.map_some,den,denL_map,List.getElem?_map,h4,denO]
 case partN off n x=>
  (repeat' split at H)<;>try (simp at H;done)
  rename_i h1
  simp only[Option.some.injEq]at H;subst H
  simp only[sop,hρ,h1,Option.map_some,den,denL_map,List.map_take,List.map_drop,denO]
 case extr x i=>
  (repeat' split at H)<;>try (simp at H;done)
  rename_i h1 _ v h4
  simp only[Option.some.injEq]at H;subst H
  simp only[sop,hρ,h1,Option.map_some,den,denL_map,List.getElem?_map,h4,denO]
 case call f args=>
  (repeat' split at H)<;>try (simp at H;done)
  rename_i h1
  simp only[Option.some.injEq]at H;subst H
  simp only[sop,evals_ok hρ h1,denO]
 case callv f args=>
  (repeat' split at H)<;>try (simp at H;done)
  rename_i h1 h2
  simp only[Option.some.injEq]at H;subst H
  simp only[sop,hρ,h1,evals_ok hρ h2,Option.map_some,den,denL_map,denO,List.map_append]
 case append size bytes x y=>
  (repeat' split at H)<;>try (simp at H;done)
  rename_i h1 h2 _ v T' h3
  simp only[Option.some.injEq]at H;subst H
  simp only[sop,hρ,h1,h2,Option.map_some,eappend_ok h3,denO]
 case copy size x y=>
  (repeat' split at H)<;>try (simp at H;done)
  rename_i h1 h2 _ v T' h3
  simp only[Option.some.injEq]at H;subst H
  simp only[sop,hρ,h1,h2,Option.map_some,ecopy_ok h3,denO]
 case lenM x=>
  (repeat' split at H)<;>try (simp at H;done)
  ·rename_i h1
   simp only[Option.some.injEq]at H;subst H
   simp only[sop,hρ,h1,Option.map_some,den,denO]
  ·rename_i h1 _ es c h2
   simp only[Option.some.injEq]at H;subst H
   simp only[sop,hρ,h1,Option.map_some,den,denH_get h2 (by simp),denB,List.length_map,denO]
 case tostr x=>
  (repeat' split at H)<;>try (simp at H;done)
  rename_i h1
  simp only[Option.some.injEq]at H;subst H
  simp only[sop,hρ,h1,Option.map_some,den,denO]
 case clear zs x=>
  (repeat' split at H)<;>try (simp at H;done)
  rename_i h1 hn _ T' h3
  simp only[Option.some.injEq]at H;subst H
  have:=den_store (h:=h) h3
  rw[den_cvs]at this
  simp only[sop,hρ,h1,Option.map_some,den,denL]
  rw[if_neg hn,this]
  rfl
 case mark x=>
  (repeat' split at H)<;>try (simp at H;done)
  rename_i h1 _ c g h2
  simp only[Option.some.injEq]at H;subst H
  simp only[sop,hρ,h1,Option.map_some,den,denH_get h2 (by simp),denB,denO]
 case mm mx xs=>
  (repeat' split at H)<;>try (simp at H;done)
  rename_i h1 _ x r h2 _ v h3
  simp only[Option.some.injEq]at H;subst H
  simp only[sop,evals_ok hρ h1,erows_ok h2,h3,denO,den]
 all_goals (repeat' split at H)
 all_goals try (simp at H;done)
 all_goals (simp only[Option.some.injEq]at H;subst H)
 all_goals simp_all [sop,denO,den,ptr_ptr,ptr_ptr']
end Go.Jq
namespace Go.Jq
def forceN{β:Type}:Nat→(Nat→β)→β
 | 0,k=>k 0
 | n+1,k=>k (n+1)
def forceI{β:Type}:Int→(Int→β)→β
 | .ofNat n,k=>forceN n fun n=>k (.ofNat n)
 | .negSucc n,k=>forceN n fun n=>k (.negSucc n)
def forceR{β:Type}:Value→(Value→β)→β
 | .int i n,k=>forceI n fun n=>k (.int i n)
 | .bool b,k=>cond b (k (.bool true)) (k (.bool false))
 | .slice a n c,k=>forceN n fun n=>forceN c fun c=>k (.slice a n c)
 | v,k=>k v
def forceV{β:Type}:EV→(EV→β)→β
 | .raw v,k=>forceR v fun v=>k (.raw v)
 | .ptr b o,k=>forceN b fun b=>forceN o fun o=>k (.ptr b o)
 | .slc b o sp n c,k=>forceN b fun b=>forceN o fun o=>forceN n fun n=>forceN c fun c=>k (.slc b o sp n c)
 | .mp b,k=>forceN b fun b=>k (.mp b)
 | .fn f a b,k=>forceL a fun a=>forceL b fun b=>k (.fn f a b)
 | .agg l,k=>forceL l fun l=>k (.agg l)
 | .tup l,k=>forceL l fun l=>k (.tup l)
def forceT{β:Type}:TH→(TH→β)→β
 | ⟨n,.leaf⟩,k=>forceN n fun n=>k ⟨n,.leaf⟩
 | ⟨n,.node o l r⟩,k=>forceN n fun n=>k ⟨n,.node o l r⟩
section
variable {β:Type}
theorem forceN_eq{n:Nat}{k:Nat→β}:forceN n k=k n:=by cases n<;>rfl
theorem forceI_eq{n:Int}{k:Int→β}:forceI n k=k n:=by cases n<;>simp only[forceI,forceN_eq]
theorem forceR_eq{v:Value}{k:Value→β}:forceR v k=k v:=by
 cases v<;>simp only[forceR,forceI_eq,forceN_eq]
 rename_i b;cases b<;>rfl
theorem forceV_eq{v:EV}{k:EV→β}:forceV v k=k v:=by
 cases v<;>simp only[forceV,forceR_eq,forceN_eq,forceL_eq]
theorem forceT_eq{T:TH}{k:TH→β}:forceT T k=k T:=by
 obtain⟨n,t⟩:=T
 cases t<;>simp only[forceT,forceN_eq]
end
def EFr.setK{β:Type}:EFr→Nat→EV→(EFr→β)→β
 | [],t,v,k=>k [(t,v)]
 | (a,x)::r,t,v,k=>cond (Nat.beq t a) (k ((t,v)::r)) (cond (Nat.blt t a) (k ((t,v)::(a,x)::r)) (EFr.setK r t v fun r=>k ((a,x)::r)))
theorem EFr.setK_eq{β:Type}{F:EFr}{t:Nat}{v:EV}{k:EFr→β}:F.setK t v k=k (F.set t v):=by
 induction F generalizing k with
 | nil=>rfl
 | cons x r ih=>
  obtain⟨a,x⟩:=x
  simp only[EFr.setK,EFr.set,ih]
  cases Nat.beq t a<;>cases Nat.blt t a<;>rfl
def EFr.keepK{β:Type}:EFr→List Nat→(EFr→β)→β
 | [],_,k=>k []
 | (a,x)::r,l,k=>cond (memB l a) (EFr.keepK r l fun r=>k ((a,x)::r)) (EFr.keepK r l k)
theorem EFr.keepK_eq{β:Type}{F:EFr}{l:List Nat}{k:EFr→β}:F.keepK l k=k (F.keep l):=by
 induction F generalizing k with
 | nil=>rfl
 | cons x r ih=>
  obtain⟨a,x⟩:=x
  simp only[EFr.keepK,EFr.keep,ih]
  cases memB l a<;>rfl
def EFr.putK{β:Type}(F:EFr):Option Nat→EV→(EFr→β)→β
 | some t,v,k=>F.setK t v k
 | none,_,k=>k F
theorem EFr.putK_eq{β:Type}{F:EFr}{d:Option Nat}{v:EV}{k:EFr→β}:F.putK d v k=k (F.put d v):=by
 cases d with
 | none=>rfl
 | some t=>exact EFr.setK_eq
def EFr.undoK{β:Type}(F:EFr):Option Nat→(EFr→β)→β
 | some t,k=>F.setK t (.tup []) k
 | none,k=>k F
theorem EFr.undoK_eq{β:Type}{F:EFr}{d:Option Nat}{k:EFr→β}:F.undoK d k=k (F.undo d):=by
 cases d with
 | none=>rfl
 | some t=>exact EFr.setK_eq
def EFr.fromK{β:Type}:Nat→List EV→(EFr→β)→β
 | _,[],k=>k []
 | i,v::r,k=>forceN i fun i=>EFr.fromK (i+1) r fun F=>k ((i,v)::F)
theorem EFr.fromK_eq{β:Type}{l:List EV}{i:Nat}{k:EFr→β}:EFr.fromK i l k=k (EFr.from i l):=by
 induction l generalizing i k with
 | nil=>rfl
 | cons v l ih=>simp only[EFr.fromK,forceN_eq,ih,EFr.from]
def eguard(F:EFr):Option (Nat×Bool)→Option Bool
 | none=>some true
 | some (t,want)=>match F.get t with
  | some (.raw (.bool b))=>some (b == want)
  | some (.tup _)=>some false
  | _=>none
theorem eguard_ok{n0:Nat}{F:EFr}{g:Option (Nat×Bool)}{b:Bool}(H:eguard F g=some b):gok (denF n0 F) g=some b:=by
 cases g with
 | none=>exact H
 | some x=>
  obtain⟨t,w⟩:=x
  simp only[eguard]at H
  simp only[gok,denF_get]
  split at H
  ·rename_i h1;rw[h1];simpa[den]using H
  ·rename_i h1;rw[h1];simpa[den]using H
  ·simp at H
def rawEq:Value→Value→Bool
 | .int k a,.int k' b=>decide (k=k')&&decide (a=b)
 | .bool a,.bool b=>a == b
 | .string a,.string b=>decide (a.data=b.data)
 | .pointer none,.pointer none=>true
 | .slice none n c,.slice none n' c'=>Nat.beq n n'&&Nat.beq c c'
 | .map none,.map none=>true
 | .nilFunc,.nilFunc=>true
 | _,_=>false
def sameF:EV→EV→Bool
 | .raw a,.raw b=>rawEq a b
 | .ptr b o,.ptr b' o'=>Nat.beq b b'&&Nat.beq o o'
 | .slc b o sp n c,.slc b' o' sp' n' c'=>Nat.beq b b'&&(Nat.beq o o'&&(decide (sp=sp')&&(Nat.beq n n'&&Nat.beq c c')))
 | .mp b,.mp b'=>Nat.beq b b'
 | _,_=>false
def sameL:List EV→List EV→Bool
 | [],[]=>true
 | a::l,b::l'=>sameF a b&&sameL l l'
 | _,_=>false
def sameG:EV→EV→Bool
 | .agg l,.agg l'=>sameL l l'
 | a,b=>sameF a b
def sameM:List EV→List EV→Bool
 | [],[]=>true
 | a::l,b::l'=>sameG a b&&sameM l l'
 | _,_=>false
def sameV:EV→EV→Bool
 | .agg l,.agg l'=>sameL l l'
 | .tup l,.tup l'=>sameL l l'
 | .fn f a b,.fn f' a' b'=>Nat.beq f f'&&(sameM a a'&&sameM b b')
 | a,b=>sameF a b
def sameB:EBlk→EBlk→Bool
 | .cells c g ro,.cells c' g' ro'=>sameL c c'&&(g == g'&&ro == ro')
 | .map [] c,.map [] c'=>Nat.beq c c'
 | _,_=>false
theorem rawEq_ok{a b:Value}(h:rawEq a b=true):a=b:=by
 unfold rawEq at h
 split at h<;>simp_all [beqN]
 rename_i a b
 cases a;cases b;simp_all
theorem sameF_ok{a b:EV}(h:sameF a b=true):a=b:=by
 unfold sameF at h
 split at h<;>simp_all [beqN]
 exact rawEq_ok h
theorem sameL_ok:∀{a b:List EV},sameL a b=true→a=b
 | [],[],_=>rfl
 | [],b::l',h=>by simp[sameL]at h
 | a::l,[],h=>by simp[sameL]at h
 | a::l,b::l',h=>by
  simp only[sameL,Bool.and_eq_true]at h
  rw[sameF_ok h.1,sameL_ok h.2]
theorem sameG_ok{a b:EV}(h:sameG a b=true):a=b:=by
 unfold sameG at h
 split at h
 ·rw[sameL_ok h]
 ·exact sameF_ok h
theorem sameM_ok:∀{a b:List EV},sameM a b=true→a=b
 | [],[],_=>rfl
 | [],b::l',h=>by simp[sameM]at h
 | a::l,[],h=>by simp[sameM]at h
 | a::l,b::l',h=>by
  simp only[sameM,Bool.and_eq_true]at h
  rw[sameG_ok h.1,sameM_ok h.2]
theorem sameV_ok{a b:EV}(h:sameV a b=true):a=b:=by
 unfold sameV at h
 split at h
 ·rw[sameL_ok h]
 ·rw[sameL_ok h]
 ·simp only[Bool.and_eq_true,beqN,decide_eq_true_eq]at h
  rw[h.1,sameM_ok h.2.1,sameM_ok h.2.2]
 ·exact sameF_ok h
theorem sameB_ok{a b:EBlk}(h:sameB a b=true):a=b:=by
 unfold sameB at h
 split at h
 ·simp only[Bool.and_eq_true,beq_iff_eq]at h
  rw[sameL_ok h.1,h.2.1,h.2.2]
 ·simp only[beqN,decide_eq_true_eq]at h
  rw[h]
 ·simp at h
theorem sameB_dead{a b:EBlk}(h:sameB a b=true):b≠.dead:=by
 rintro rfl
 cases a<;>simp[sameB]at h
structure ERec where
 id:Nat
 op:SOp
 F:EFr
 v:EV
 hi:Nat
def denR(n0:Nat)(r:ERec):Rec:=⟨r.id,r.op,denF n0 r.F,den n0 r.v,r.hi⟩
def ERec.same(r:ERec)(T:TH):Bool:=match esop r.op r.F.val T with
 | some (.val v _)=>sameV v r.v
 | _=>false
theorem ERec.same_ok{h:AH}{T:TH}{r:ERec}(hs:r.op.still=true)(H:r.same T=true):(denR h.next r).same (denH h T):=by
 unfold ERec.same at H
 split at H
 ·rename_i v T' e
  have e2:=esop_ok (h:=h) (ρ:=(denF h.next r.F).val) (fun x=>denF_val) e
  obtain⟨u,e3⟩:=still_out hs e2
  rw[e3]at e2
  simp only[denO,Out.val.injEq]at e3
  unfold Rec.same
  refine e2.trans ?_
  rw[←e3.1,sameV_ok H]
  rfl
 ·simp at H
structure ESt where
 b:Nat
 off:Nat
 cs:List EV
def denS(n0:Nat)(s:ESt):St:=⟨n0+s.b,s.off,s.cs.map (den n0)⟩
def ESt.fits(s:ESt)(T:TH):Bool:=
 match T.get s.b with
 | .cells c _ ro=>!ro&&Nat.ble (s.off+s.cs.length) c.length
 | _=>false
def ESt.put(T:TH)(s:ESt):TH:=
 match T.get s.b with
 | .cells c g ro=>cond (Nat.ble (s.off+s.cs.length) c.length) (T.put s.b (.cells (esplice c s.off s.cs) g ro)) T
 | _=>T
def eapart(b o n:Nat)(t:ESt):Bool:=!Nat.beq b t.b||(Nat.ble (o+n) t.off||Nat.ble (t.off+t.cs.length) o)
def estOf(o:SOper)(F:EFr):Option ESt:=
 match o.op with
 | .store1 a x=>match (F.keep o.uses).val a,(F.keep o.uses).val x with
  | some (.ptr b off),some v=>match ecells v with
   | some [u]=>some ⟨b,off,[u]⟩
   | _=>none
  | _,_=>none
 | .storeN n a x=>match (F.keep o.uses).val a,(F.keep o.uses).val x with
  | some (.ptr b off),some v=>match ecells v with
   | some cs=>if cs.length=n then some ⟨b,off,cs⟩else none
   | none=>none
  | _,_=>none
 | _=>none
def estsOf(F:EFr):List SOper→Option (List ESt)
 | []=>some []
 | o::l=>match estOf o F,estsOf F l with
  | some s,some r=>some (s::r)
  | _,_=>none
def estsOk(T:TH):List ESt→Bool
 | []=>true
 | s::l=>s.fits T&&(l.all (eapart s.b s.off s.cs.length)&&estsOk T l)
def ERec.apart(r:ERec)(s:ESt):Bool:=
 match r.op with
 | .load1 a=>match r.F.val a with
  | some (.ptr b o)=>eapart b o 1 s
  | _=>false
 | .loadN n a=>match r.F.val a with
  | some (.ptr b o)=>eapart b o n s
  | _=>false
 | .lenM _=>true
 | _=>false
def ecrossOk(rs:List ERec)(fl:List (Nat×Nat×EBlk)):List SOper→List ESt→Bool
 | o::l,s::ss=>(rs.all fun r=>o.dep.contains r.id||r.apart s)&&((fl.all fun x=>o.dep.contains x.1||!Nat.beq s.b x.2.1)&&ecrossOk rs fl l ss)
 | _,_=>true
def recsE(n:Nat)(T:TH)(rs:List ERec):Bool:=rs.all fun x=>!Nat.ble n x.hi||x.same T
def flE(dep:List Nat)(T:TH)(fl:List (Nat×Nat×EBlk)):Bool:=fl.all fun x=>dep.contains x.1||sameB (T.get x.2.1) x.2.2
abbrev ECall:=Nat→List EV→TH→Option (EV×TH)
abbrev ELoop:=List Nat→SCode→EFr→TH→Option (SExit×EFr×TH)
def opsE(call:ECall):List SOper→EFr→TH→Option (EFr×TH)
 | [],F,T=>some (F,T)
 | o::l,F,T=>match eguard F o.guard with
  | some false=>F.undoK o.dst fun F=>opsE call l F T
  | some true=>match esop o.op F.val T with
   | some (.val v T)=>forceV v fun v=>F.putK o.dst v fun F=>forceT T fun T=>opsE call l F T
   | some (.skip T)=>forceT T fun T=>opsE call l (F.unput o.dst) T
   | some (.call f args)=>match call f args T with
    | some (v,T)=>forceV v fun v=>F.putK o.dst v fun F=>forceT T fun T=>opsE call l F T
    | none=>none
   | none=>none
  | none=>none
def qopsE:List SOper→EFr→TH→Option (EFr×TH)
 | [],F,T=>some (F,T)
 | o::l,F,T=>match eguard (F.keep o.uses) o.guard with
  | some false=>qopsE l (F.unput o.dst) T
  | some true=>cond o.op.still (match esop o.op (F.keep o.uses).val T with
   | some (.val v _)=>forceV v fun v=>F.putK o.dst v fun F=>qopsE l F T
   | _=>none) none
  | none=>none
def dopsE (call : ECall) (batch : List SOper) : List SOper → EFr → TH → List TH → List ERec → List (Nat × Nat × EBlk) → Option (EFr × TH)
  | [], F, T, past, rs, fl => cond (recsE past.length T rs) (match estsOf F batch with
    | some ss => cond (estsOk T ss && ecrossOk rs fl batch ss) (some (F, ss.foldl ESt.put T)) none
    | none => none) none
  | o :: l, F, T, past, rs, fl => cond o.moves
    (cond (recsE past.length T rs) (match eguard (F.keep o.uses) o.guard with
     | some false => cond (flE o.dep T fl) (dopsE call batch l (F.unput o.dst) T (T :: past) rs fl) none
     | none => none
     | some true => match esop o.op (F.keep o.uses).val T with
      | some (.val v T1) => cond (flE o.dep T1 fl) (forceV v fun v => F.putK o.dst v fun F => forceT T1 fun T1 => dopsE call batch l F T1 (T :: past) rs fl) none
      | some (.skip T1) => cond (flE o.dep T1 fl) (forceT T1 fun T1 => dopsE call batch l (F.unput o.dst) T1 (T :: past) rs fl) none
      | some (.call f args) => match call f args T with
        | some (v, T1) => cond (flE o.dep T1 fl) (forceV v fun v => F.putK o.dst v fun F => forceT T1 fun T1 => dopsE call batch l F T1 (T :: past) rs fl) none
        | none => none
      | none => none) none)
    (match eguard (F.keep o.uses) o.guard with
      | some false => dopsE call batch l (F.unput o.dst) T past rs fl
      | some true => match esop o.op (F.keep o.uses).val T with
        | some (.val v T1) => cond o.op.float
          (forceV v fun v => F.putK o.dst v fun F => forceT T1 fun T1 => dopsE call batch l F T1 past rs ((o.id, T.next, T1.get T.next) :: fl))
          (cond o.op.quiet (forceV v fun v => F.putK o.dst v fun F => dopsE call batch l F T past rs fl)
            (cond (o.op.still && (past.take (past.length - o.lo)).all (ERec.same ⟨o.id, o.op, F.keep o.uses, v, o.hi⟩))
              (forceV v fun v => F.putK o.dst v fun F' => dopsE call batch l F' T past (⟨o.id, o.op, F.keep o.uses, v, o.hi⟩ :: rs) fl) none))
        | _ => none
      | none => none)
def codeE(call:ECall)(loop:ELoop):SCode→EFr→TH→Option (SExit×EFr×TH)
 | .skip,F,T=>some (.normal,F,T)
 | .reg live l,F,T=>match opsE call l F T with
  | some (F,T)=>F.keepK live fun F=>some (.normal,F,T)
  | none=>none
 | .qreg live l,F,T=>match qopsE l F T with
  | some (F,T)=>F.keepK live fun F=>some (.normal,F,T)
  | none=>none
 | .dreg live l batch,F,T=>match dopsE call batch l F T [] [] []with
  | some (F,T)=>F.keepK live fun F=>some (.normal,F,T)
  | none=>none
 | .seq a b,F,T=>match codeE call loop a F T with
  | some (.normal,F,T)=>codeE call loop b F T
  | r=>r
 | .cond c a b,F,T=>match F.val c with
  | some (.raw (.bool true))=>codeE call loop a F T
  | some (.raw (.bool false))=>codeE call loop b F T
  | _=>none
 | .block id a,F,T=>match codeE call loop a F T with
  | some (.exit i,F,T)=>cond (Nat.beq i id) (some (.normal,F,T)) (some (.exit i,F,T))
  | r=>r
 | .loop live a,F,T=>loop live a F T
 | .exit id,F,T=>some (.exit id,F,T)
 | .ret,F,T=>some (.ret,F,T)
 | .native _,_,_=>none
def eresultOf(F:EFr)(T:TH):SRes→Option EV
 | .tmp t=>F.get t
 | .cell1 t=>match F.get t with
  | some (.ptr b o)=>T.load1 b o
  | _=>none
 | .cellN t n=>match F.get t with
  | some (.ptr b o)=>match T.load b o n with
   | some cs=>some (.agg cs)
   | none=>none
  | _=>none
def eresultsOf(F:EFr)(T:TH):List SRes→Option (List EV)
 | []=>some []
 | r::l=>match eresultOf F T r,eresultsOf F T l with
  | some v,some vs=>some (v::vs)
  | _,_=>none
def eoneOf:List EV→EV
 | [v]=>v
 | vs=>.tup vs
def enat2(T:TH):List EV→Option Value
 | [.slc b o _ n c,.raw (.string sep)]=>match T.load b o n with
  | some cs=>match erows cs with
   | some vs=>match strsOf vs with
    | some xs=>if n≤c∧n≤1000000∧0<n∧(joinOf xs sep).length≤1000000 then some (.string ⟨(joinOf xs sep).toArray⟩)else none
    | none=>none
   | none=>none
  | none=>none
 | _=>none
def enat4(T:TH):List EV→Option Int
 | [.raw (.slice none 0 0),.fn 152 [] [.ptr b o]]=>match T.load1 b o with
  | some (.slc b2 o2 _ 1 _)=>match T.load1 b2 o2 with
   | some (.raw (.int .i64 x))=>some x
   | _=>none
  | _=>none
 | _=>none
def enat(k:Nat)(args:List EV)(T:TH):Option (EV×TH):=
 if k=4 then match enat4 T args with
  | some x=>some (.slc T.next 0 (some 1) 1 1,T.alloc (.cells [.raw (.int .i64 x)] true false))
  | none=>none
 else if k=2 then match enat2 T args with
  | some v=>some (.raw v,T)
  | none=>none
 else match erows args with
 | some vs=>match natOf k ⟨0,fun _=>.dead⟩ vs with
  | some v=>forceR v fun v=>some (.raw v,T)
  | none=>none
 | none=>none
def natOf?:SCode→Option Nat
 | .native k=>some k
 | _=>none
structure Mach where
 call:ECall
 loop:ELoop
def mach (Gt : Tri SFunc) : Nat → Mach
  | 0 => ⟨fun _ _ _ => none, fun _ _ _ _ => none⟩
  | n + 1 => ⟨fun f args T => match Gt.get f with
      | some s => match natOf? s.body with
       | some k => enat k args T
       | none => cond (Nat.beq args.length s.nargs) (EFr.fromK 0 args fun F => match codeE (mach Gt n).call (mach Gt n).loop s.body F T with
        | some (.normal, F, T) => match eresultsOf F T s.results with
          | some vs => some (eoneOf vs, T)
          | none => none
        | some (.ret, F, T) => match eresultsOf F T s.results with
          | some vs => some (eoneOf vs, T)
          | none => none
        | _ => none) none
      | none => none,
    fun live a F T => F.keepK live fun F => match codeE (mach Gt n).call (mach Gt n).loop a F T with
      | some (.normal, F, T) => (mach Gt n).loop live a F T
      | r => r⟩
end Go.Jq
