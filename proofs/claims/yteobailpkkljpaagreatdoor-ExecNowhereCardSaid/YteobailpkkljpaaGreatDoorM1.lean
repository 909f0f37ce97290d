/- The abstract machine: values are the model's own, memory is a row of blocks numbered from nought; a slice that grew by append has a capacity that is known only from below. -/
import GoSem.Dispatch
import Derived.Lib.TrailingZeros
import Derived.Lib.Join
import Derived.Below
import Derived.Laws.Cells
import Derived.Laws.Entries
import Derived.Laws.Small
import Derived.Laws.StructEq
import Derived.ChangeKeysEq
import Derived.WalkSpells
set_option linter.unusedSimpArgs false
set_option linter.unusedVariables false
namespace Go.Jq
inductive ABlk where
 | cells (c:List Value) (grow ro:Bool)
 | map (es:List (Value×Value×Nat)) (clock:Nat)
 | dead
structure AH where
 next:Nat
 get:Nat→ABlk
def AH.put(h:AH)(b:Nat)(o:ABlk):AH:=⟨h.next,fun i=>if i=b then o else h.get i⟩
def AH.alloc(h:AH)(o:ABlk):AH:=⟨h.next+1,fun i=>if i=h.next then o else h.get i⟩
def AH.load1(h:AH)(b off:Nat):Option Value:=
 match h.get b with
 | .cells c _ _=>c[off]?
 | _=>none
def AH.load(h:AH)(b off n:Nat):Option (List Value):=
 match h.get b with
 | .cells c _ _=>if off+n≤c.length then some ((c.drop off).take n)else none
 | _=>none
def splice(c:List Value)(off:Nat)(vs:List Value):List Value:=c.take off++(vs++c.drop (off+vs.length))
def AH.store1(h:AH)(b off:Nat)(v:Value):Option AH:=
 match h.get b with
 | .cells c g false=>if off<c.length then some (h.put b (.cells (c.set off v) g false))else none
 | _=>none
def AH.store(h:AH)(b off:Nat)(vs:List Value):Option AH:=
 match h.get b with
 | .cells c g false=>if off+vs.length≤c.length then some (h.put b (.cells (splice c off vs) g false))else none
 | _=>none
inductive SOpd where
 | tmp (t:Nat)
 | const (v:Value)
 | func (f:Nat)
abbrev Fr:=List (Nat×Value)
def Fr.get:Fr→Nat→Option Value
 | [],_=>none
 | (k,v)::r,t=>if t=k then some v else Fr.get r t
def Fr.set:Fr→Nat→Value→Fr
 | [],t,v=>[(t,v)]
 | (k,x)::r,t,v=>if t=k then(t,v)::r else if t<k then(t,v)::(k,x)::r else(k,x)::Fr.set r t v
def Fr.del:Fr→Nat→Fr
 | [],_=>[]
 | (k,x)::r,t=>if t=k then Fr.del r t else(k,x)::Fr.del r t
def Fr.keep:Fr→List Nat→Fr
 | [],_=>[]
 | (k,x)::r,l=>if l.contains k then(k,x)::Fr.keep r l else Fr.keep r l
def Fr.put(F:Fr):Option Nat→Value→Fr
 | some t,v=>F.set t v
 | none,_=>F
def Fr.unput(F:Fr):Option Nat→Fr
 | some t=>F.del t
 | none=>F
def Fr.undo(F:Fr):Option Nat→Fr
 | some t=>F.set t (.tuple #[])
 | none=>F
def Fr.val(F:Fr):SOpd→Option Value
 | .tmp t=>F.get t
 | .const v=>some v
 | .func f=>some (.func (.func f) #[] #[])
def Fr.from:Nat→List Value→Fr
 | _,[]=>[]
 | i,v::r=>(i,v)::Fr.from (i+1) r
inductive SOp where
 | bad
 | mov (x:SOpd)
 | pick (c a b:SOpd)
 | alloc (zs:List Value)
 | box (x:SOpd)
 | build (zs:List Value) (parts:List (Nat×Nat×SOpd))
 | mkslice (len:Nat) (zs:List Value) (parts:List (Nat×Nat×SOpd))
 | load1 (a:SOpd)
 | loadN (n:Nat) (a:SOpd)
 | store1 (a x:SOpd)
 | storeN (n:Nat) (a x:SOpd)
 | nilchk (x:SOpd)
 | bin (op:BinOp) (x y:SOpd)
 | eqB (neg:Bool) (x y:SOpd)
 | eqN (neg:Bool) (ks:List Nat) (x y:SOpd)
 | isnil (kind:Nat) (neg:Bool) (x:SOpd)
 | un (op:UnOp) (x:SOpd)
 | conv (k:IntKind) (x:SOpd)
 | mkfunc (f:Nat) (first caps:List SOpd)
 | mkmap
 | mkrow (size bytes:Nat) (zs:List Value) (l c:SOpd)
 | slstr (x:SOpd) (lo hi:Option SOpd)
 | slsl (size:Nat) (x:SOpd) (lo hi mx:Option SOpd)
 | slarr (n size:Nat) (a:SOpd) (lo hi mx:Option SOpd)
 | fld (off:Nat) (a:SOpd)
 | idxS (size:Nat) (x i:SOpd)
 | idxA (n size:Nat) (a i:SOpd)
 | idxV1 (n:Nat) (x i:SOpd)
 | idxVN (n size:Nat) (x i:SOpd)
 | idxT (x i:SOpd)
 | part1 (off:Nat) (x:SOpd)
 | partN (off n:Nat) (x:SOpd)
 | extr (x:SOpd) (i:Nat)
 | call (f:Nat) (args:List SOpd)
 | callv (f:SOpd) (args:List SOpd)
 | append (size bytes:Nat) (x y:SOpd)
 | copy (size:Nat) (x y:SOpd)
 | lenS (x:SOpd)
 | lenT (x:SOpd)
 | lenM (x:SOpd)
 | mm (mx:Bool) (xs:List SOpd)
 | mark (x:SOpd)
 | tostr (x:SOpd)
 | clear (zs:List Value) (x:SOpd)
 | bstr (x:SOpd)
structure SOper where
 dst:Option Nat
 op:SOp
 guard:Option (Nat×Bool)
 uses:List Nat:=[]       -- for a region that draws its order: the slots that it reads,
 id:Nat:=0               -- its place in the text,
 pre:List Nat:=[]        -- the places of those that must stand ahead,
 lo:Nat:=0               -- between which states of memory it may come;
 hi:Nat:=0
 dep:List Nat:=[]        -- the places of those that make a block,or look at memory,and stand ahead
inductive SCode where
 | skip
 | reg (live:List Nat) (ops:List SOper)
 | qreg (live:List Nat) (ops:List SOper)
 | dreg (live:List Nat) (ops batch:List SOper)
 | seq (a b:SCode)
 | cond (c:SOpd) (a b:SCode)
 | block (id:Nat) (a:SCode)
 | loop (live:List Nat) (a:SCode)
 | exit (id:Nat)
 | ret
 | native (k:Nat)
inductive SRes where
 | tmp (t:Nat)
 | cell1 (t:Nat)
 | cellN (t n:Nat)
structure SFunc where
 nargs:Nat
 ntmps:Nat
 body:SCode
 results:List SRes
inductive SExit where
 | normal
 | exit (id:Nat)
 | ret
 deriving DecidableEq
inductive Out where
 | val (v:Value) (h:AH)
 | skip (h:AH)
 | call (f:Nat) (args:List Value)
def vals(ρ:SOpd→Option Value):List SOpd→Option (List Value)
 | []=>some []
 | x::r=>match ρ x,vals ρ r with
  | some v,some l=>some (v::l)
  | _,_=>none
def vparts(ρ:SOpd→Option Value):List (Nat×Nat×SOpd)→Option (List (Nat×Nat×Value))
 | []=>some []
 | (o,n,x)::r=>match ρ x,vparts ρ r with
  | some v,some l=>some ((o,n,v)::l)
  | _,_=>none
def optVal(ρ:SOpd→Option Value):Option SOpd→Option (Option Value)
 | none=>some none
 | some x=>match ρ x with
  | some v=>some (some v)
  | none=>none
def vcells:Value→Option (List Value)
 | .agg cs=>some cs.toList
 | .tuple _=>none
 | v=>some [v]
def sint(op:BinOp)(k:IntKind)(a b:Int):Option Value:=
 match op with
 | .add=>some (.int k (k.wrap (a+b)))
 | .sub=>some (.int k (k.wrap (a-b)))
 | .mul=>some (.int k (k.wrap (a*b)))
 | .quo=>if b=0 then none else some (.int k (k.wrap (a.tdiv b)))
 | .rem=>if b=0 then none else some (.int k (a.tmod b))
 | .and=>some (.int k (k.wrap (BitVec.ofInt k.bits a &&& BitVec.ofInt k.bits b).toNat))
 | .or=>some (.int k (k.wrap (BitVec.ofInt k.bits a ||| BitVec.ofInt k.bits b).toNat))
 | .xor=>some (.int k (k.wrap (BitVec.ofInt k.bits a ^^^ BitVec.ofInt k.bits b).toNat))
 | .andNot=>some (.int k (k.wrap (BitVec.ofInt k.bits a &&& ~~~(BitVec.ofInt k.bits b)).toNat))
 | .eql=>some (.bool (a == b))
 | .neq=>some (.bool (a != b))
 | .lss=>some (.bool (a<b))
 | .leq=>some (.bool (a≤b))
 | .gtr=>some (.bool (a>b))
 | .geq=>some (.bool (a ≥ b))
 | _=>none
def sstr(op:BinOp)(x y:ByteArray):Option Value:=
 match op with
 | .add=>if((x.size+y.size:Nat):Int)>9223372036854775807 then none else some (.string (x++y))
 | .eql=>some (.bool (x.toList == y.toList))
 | .neq=>some (.bool !(x.toList == y.toList))
 | .lss=>some (.bool (Op.bytesLess x.toList y.toList))
 | .leq=>some (.bool (Op.bytesLess x.toList y.toList||x.toList == y.toList))
 | .gtr=>some (.bool !(Op.bytesLess x.toList y.toList||x.toList == y.toList))
 | .geq=>some (.bool !(Op.bytesLess x.toList y.toList))
 | _=>none
def sbin(op:BinOp)(x y:Value):Option Value:=
 match x,y with
 | .int k a,.int k' b=>
  match op with
  | .shl=>if b<0 then none else some (.int k (k.wrap (a*2^(min b.toNat k.bits))))
  | .shr=>if b<0 then none else some (.int k (a.fdiv (2^(min b.toNat k.bits))))
  | _=>if k=k' then sint op k a b else none
 | .string a,.string b=>sstr op a b
 | _,_=>none
def bytesV:List Value→Option (List UInt8)
 | []=>some []
 | .int .u8 n::l=>match bytesV l with
  | some r=>some (UInt8.ofNat n.toNat::r)
  | none=>none
 | _=>none
def cellEq(k:Nat)(x y:Value):Option Bool:=
 match k,x,y with
 | 0,.int k a,.int k' b=>if k=k' then some (a == b)else none
 | 1,.bool a,.bool b=>some (a == b)
 | 2,.string a,.string b=>some (a.toList == b.toList)
 | _,_,_=>none
def cellsEq:List Nat→List Value→List Value→Option Bool
 | [],[],[]=>some true
 | k::ks,a::x,b::y=>match cellEq k a b,cellsEq ks x y with
  | some p,some q=>some (p&&q)
  | _,_=>none
 | _,_,_=>none
def snil(k:Nat)(v:Value):Option Bool:=
 match k,v with
 | 0,.pointer a=>some a.isNone
 | 1,.slice a _ _=>some a.isNone
 | 2,.map r=>some r.isNone
 | 3,.nilFunc=>some true
 | 3,.func ..=>some false
 | _,_=>none
def sun(op:UnOp)(x:Value):Option Value:=
 match op,x with
 | .neg,.int k n=>some (.int k (k.wrap (0-n)))
 | .xor,.int k n=>sint .xor k (if k.signed then -1 else k.max) n
 | .not,.bool b=>some (.bool !b)
 | _,_=>none
def sbound(x:Value)(y:Nat):Option Nat:=
 match x with
 | .int _ i=>if 0≤i∧i≤y then some i.toNat else none
 | _=>none
def sbounds(len cap:Nat)(lo hi mx:Option Value):Option (Nat×Nat×Nat):=
 match (match mx with|some v=>sbound v cap|none=>some cap)with
 | none=>none
 | some m=>
  match (match hi,mx with|some v,_=>sbound v m|none,none=>some len|none,some _=>none)with
  | none=>none
  | some h=>
   match (match lo with|some v=>sbound v h|none=>some 0)with
   | none=>none
   | some l=>some (l,h,m)
def addrAdd(a:Addr)(n:Nat):Addr:=⟨a.block,a.off+n,a.spot⟩
def sslice(size:Nat)(a:Option Addr)(len cap:Nat)(lo hi mx:Option Value):Option Value:=
 match sbounds len cap lo hi mx with
 | none=>none
 | some (l,h,m)=>
  match a with
  | none=>some (.slice none (h-l) (m-l))
  | some a=>
   match a.spot with
   | none=>some (.slice (some (if m=l then a else addrAdd a (l*size))) (h-l) (m-l))
   | some k=>
    if k=size then
     if mx.isSome∧cap≠0 then some (.slice (some (if m=l then⟨a.block,a.off,none⟩else⟨a.block,a.off+l*size,none⟩)) (h-l) (m-l))
     else some (.slice (some (addrAdd a (l*size))) (h-l) (m-l))
    else none
def firstOf(h:AH)(size n:Nat):Value→Option (List Value)
 | .slice none _ _=>if n=0 then some []else none
 | .slice (some a) _ _=>h.load a.block a.off (n*size)
 | .string s=>if size=1∧n≤s.size then some ((s.data.toList.take n).map fun b=>.int .u8 b.toNat)else none
 | _=>none
def lenOf:Value→Option Nat
 | .slice _ n _=>some n
 | .string s=>some s.size
 | _=>none
def sappend(h:AH)(size bytes:Nat)(x y:Value):Option (Value×AH):=
 match x,lenOf y with
 | .slice base len cap,some n=>
  match firstOf h size n y with
  | none=>none
  | some new=>
   if(len+n)*bytes>70368744177664 then none else
   match base with
   | none=>
    if len=0∧cap=0 then
     if n=0 then some (.slice none 0 0,h)
     else some (.slice (some ⟨h.next,0,some size⟩) n n,h.alloc (.cells new true false))
    else none
   | some a=>
    if len+n≤cap then
     if n=0 then some (.slice base len cap,h)
     else match h.store a.block (a.off+len*size) new with
      | some h'=>some (.slice base (len+n) cap,h')
      | none=>none
    else
     match h.load a.block a.off (len*size),h.get a.block with
     | some old,.cells _ _ ro=>
      match a.spot with
      | none=>some (.slice (some ⟨h.next,0,some size⟩) (len+n) (len+n),h.alloc (.cells (old++new) true false))
      | some k=>if k=size∧ro=false then some (.slice (some ⟨h.next,0,some size⟩) (len+n) (len+n),(h.put a.block .dead).alloc (.cells (old++new) true false))else none
     | _,_=>none
 | _,_=>none
def scopy(h:AH)(size:Nat)(x y:Value):Option (Value×AH):=
 match x,lenOf y with
 | .slice base len _,some n=>
  match firstOf h size (min n len) y with
  | none=>none
  | some new=>
   match base with
   | none=>some (.int .i64 (min n len:Nat),h)
   | some a=>if min n len=0 then some (.int .i64 0,h)else match h.store a.block a.off new with
    | some h'=>some (.int .i64 (min n len:Nat),h')
    | none=>none
 | _,_=>none
def sfill:List (Nat×Nat×Value)→List Value→Option (List Value)
 | [],cs=>some cs
 | (o,n,v)::r,cs=>
  match vcells v with
  | some l=>if l.length=n∧o+n≤cs.length then sfill r (splice cs o l)else none
  | none=>none
def smm(mx:Bool):Value→List Value→Option Value
 | v,[]=>some v
 | .int k a,.int k' b::r=>if k=k' then smm mx (.int k (if mx then(if b>a then b else a)else(if b<a then b else a))) r else none
 | _,_=>none
def ptr:Value→Option (Nat×Nat)
 | .pointer (some ⟨b,o,none⟩)=>some (b,o)
 | _=>none
def sop(G:SOp)(ρ:SOpd→Option Value)(h:AH):Option Out:=
 match G with
 | .bad=>none
 | .mov x=>match ρ x with
  | some v=>some (.val v h)
  | none=>none
 | .pick c a b=>match ρ c,ρ a,ρ b with
  | some (.bool t),some x,some y=>some (.val (if t then x else y) h)
  | some (.bool true),some x,none=>some (.val x h)
  | some (.bool false),none,some y=>some (.val y h)
  | _,_,_=>none
 | .alloc zs=>some (.val (.pointer (some ⟨h.next,0,none⟩)) (h.alloc (.cells zs false false)))
 | .box x=>match ρ x with
  | some v=>match vcells v with
   | some cs=>some (.val (.pointer (some ⟨h.next,0,none⟩)) (h.alloc (.cells cs false false)))
   | none=>none
  | none=>none
 | .build zs ps=>match vparts ρ ps with
  | some l=>match sfill l zs with
   | some cs=>some (.val (.agg cs.toArray) h)
   | none=>none
  | none=>none
 | .mkslice n zs ps=>match vparts ρ ps with
  | some l=>match sfill l zs with
   | some cs=>some (.val (.slice (some ⟨h.next,0,none⟩) n n) (h.alloc (.cells cs false false)))
   | none=>none
  | none=>none
 | .load1 a=>match (ρ a).bind ptr with
  | some (b,o)=>match h.load1 b o with
   | some v=>some (.val v h)
   | none=>none
  | none=>none
 | .loadN n a=>match (ρ a).bind ptr with
  | some (b,o)=>match h.load b o n with
   | some cs=>some (.val (.agg cs.toArray) h)
   | none=>none
  | none=>none
 | .store1 a x=>match (ρ a).bind ptr,ρ x with
  | some (b,o),some v=>match vcells v with
   | some [u]=>match h.store1 b o u with
    | some h'=>some (.skip h')
    | none=>none
   | _=>none
  | _,_=>none
 | .storeN n a x=>match (ρ a).bind ptr,ρ x with
  | some (b,o),some v=>match vcells v with
   | some cs=>if cs.length=n then match h.store b o cs with
    | some h'=>some (.skip h')
    | none=>none
    else none
   | none=>none
  | _,_=>none
 | .nilchk x=>match ρ x with
  | some (.pointer (some a))=>some (.val (.pointer (some a)) h)
  | _=>none
 | .bin op x y=>match ρ x,ρ y with
  | some a,some b=>match sbin op a b with
   | some v=>some (.val v h)
   | none=>none
  | _,_=>none
 | .eqB neg x y=>match ρ x,ρ y with
  | some (.bool a),some (.bool b)=>some (.val (.bool (if neg then !(a == b)else(a == b))) h)
  | _,_=>none
 | .eqN neg ks x y=>match ρ x,ρ y with
  | some (.agg a),some (.agg b)=>match cellsEq ks a.toList b.toList with
   | some t=>some (.val (.bool (if neg then !t else t)) h)
   | none=>none
  | _,_=>none
 | .isnil k neg x=>match (ρ x).bind (snil k)with
  | some t=>some (.val (.bool (if neg then !t else t)) h)
  | none=>none
 | .un op x=>match ρ x with
  | some a=>match sun op a with
   | some v=>some (.val v h)
   | none=>none
  | none=>none
 | .conv k x=>match ρ x with
  | some (.int _ n)=>some (.val (.int k (k.wrap n)) h)
  | _=>none
 | .mkfunc f first caps=>match vals ρ first,vals ρ caps with
  | some a,some b=>some (.val (.func (.func f) a.toArray b.toArray) h)
  | _,_=>none
 | .mkmap=>some (.val (.map (some h.next)) (h.alloc (.map [] 0)))
 | .mkrow size bytes zs l c=>match ρ l,ρ c with
  | some (.int _ l),some (.int _ c)=>
   if 0≤l∧l≤c∧c*bytes≤70368744177664∧c≤70368744177664∧zs.length=size then
    some (.val (.slice (some ⟨h.next,0,none⟩) l.toNat c.toNat) (h.alloc (.cells (List.replicate c.toNat zs).flatten false false)))
   else none
  | _,_=>none
 | .slstr x lo hi=>match ρ x,optVal ρ lo,optVal ρ hi with
  | some (.string s),some lo,some hi=>match sbounds s.size s.size lo hi none with
   | some (l,h',_)=>some (.val (.string (s.extract l h')) h)
   | none=>none
  | _,_,_=>none
 | .slsl size x lo hi mx=>match ρ x,optVal ρ lo,optVal ρ hi,optVal ρ mx with
  | some (.slice a len cap),some lo,some hi,some mx=>match sslice size a len cap lo hi mx with
   | some v=>some (.val v h)
   | none=>none
  | _,_,_,_=>none
 | .slarr n size a lo hi mx=>match (ρ a).bind ptr,optVal ρ lo,optVal ρ hi,optVal ρ mx with
  | some (b,o),some lo,some hi,some mx=>match sslice size (some ⟨b,o,none⟩) n n lo hi mx with
   | some v=>some (.val v h)
   | none=>none
  | _,_,_,_=>none
 | .fld off a=>match (ρ a).bind ptr with
  | some (b,o)=>some (.val (.pointer (some ⟨b,o+off,none⟩)) h)
  | none=>none
 | .idxS size x i=>match ρ x,ρ i with
  | some (.slice (some a) len _),some (.int _ i)=>
   if 0≤i∧i<len then some (.val (.pointer (some ⟨a.block,a.off+i.toNat*size,none⟩)) h)else none
  | _,_=>none
 | .idxA n size a i=>match (ρ a).bind ptr,ρ i with
  | some (b,o),some (.int _ i)=>
   if 0≤i∧i<n then some (.val (.pointer (some ⟨b,o+i.toNat*size,none⟩)) h)else none
  | _,_=>none
 | .idxV1 n x i=>match ρ x,ρ i with
  | some (.agg cs),some (.int _ i)=>if 0≤i∧i<n then match cs.toList[i.toNat]? with
   | some v=>some (.val v h)
   | none=>none
   else none
  | _,_=>none
 | .idxVN n size x i=>match ρ x,ρ i with
  | some (.agg cs),some (.int _ i)=>
   if 0≤i∧i<n then some (.val (.agg ((cs.toList.drop (i.toNat*size)).take size).toArray) h)else none
  | _,_=>none
 | .idxT x i=>match ρ x,ρ i with
  | some (.string s),some (.int _ i)=>if 0≤i then match s.data.toList[i.toNat]? with
   | some b=>some (.val (.int .u8 b.toNat) h)
   | none=>none
   else none
  | _,_=>none
 | .part1 off x=>match ρ x with
  | some (.agg cs)=>match cs.toList[off]? with
   | some v=>some (.val v h)
   | none=>none
  | _=>none
 | .partN off n x=>match ρ x with
  | some (.agg cs)=>some (.val (.agg ((cs.toList.drop off).take n).toArray) h)
  | _=>none
 | .extr x i=>match ρ x with
  | some (.tuple vs)=>match vs.toList[i]? with
   | some v=>some (.val v h)
   | none=>none
  | _=>none
 | .call f args=>match vals ρ args with
  | some l=>some (.call f l)
  | none=>none
 | .callv f args=>match ρ f,vals ρ args with
  | some (.func (.func f) first caps),some l=>some (.call f (first.toList++(l++caps.toList)))
  | _,_=>none
 | .append size bytes x y=>match ρ x,ρ y with
  | some a,some b=>match sappend h size bytes a b with
   | some (v,h')=>some (.val v h')
   | none=>none
  | _,_=>none
 | .copy size x y=>match ρ x,ρ y with
  | some a,some b=>match scopy h size a b with
   | some (v,h')=>some (.val v h')
   | none=>none
  | _,_=>none
 | .lenS x=>match ρ x with
  | some (.slice _ n _)=>some (.val (.int .i64 n) h)
  | _=>none
 | .lenT x=>match ρ x with
  | some (.string s)=>some (.val (.int .i64 s.size) h)
  | _=>none
 | .lenM x=>match ρ x with
  | some (.map none)=>some (.val (.int .i64 0) h)
  | some (.map (some r))=>match h.get r with
   | .map es _=>some (.val (.int .i64 es.length) h)
   | _=>none
  | _=>none
 | .mm mx xs=>match vals ρ xs with
  | some (x::r)=>match smm mx x r with
   | some v=>some (.val v h)
   | none=>none
  | _=>none
 | .mark x=>match ρ x with
  | some (.slice (some a) n c)=>match h.get a.block with
   | .cells _ _ false=>some (.val (.slice (some a) n c) h)
   | _=>none
  | _=>none
 | .clear zs x=>match ρ x with
  | some (.slice (some a) n _)=>if n=0 then none else match h.store a.block a.off (Builtin.zeroCells zs.toArray n).toList with
   | some h'=>some (.val (.tuple #[]) h')
   | none=>none
  | _=>none
 | .tostr x=>match ρ x with
  | some (.int _ n)=>some (.val (.string (Utf8.encode n)) h)
  | _=>none
 | .bstr x=>match ρ x with
  | some (.slice (some a) n _)=>if n=0 then none else match h.load a.block a.off n with
   | some cs=>match bytesV cs with
    | some bs=>some (.val (.string ⟨bs.toArray⟩) h)
    | none=>none
   | none=>none
  | _=>none
def gok(F:Fr):Option (Nat×Bool)→Option Bool
 | none=>some true
 | some (t,want)=>match F.get t with
  | some (.bool b)=>some (b == want)
  | some (.tuple _)=>some false
  | _=>none
def SOp.quiet:SOp→Bool
 | .mov _|.pick ..|.build ..|.nilchk _|.bin ..|.eqB ..|.eqN ..|.isnil ..|.un ..|.conv ..|.mkfunc ..|.slstr ..|.slsl ..|.slarr ..
 | .fld ..|.idxS ..|.idxA ..|.idxV1 ..|.idxVN ..|.idxT ..|.part1 ..|.partN ..|.extr ..|.mm ..|.lenS _|.lenT _|.tostr _=>true
 | _=>false
def SOp.still:SOp→Bool
 | .load1 _|.loadN ..|.lenM _|.bstr _=>true
 | o=>o.quiet
def SOp.float:SOp→Bool
 | .alloc _|.box _|.mkslice ..|.mkmap|.mkrow ..=>true
 | _=>false
def SOper.moves(o:SOper):Bool:=!o.op.still&&!o.op.float
def SOper.slots(o:SOper):List Nat:=o.uses++o.dst.toList
structure Rec where
 id:Nat
 op:SOp
 F:Fr
 v:Value
 hi:Nat
def Rec.same(r:Rec)(h:AH):Prop:=sop r.op r.F.val h=some (.val r.v h)
def resultOf(F:Fr)(h:AH):SRes→Option Value
 | .tmp t=>F.get t
 | .cell1 t=>match (F.get t).bind ptr with
  | some (b,o)=>h.load1 b o
  | none=>none
 | .cellN t n=>match (F.get t).bind ptr with
  | some (b,o)=>match h.load b o n with
   | some cs=>some (.agg cs.toArray)
   | none=>none
  | none=>none
def resultsOf(F:Fr)(h:AH):List SRes→Option (List Value)
 | []=>some []
 | r::l=>match resultOf F h r,resultsOf F h l with
  | some v,some vs=>some (v::vs)
  | _,_=>none
def oneOf:List Value→Value
 | [v]=>v
 | vs=>.tuple vs.toArray
structure St where
 b:Nat
 off:Nat
 cs:List Value
def St.fits(s:St)(h:AH):Prop:=
 match h.get s.b with
 | .cells c _ ro=>ro=false∧s.off+s.cs.length≤c.length
 | _=>False
def St.put(h:AH)(s:St):AH:=
 match h.get s.b with
 | .cells c g ro=>if s.off+s.cs.length≤c.length then h.put s.b (.cells (splice c s.off s.cs) g ro)else h
 | _=>h
def St.apart(s t:St):Prop:=s.b≠t.b∨s.off+s.cs.length≤t.off∨t.off+t.cs.length≤s.off
def stOf(o:SOper)(F:Fr):Option St:=
 match o.op with
 | .store1 a x=>match ((F.keep o.uses).val a).bind ptr,(F.keep o.uses).val x with
  | some (b,off),some v=>match vcells v with
   | some [u]=>some ⟨b,off,[u]⟩
   | _=>none
  | _,_=>none
 | .storeN n a x=>match ((F.keep o.uses).val a).bind ptr,(F.keep o.uses).val x with
  | some (b,off),some v=>match vcells v with
   | some cs=>if cs.length=n then some ⟨b,off,cs⟩else none
   | none=>none
  | _,_=>none
 | _=>none
def stsOf(F:Fr):List SOper→Option (List St)
 | []=>some []
 | o::l=>match stOf o F,stsOf F l with
  | some s,some r=>some (s::r)
  | _,_=>none
def stsOk(h:AH):List St→Prop
 | []=>True
 | s::l=>s.fits h∧(∀t∈l,s.apart t∨s=t)∧stsOk h l
def Rec.apart(r:Rec)(s:St):Prop:=
 match r.op with
 | .load1 a=>match (r.F.val a).bind ptr with
  | some (b,o)=>St.apart ⟨b,o,[.bool true]⟩ s
  | none=>False
 | .loadN n a=>match (r.F.val a).bind ptr with
  | some (b,o)=>St.apart ⟨b,o,List.replicate n (.bool true)⟩ s
  | none=>False
 | .bstr x=>match r.F.val x with
  | some (.slice (some a) n _)=>St.apart ⟨a.block,a.off,List.replicate n (.bool true)⟩ s
  | _=>False
 | .lenM _=>True
 | _=>False
def crossOk(rs:List Rec)(fl:List (Nat×Nat×ABlk)):List SOper→List St→Prop
 | o::l,s::ss=>(∀r∈rs,o.dep.contains r.id=true∨r.apart s)∧(∀x∈fl,o.dep.contains x.1=true∨s.b≠x.2.1)∧crossOk rs fl l ss
 | _,_=>True
def strsOf:List Value→Option (List ByteArray)
 | []=>some []
 | .string s::l=>match strsOf l with
  | some r=>some (s::r)
  | none=>none
 | _=>none
def joinOf(xs:List ByteArray)(sep:ByteArray):List UInt8:=Lib.join (xs.map (·.data.toList)) sep.data.toList
def decF:Nat→Nat→List UInt8
 | 0,u=>[UInt8.ofNat (48+u)]
 | f+1,u=>if u<10 then [UInt8.ofNat (48+u)]else decF f (u / 10)++[UInt8.ofNat (48+u % 10)]
def itoaF(n:Int):List UInt8:=if n<0 then 45::decF 20 n.natAbs else decF 20 n.toNat
def natOf(k:Nat)(h:AH)(args:List Value):Option Value:=
 match k,args with
 | 2,[.slice (some a) n c,.string sep]=>match h.load a.block a.off n with
  | some cs=>match strsOf cs with
   | some xs=>if n≤c∧n≤1000000∧0<n∧(joinOf xs sep).length≤1000000 then some (.string ⟨(joinOf xs sep).toArray⟩)else none
   | none=>none
  | none=>none
 | 2,[.slice none 0 0,.string _]=>some (.string ⟨#[]⟩)
 | 3,[.int .i64 n,.int .i64 b]=>if b=10∧-9223372036854775808≤n∧n≤9223372036854775807 then some (.string ⟨(itoaF n).toArray⟩)else none
 | 0,[.int .u64 x]=>if 0≤x∧x<18446744073709551616 then some (.int .i64 (Lib.ctz 64 x.toNat))else none
 | 1,[.int .u32 x]=>if 0≤x∧x<4294967296 then some (.int .i64 (Lib.ctz 32 x.toNat))else none
 | _,_=>none
def natHeap(k:Nat)(h:AH)(args:List Value):Option (Value×AH):=
 match k,args with
 | 4,[.slice none l c,.func (.func f) a b]=>
  match a.toList,b.toList with
  | [],[.pointer (some p)]=>
   if f=152∧l=0∧c=0 then match h.load1 p.block p.off with
    | some (.slice (some q) 1 _)=>match h.load1 q.block q.off with
     | some (.int .i64 x)=>some (.slice (some ⟨h.next,0,some 1⟩) 1 1,h.alloc (.cells [.int .i64 x] true false))
     | _=>none
    | _=>none
   else none
  | _,_=>none
 | _,_=>none
inductive Job where
 | code (c:SCode) (F:Fr) (h:AH)
 | ops (l:List SOper) (F:Fr) (h:AH)
 | qops (l:List SOper) (F:Fr) (h:AH)
 | dops (l batch:List SOper) (F:Fr) (h:AH) (past:List AH) (rs:List Rec) (fl:List (Nat×Nat×ABlk))
 | call (f:Nat) (args:List Value) (h:AH)
inductive Res where
 | code (e:SExit) (F:Fr) (h:AH)
 | ops (F:Fr) (h:AH)
 | val (v:Value) (h:AH)
def look(acc:List (Nat×Nat))(j:Nat):Nat:=(acc.lookup j).getD 0
def ancStep(acc:List (Nat×Nat))(o:SOper):List (Nat×Nat):=(o.id,o.pre.foldl (fun s j=>s ||| 2^j ||| look acc j) 0)::acc
def ancs(l:List SOper):List (Nat×Nat):=l.foldl ancStep []
def ahead(A:List (Nat×Nat))(i j:Nat):Bool:=(look A i).testBit j
def clash(o p:SOper):Bool:=(o.dst.toList.any fun d=>p.slots.contains d)||(p.dst.toList.any fun d=>o.slots.contains d)
def loOf(l:List SOper)(A:List (Nat×Nat))(i:Nat):Nat:=(l.filter fun p=>p.moves&&ahead A i p.id).length
def hiOf(l:List SOper)(A:List (Nat×Nat))(i:Nat):Nat:=(l.filter fun p=>p.moves&&!ahead A p.id i).length
def pairOk(A:List (Nat×Nat))(o p:SOper):Bool:=
 ahead A p.id o.id||(!clash o p&&!(o.moves&&p.moves)&&!(o.moves&&p.op.float))
def pairsOk(A:List (Nat×Nat)):List SOper→Bool
 | []=>true
 | o::l=>l.all (pairOk A o)&&pairsOk A l
def idsOk:List SOper→Bool
 | []=>true
 | o::l=>o.pre.all (·<o.id)&&l.all (fun p=>p.id != o.id)&&idsOk l
def byId(l:List SOper):List SOper:=(List.range l.length).filterMap fun i=>l.find? (·.id == i)
def dcheck(l batch:List SOper):Bool:=
 let A:=ancs (byId (l++batch))
 idsOk (l++batch)&&pairsOk A l &&
 (batch.all fun p=>p.dst.isNone&&p.guard.isNone&&p.dep.all (ahead A p.id ·)&&l.all fun o=>ahead A p.id o.id||(!clash o p&&!o.moves)) &&
 (l.all fun o=>(o.moves||o.op.quiet||o.op.float||(decide (o.lo≤loOf l A o.id)&&decide (hiOf l A o.id≤o.hi)))&&o.dep.all (ahead A o.id ·))
inductive FA2 {α β:Type} (R:α→β→Prop):List α→List β→Prop
 | nil:FA2 R [] []
 | cons {a:α} {b:β} {l:List α} {m:List β}:R a b→FA2 R l m→FA2 R (a::l) (b::m)
inductive RV (K:Value→Prop) (ρ:Nat→Nat) (n:Nat):Value→Value→Prop
 | keep {v:Value}:K v→RV K ρ n v v
 | bool {b:Bool}:RV K ρ n (.bool b) (.bool b)
 | int {k:IntKind} {i:Int}:RV K ρ n (.int k i) (.int k i)
 | str {s:ByteArray}:RV K ρ n (.string s) (.string s)
 | ptr0:RV K ρ n (.pointer none) (.pointer none)
 | ptr {b o:Nat} {sp:Option Nat}:b<n→RV K ρ n (.pointer (some ⟨b,o,sp⟩)) (.pointer (some ⟨ρ b,o,sp⟩))
 | sl0 {l c:Nat}:RV K ρ n (.slice none l c) (.slice none l c)
 | sl {b o l c:Nat} {sp:Option Nat}:b<n→RV K ρ n (.slice (some ⟨b,o,sp⟩) l c) (.slice (some ⟨ρ b,o,sp⟩) l c)
 | map0:RV K ρ n (.map none) (.map none)
 | map {b:Nat}:b<n→RV K ρ n (.map (some b)) (.map (some (ρ b)))
 | func0:RV K ρ n .nilFunc .nilFunc
 | func {f:Nat} {a b a' b':Array Value}:FA2 (RV K ρ n) a.toList a'.toList→FA2 (RV K ρ n) b.toList b'.toList→RV K ρ n (.func (.func f) a b) (.func (.func f) a' b')
 | agg {a b:Array Value}:FA2 (RV K ρ n) a.toList b.toList→RV K ρ n (.agg a) (.agg b)
 | tuple {a b:Array Value}:FA2 (RV K ρ n) a.toList b.toList→RV K ρ n (.tuple a) (.tuple b)
def RB(K:Value→Prop)(ρ:Nat→Nat)(n:Nat):ABlk→ABlk→Prop
 | .cells c _ ro,.cells c' _ ro'=>ro=ro'∧FA2 (RV K ρ n) c c'
 | .map es k,.map es' k'=>k=k'∧FA2 (fun e e'=>RV K ρ n e.1 e'.1∧RV K ρ n e.2.1 e'.2.1∧e.2.2=e'.2.2) es es'
 | .dead,_=>True
 | _,_=>False
structure View(K:Value→Prop)(ρ:Nat→Nat)(h h1 h2:AH):Prop where
 lo:h.next≤h2.next
 id:∀b,b<h.next→ρ b=b
 inj:∀b b',b<h2.next→b'<h2.next→ρ b=ρ b'→b=b'
 blk:∀b,b<h2.next→(b<h.next∧h2.get b=h.get b∧h1.get b=h.get b)∨RB K ρ h2.next (h2.get b) (h1.get (ρ b))
def inAgg(v:Value):Value→Prop
 | .agg a=>v∈a.toList
 | _=>False
def ofArgs(l:List Value)(v:Value):Prop:=v∈l∨∃u∈l,inAgg v u
def ofFr(F:Fr)(v:Value):Prop:=∃t u,F.get t=some u∧(v=u∨inAgg v u)
inductive Run (G:Nat→SFunc):Job→Res→Prop
 | skip {F:Fr} {h:AH}:Run G (.code .skip F h) (.code .normal F h)
 | ret {F:Fr} {h:AH}:Run G (.code .ret F h) (.code .ret F h)
 | exit {id:Nat} {F:Fr} {h:AH}:Run G (.code (.exit id) F h) (.code (.exit id) F h)
 | seqN {a b:SCode} {F F1:Fr} {h h1:AH} {r:Res}:Run G (.code a F h) (.code .normal F1 h1)→Run G (.code b F1 h1) r→Run G (.code (.seq a b) F h) r
 | seqE {a b:SCode} {F F1:Fr} {h h1:AH} {e:SExit}:Run G (.code a F h) (.code e F1 h1)→e≠.normal→Run G (.code (.seq a b) F h) (.code e F1 h1)
 | cond {c:SOpd} {t:Bool} {a b:SCode} {F:Fr} {h:AH} {r:Res}:F.val c=some (.bool t)→Run G (.code (if t then a else b) F h) r→Run G (.code (.cond c a b) F h) r
 | block {id:Nat} {a:SCode} {F F1:Fr} {h h1:AH} {e:SExit}:Run G (.code a F h) (.code e F1 h1)→Run G (.code (.block id a) F h) (.code (if e=.exit id then .normal else e) F1 h1)
 | loopN {live:List Nat} {a:SCode} {F F1:Fr} {h h1:AH} {r:Res}:Run G (.code a (F.keep live) h) (.code .normal F1 h1)→Run G (.code (.loop live a) F1 h1) r→Run G (.code (.loop live a) F h) r
 | loopE {live:List Nat} {a:SCode} {F F1:Fr} {h h1:AH} {e:SExit}:Run G (.code a (F.keep live) h) (.code e F1 h1)→e≠.normal→Run G (.code (.loop live a) F h) (.code e F1 h1)
 | reg {live:List Nat} {l:List SOper} {F F1:Fr} {h h1:AH}:Run G (.ops l F h) (.ops F1 h1)→Run G (.code (.reg live l) F h) (.code .normal (F1.keep live) h1)
 | qreg {live:List Nat} {l:List SOper} {F F1:Fr} {h h1:AH}:Run G (.qops l F h) (.ops F1 h1)→Run G (.code (.qreg live l) F h) (.code .normal (F1.keep live) h1)
 | dreg {live:List Nat} {l batch:List SOper} {F F1:Fr} {h h1:AH}:Run G (.dops l batch F h [] [] []) (.ops F1 h1)→Run G (.code (.dreg live l batch) F h) (.code .normal (F1.keep live) h1)
 | nil {F:Fr} {h:AH}:Run G (.ops [] F h) (.ops F h)
 | off {o:SOper} {l:List SOper} {F:Fr} {h:AH} {r:Res}:gok F o.guard=some false→Run G (.ops l (F.undo o.dst) h) r→Run G (.ops (o::l) F h) r
 | val {o:SOper} {l:List SOper} {F:Fr} {h h1:AH} {v:Value} {r:Res}:gok F o.guard=some true→sop o.op F.val h=some (.val v h1)→
   Run G (.ops l (F.put o.dst v) h1) r→Run G (.ops (o::l) F h) r
 | stp {o:SOper} {l:List SOper} {F:Fr} {h h1:AH} {r:Res}:gok F o.guard=some true→sop o.op F.val h=some (.skip h1)→
   Run G (.ops l (F.unput o.dst) h1) r→Run G (.ops (o::l) F h) r
 | call {o:SOper} {l:List SOper} {F:Fr} {h h1:AH} {f:Nat} {args:List Value} {v:Value} {r:Res}:gok F o.guard=some true→sop o.op F.val h=some (.call f args)→
   Run G (.call f args h) (.val v h1)→Run G (.ops l (F.put o.dst v) h1) r→Run G (.ops (o::l) F h) r
 | qnil {F:Fr} {h:AH}:Run G (.qops [] F h) (.ops F h)
 | qoff {o:SOper} {l:List SOper} {F:Fr} {h:AH} {r:Res}:gok (F.keep o.uses) o.guard=some false→Run G (.qops l (F.unput o.dst) h) r→Run G (.qops (o::l) F h) r
 | qval {o:SOper} {l:List SOper} {F:Fr} {h:AH} {v:Value} {r:Res}:gok (F.keep o.uses) o.guard=some true→sop o.op (F.keep o.uses).val h=some (.val v h)→
   Run G (.qops l (F.put o.dst v) h) r→Run G (.qops (o::l) F h) r
 | dnil {batch:List SOper} {F:Fr} {h:AH} {past:List AH} {rs:List Rec} {fl:List (Nat×Nat×ABlk)} {ss:List St}:(∀x∈rs,past.length≤x.hi→x.same h)→
   stsOf F batch=some ss→stsOk h ss→crossOk rs fl batch ss→Run G (.dops [] batch F h past rs fl) (.ops F (ss.foldl St.put h))
 | doff {o:SOper} {l batch:List SOper} {F:Fr} {h:AH} {past:List AH} {rs:List Rec} {fl:List (Nat×Nat×ABlk)} {r:Res}:o.moves=false→gok (F.keep o.uses) o.guard=some false→
   Run G (.dops l batch (F.unput o.dst) h past rs fl) r→Run G (.dops (o::l) batch F h past rs fl) r
 | dquiet {o:SOper} {l batch:List SOper} {F:Fr} {h:AH} {past:List AH} {rs:List Rec} {fl:List (Nat×Nat×ABlk)} {v:Value} {r:Res}:o.op.quiet=true→gok (F.keep o.uses) o.guard=some true→
   sop o.op (F.keep o.uses).val h=some (.val v h)→Run G (.dops l batch (F.put o.dst v) h past rs fl) r→Run G (.dops (o::l) batch F h past rs fl) r
 | dstill {o:SOper} {l batch:List SOper} {F:Fr} {h:AH} {past:List AH} {rs:List Rec} {fl:List (Nat×Nat×ABlk)} {v:Value} {r:Res}:o.op.still=true→o.op.quiet=false→
   gok (F.keep o.uses) o.guard=some true→sop o.op (F.keep o.uses).val h=some (.val v h)→(∀x∈past.take (past.length-o.lo),Rec.same ⟨o.id,o.op,F.keep o.uses,v,o.hi⟩ x)→
   Run G (.dops l batch (F.put o.dst v) h past (⟨o.id,o.op,F.keep o.uses,v,o.hi⟩::rs) fl) r→Run G (.dops (o::l) batch F h past rs fl) r
 | dfloat {o:SOper} {l batch:List SOper} {F:Fr} {h:AH} {past:List AH} {rs:List Rec} {fl:List (Nat×Nat×ABlk)} {v:Value} {blk:ABlk} {r:Res}:o.op.float=true→
   gok (F.keep o.uses) o.guard=some true→sop o.op (F.keep o.uses).val h=some (.val v (h.alloc blk))→
   Run G (.dops l batch (F.put o.dst v) (h.alloc blk) past rs ((o.id,h.next,blk)::fl)) r→Run G (.dops (o::l) batch F h past rs fl) r
 | dval {o:SOper} {l batch:List SOper} {F:Fr} {h h1:AH} {past:List AH} {rs:List Rec} {fl:List (Nat×Nat×ABlk)} {v:Value} {r:Res}:o.moves=true→gok (F.keep o.uses) o.guard=some true→
   (∀x∈rs,past.length≤x.hi→x.same h)→sop o.op (F.keep o.uses).val h=some (.val v h1)→(∀x∈fl,o.dep.contains x.1=true∨h1.get x.2.1=x.2.2)→
   Run G (.dops l batch (F.put o.dst v) h1 (h::past) rs fl) r→Run G (.dops (o::l) batch F h past rs fl) r
 | dstp {o:SOper} {l batch:List SOper} {F:Fr} {h h1:AH} {past:List AH} {rs:List Rec} {fl:List (Nat×Nat×ABlk)} {r:Res}:o.moves=true→gok (F.keep o.uses) o.guard=some true→
   (∀x∈rs,past.length≤x.hi→x.same h)→sop o.op (F.keep o.uses).val h=some (.skip h1)→(∀x∈fl,o.dep.contains x.1=true∨h1.get x.2.1=x.2.2)→
   Run G (.dops l batch (F.unput o.dst) h1 (h::past) rs fl) r→Run G (.dops (o::l) batch F h past rs fl) r
 | dskip {o:SOper} {l batch:List SOper} {F:Fr} {h:AH} {past:List AH} {rs:List Rec} {fl:List (Nat×Nat×ABlk)} {r:Res}:o.moves=true→gok (F.keep o.uses) o.guard=some false→
   (∀x∈rs,past.length≤x.hi→x.same h)→(∀x∈fl,o.dep.contains x.1=true∨h.get x.2.1=x.2.2)→
   Run G (.dops l batch (F.unput o.dst) h (h::past) rs fl) r→Run G (.dops (o::l) batch F h past rs fl) r
 | doffU {o:SOper} {l batch:List SOper} {F:Fr} {h:AH} {past:List AH} {rs:List Rec} {fl:List (Nat×Nat×ABlk)} {r:Res}:o.moves=false→gok (F.keep o.uses) o.guard=some false→
   Run G (.dops l batch (F.put o.dst (.tuple #[])) h past rs fl) r→Run G (.dops (o::l) batch F h past rs fl) r
 | dskipU {o:SOper} {l batch:List SOper} {F:Fr} {h:AH} {past:List AH} {rs:List Rec} {fl:List (Nat×Nat×ABlk)} {r:Res}:o.moves=true→gok (F.keep o.uses) o.guard=some false→
   (∀x∈rs,past.length≤x.hi→x.same h)→(∀x∈fl,o.dep.contains x.1=true∨h.get x.2.1=x.2.2)→
   Run G (.dops l batch (F.put o.dst (.tuple #[])) h (h::past) rs fl) r→Run G (.dops (o::l) batch F h past rs fl) r
 | dcall {o:SOper} {l batch:List SOper} {F:Fr} {h h1:AH} {past:List AH} {rs:List Rec} {fl:List (Nat×Nat×ABlk)} {f:Nat} {args:List Value} {v:Value} {r:Res}:o.moves=true→gok (F.keep o.uses) o.guard=some true→
   (∀x∈rs,past.length≤x.hi→x.same h)→sop o.op (F.keep o.uses).val h=some (.call f args)→Run G (.call f args h) (.val v h1)→(∀x∈fl,o.dep.contains x.1=true∨h1.get x.2.1=x.2.2)→
   Run G (.dops l batch (F.put o.dst v) h1 (h::past) rs fl) r→Run G (.dops (o::l) batch F h past rs fl) r
 | enter {f:Nat} {args:List Value} {F1:Fr} {h h1:AH} {e:SExit} {vs:List Value}:args.length=(G f).nargs→Run G (.code (G f).body (Fr.from 0 args) h) (.code e F1 h1)→
   (e=.normal∨e=.ret)→resultsOf F1 h1 (G f).results=some vs→Run G (.call f args h) (.val (oneOf vs) h1)
 | native {f k:Nat} {args:List Value} {h:AH} {v:Value}:(G f).body=.native k→natOf k h args=some v→Run G (.call f args h) (.val v h)
 | nativeA {f k:Nat} {args:List Value} {h h1:AH} {v:Value}:(G f).body=.native k→natHeap k h args=some (v,h1)→Run G (.call f args h) (.val v h1)
 | qoffU {o:SOper} {l:List SOper} {F:Fr} {h:AH} {r:Res}:gok (F.keep o.uses) o.guard=some false→Run G (.qops l (F.put o.dst (.tuple #[])) h) r→Run G (.qops (o::l) F h) r
 | gcC {f:Nat} {args:List Value} {h h1 h2:AH} {v v':Value} {ρ:Nat→Nat}:Run G (.call f args h) (.val v h1)→View (ofArgs args) ρ h h1 h2→RV (ofArgs args) ρ h2.next v' v→Run G (.call f args h) (.val v' h2)
 | gcB {c:SCode} {F F1 F2:Fr} {h h1 h2:AH} {e:SExit} {ρ:Nat→Nat}:Run G (.code c F h) (.code e F1 h1)→View (ofFr F) ρ h h1 h2→(∀t v,F2.get t=some v→∃u,F1.get t=some u∧RV (ofFr F) ρ h2.next v u)→
   Run G (.code c F h) (.code e F2 h2)
end Go.Jq
namespace Go.Jq
def plain1:Value→Bool
 | .bool _|.int ..|.string _|.pointer none|.slice none 0 0|.map none|.nilFunc=>true
 | _=>false
def plainV:Value→Bool
 | .agg cs=>cs.toList.all plain1
 | v=>plain1 v
def aggD:TypeDesc→Bool
 | .struct _|.array ..=>true
 | _=>false
section
variable (P:Program) (ψ:FuncId→Option Nat)
def cOpd:Operand→Option SOpd
 | .tmp t=>some (.tmp t)
 | .const v=>if plainV v then some (.const v)else none
 | .func f=>(ψ f).map .func
 | .global _=>none
def cOpds:List Operand→Option (List SOpd)
 | []=>some []
 | x::r=>match cOpd ψ x,cOpds r with
  | some a,some l=>some (a::l)
  | _,_=>none
def cOpt:Option Operand→Option (Option SOpd)
 | none=>some none
 | some x=>(cOpd ψ x).map some
def tsize(t:TypeId):Option Nat:=(P.info? t).map (·.size)
def tbytes(t:TypeId):Option Nat:=(P.info? t).map (·.bytes)
def tzero(t:TypeId):Option (List Value):=
 match P.info? t with
 | some i=>match i.zero with
  | some z=>match vcells z with
   | some cs=>if cs.all plain1&&cs.length == i.size then some cs else none
   | none=>none
  | none=>none
 | none=>none
def kindsF(f:TypeId→Option (List Nat)):List Field→Nat→Option (List Nat)
 | [],_=>some []
 | g::l,off=>match f g.type with
  | some ks => if g.name != "_" && g.offset == off then (kindsF f l (off + ks.length)).map (ks ++ ·) else none
  | none=>none
def kindsT:Nat→TypeId→Option (List Nat)
 | 0,_=>none
 | d+1,t=>match P.underlying t,tsize P t with
  | some (.int _),some 1=>some [0]
  | some .bool,some 1=>some [1]
  | some .string,some 1=>some [2]
  | some (.struct fs),some s=>if P.stoodInHeld t then none else match kindsF (kindsT d) fs.toList 0 with
   | some ks=>if ks.length=s then some ks else none
   | none=>none
  | some (.array n e),some s=>match kindsT d e with
   | some ks=>if s=n*ks.length∧tsize P e=some ks.length then some (List.replicate n ks).flatten else none
   | none=>none
  | _,_=>none
def cParts(place:Nat→Option (Nat×Nat)):List (Nat×Operand)→Option (List (Nat×Nat×SOpd))
 | []=>some []
 | (i,x)::r=>match place i,cOpd ψ x,cParts place r with
  | some (o,n),some a,some l=>some ((o,n,a)::l)
  | _,_,_=>none
def isNil(k:Nat)(x:Operand):Bool:=
 match k,x with
 | 0,.const (.pointer none)|1,.const (.slice none _ _)|2,.const (.map none)|3,.const .nilFunc=>true
 | _,_=>false
def nilKind:TypeDesc→Option Nat
 | .pointer _=>some 0
 | .slice _=>some 1
 | .map ..=>some 2
 | .func ..=>some 3
 | _=>none
def isNeq:BinOp→Bool
 | .neq=>true
 | _=>false
def cBin(op:BinOp)(t:TypeId)(x y:Operand):Option SOp:=do
 let a ←cOpd ψ x
 let b ←cOpd ψ y
 match op with
 | .eql|.neq=>
  match P.underlying t with
  | some (.int _)|some .string=>some (.bin op a b)
  | some .bool=>some (.eqB (isNeq op) a b)
  | some (.struct _)|some (.array ..)=>
   match kindsT P 20 t with
   | some ks=>if P.eqGuardType P.depth t then none else some (.eqN (isNeq op) ks a b)
   | none=>none
  | some d=>match nilKind d with
   | some k=>if isNil k y then some (.isnil k (isNeq op) a)else if isNil k x then some (.isnil k (isNeq op) b)else none
   | none=>none
  | none=>none
 | _=>match P.underlying t with
  | some (.int _)|some .string=>some (.bin op a b)
  | _=>none
def cOp(o:Oper):Option SOp:=
 match o.op with
 | .move x|.assign x=>(cOpd ψ x).map .mov
 | .pick c a b=>do some (.pick (←cOpd ψ c) (←cOpd ψ a) (←cOpd ψ b))
 | .alloc t=>(tzero P t).map .alloc
 | .box _ x=>(cOpd ψ x).map .box
 | .build t ps=>do
  let zs ←tzero P t
  match P.underlying t with
  | some (.struct fs)=>do
   let l ←cParts ψ (fun i=>(fs[i]?).bind fun f=>(tsize P f.type).map fun n=>(f.offset,n)) ps.toList
   if fs.toList.all (fun f=>(tsize P f.type).isSome)then some (.build zs l)else none
  | some (.array _ e)=>do
   let n ←tsize P e
   let l ←cParts ψ (fun i=>some (i*n,n)) ps.toList
   some (.build zs l)
  | _=>none
 | .buildSlice t len ps=>
  match P.underlying t with
  | some (.slice e)=>do
   let n ←tsize P e
   let zs ←tzero P e
   let l ←cParts ψ (fun i=>some (i*n,n)) ps.toList
   if len*n≤4096∧n≠0 then some (.mkslice len (List.replicate len zs).flatten l)else none
  | _=>none
 | .load t a=>do
  let d ←P.underlying t
  let n ←tsize P t
  let a ←cOpd ψ a
  if aggD d then some (.loadN n a)else some (.load1 a)
 | .store t a x=>do
  let n ←tsize P t
  let a ←cOpd ψ a
  let x ←cOpd ψ x
  if n=1 then some (.store1 a x)else some (.storeN n a x)
 | .nilCheck x=>(cOpd ψ x).map .nilchk
 | .binOp op t x y _=>cBin P ψ op t x y
 | .unOp op _ x=>(cOpd ψ x).map (.un op)
 | .convert s t x=>
  match P.underlying s,P.underlying t with
  | some (.int _),some (.int k)=>(cOpd ψ x).map (.conv k)
  | some (.int _),some .string=>(cOpd ψ x).map .tostr
  | some (.slice e),some .string=>match P.underlying e with
   | some (.int .u8)=>(cOpd ψ x).map .bstr
   | _=>none
  | some (.slice _),some (.slice e)=>match P.underlying e with
   | some (.int .u8)=>if s=t then(cOpd ψ x).map .mark else none
   | _=>none
  | _,_=>none
 | .makeFunc (.func f) first caps=>do some (.mkfunc (←ψ f) (←cOpds ψ first.toList) (←cOpds ψ caps.toList))
 | .makeMap _ none=>some .mkmap
 | .makeSlice t l c=>
  match P.underlying t with
  | some (.slice e)=>do
   let n ←tsize P e
   let b ←tbytes P e
   let zs ←tzero P e
   if n≠0 then some (.mkrow n b zs (←cOpd ψ l) (←cOpd ψ c))else none
  | _=>none
 | .slice t x lo hi mx=>do
  let d ←P.underlying t
  let x ←cOpd ψ x
  let lo ←cOpt ψ lo
  let hi ←cOpt ψ hi
  let mx ←cOpt ψ mx
  match d with
  | .string=>if mx.isNone then some (.slstr x lo hi)else none
  | .slice e=>do some (.slsl (←tsize P e) x lo hi mx)
  | .array n e=>do some (.slarr n (←tsize P e) x lo hi mx)
  | _=>none
 | .fieldAddr s x i=>
  match P.underlying s with
  | some (.struct fs)=>do
   let f ←fs[i]?
   let n ←tsize P f.type
   if n≠0 then some (.fld f.offset (←cOpd ψ x))else none
  | _=>none
 | .field s x i=>
  match P.underlying s with
  | some (.struct fs)=>do
   let f ←fs[i]?
   let n ←tsize P f.type
   let d ←P.underlying f.type
   if aggD d then some (.partN f.offset n (←cOpd ψ x))else some (.part1 f.offset (←cOpd ψ x))
  | _=>none
 | .indexAddr t x i=>
  match P.underlying t with
  | some (.slice e)=>do some (.idxS (←tsize P e) (←cOpd ψ x) (←cOpd ψ i))
  | some (.array n e)=>do some (.idxA n (←tsize P e) (←cOpd ψ x) (←cOpd ψ i))
  | _=>none
 | .index t x i=>
  match P.underlying t with
  | some .string=>do some (.idxT (←cOpd ψ x) (←cOpd ψ i))
  | some (.array n e)=>do
   let s ←tsize P e
   let d ←P.underlying e
   if aggD d then some (.idxVN n s (←cOpd ψ x) (←cOpd ψ i))else if s=1 then some (.idxV1 n (←cOpd ψ x) (←cOpd ψ i))else none
  | _=>none
 | .extract x i=>do some (.extr (←cOpd ψ x) i)
 | .call c=>
  match c.callee with
  | .value (.func f)=>do some (.call (←ψ f) (←cOpds ψ c.args.toList))
  | .value f=>do some (.callv (←cOpd ψ f) (←cOpds ψ c.args.toList))
  | .builtin .append=>
   match c.argTypes.toList,c.args.toList with
   | [t,u],[x,y]=>
    match P.underlying t,P.underlying u with
    | some (.slice e),some (.slice _)|some (.slice e),some .string=>do
     let n ←tsize P e
     let b ←tbytes P e
     let z ←tzero P e
     if n≠0∧b≠0∧b≤65536∧z.length=n then some (.append n b (←cOpd ψ x) (←cOpd ψ y))else none
    | _,_=>none
   | _,_=>none
  | .builtin .copy=>
   match c.argTypes.toList,c.args.toList with
   | [t,_],[x,y]=>
    match P.underlying t with
    | some (.slice e)=>do some (.copy (←tsize P e) (←cOpd ψ x) (←cOpd ψ y))
    | _=>none
   | _,_=>none
  | .builtin .len=>
   match c.argTypes.toList,c.args.toList with
   | [t],[x]=>
    match P.underlying t with
    | some .string=>(cOpd ψ x).map .lenT
    | some (.slice _)=>(cOpd ψ x).map .lenS
    | some (.map ..)=>(cOpd ψ x).map .lenM
    | _=>none
   | _,_=>none
  | .builtin .clear=>
   match c.argTypes.toList,c.args.toList with
   | [t],[x]=>
    match P.underlying t with
    | some (.slice e)=>do some (.clear (←tzero P e) (←cOpd ψ x))
    | _=>none
   | _,_=>none
  | .builtin .min=>do some (.mm false (←cOpds ψ c.args.toList))
  | .builtin .max=>do some (.mm true (←cOpds ψ c.args.toList))
  | _=>none
 | _=>none
def cGuard(ops:Array Oper):Option (Nat×Bool)→Option (Option (Nat×Bool))
 | none=>some none
 | some (j,want)=>match (ops[j]?).bind (·.dst)with
  | some d=>some (some (d,want))
  | none=>none
def isStore:SOp→Bool
 | .store1 ..|.storeN ..=>true
 | _=>false
def cOper(N:Nat)(ops:Array Oper)(o:Oper):Option SOper:=
 match cGuard ops o.guard with
 | none=>none
 | some g=>
  if o.dst.toList.all (·<N)=true∧(!isStore ((cOp P ψ o).getD .bad)||o.dst.isNone)=true then some { dst:=o.dst,op:=(cOp P ψ o).getD .bad,guard:=g } else none
def cOpers(N:Nat)(ops:Array Oper):List Oper→Option (List SOper)
 | []=>some []
 | o::r=>match cOper P ψ N ops o,cOpers N ops r with
  | some a,some l=>some (a::l)
  | _,_=>none
def operSlots(o:Oper):List Nat:=o.op.operands.toList.filterMap fun|.tmp t=>some t|_=>none
def dOper(o:Oper)(s:SOper)(i:Nat):SOper:=
 {s with uses:=operSlots o++(s.guard.toList.map (·.1)),id:=i,pre:=(o.after.toList.filter (Region.binds .any)).map (·.on) }
def dSort(rank:SOper→Nat):Nat→List SOper→List Nat→List SOper
 | 0,_,_=>[]
 | n+1,l,seen=>
  let ready:=l.filter fun o=>o.pre.all seen.contains
  match (ready.find? fun o=>rank o == 0).orElse fun _=>(ready.find? fun o=>rank o == 1).orElse fun _=>ready.head? with
  | some o=>o::dSort rank n (l.filter fun p=>p.id != o.id) (o.id::seen)
  | none=>[]
def isLast(A:List (Nat×Nat))(l:List SOper)(o:SOper):Bool:=isStore o.op&&o.guard.isNone&&l.all fun p=>isStore p.op||p.op.quiet||!ahead A p.id o.id
def dBounds (l batch : List SOper) : List SOper × List SOper :=
  let A := ancs (byId (l ++ batch))
  let fs := (l.filter (·.op.float)).map (·.id)
  let rs := (l.filter fun o => o.op.float || (o.op.still && !o.op.quiet)).map (·.id)
  (l.map fun o => if o.moves then { o with dep := fs.filter (ahead A o.id ·) } else if o.op.quiet || o.op.float then o else { o with lo := loOf l A o.id, hi := hiOf l A o.id },
   batch.map fun o => { o with dep := rs.filter (ahead A o.id ·) })
def dSplit(ops:Array Oper)(l:List SOper):SCode:=
 let l:=((ops.toList.zip l).zipIdx).map fun((o,s),i)=>dOper o s i
 if l.all (fun o=>o.op.still)then .qreg [] l else
 let A:=ancs l
 let b:=l.filter (isLast A l)
 let l:=dSort (fun o=>if o.moves then 1 else 0) l.length (l.filter fun o=>!isLast A l o) (b.map (·.id))
 let (l,b):=dBounds l b
 .dreg [] l b
def placesOk(n:Nat)(l:List SOper):Bool:=l.length == n&&(List.range n).all fun i=>l.any (·.id == i)
def cCode(N:Nat):Code→List (List Nat)→Option (SCode×List (List Nat))
 | .skip,ls|.label _,ls=>some (.skip,ls)
 | .region _ ops draw,lv::ls=>
  match cOpers P ψ N ops ops.toList with
  | some l=>
   if draw then
    if !P.follows .mixedOrders then none else
    match dSplit ops l with
    | .qreg _ l'=>if dcheck l' []&&placesOk ops.size l'&&l'.all (·.op.still)then some (.qreg lv l',ls)else none
    | .dreg _ l' b=>if dcheck l' b&&placesOk ops.size (l'++b)then some (.dreg lv l' b,ls)else none
    | _=>none
   else some (.reg lv l,ls)
  | none=>none
 | .seq a b,ls=>match cCode N a ls with
  | some (x,ls)=>match cCode N b ls with
   | some (y,ls)=>some (.seq x y,ls)
   | none=>none
  | none=>none
 | .cond c a b,ls=>match cOpd ψ c,cCode N a ls with
  | some c,some (x,ls)=>match cCode N b ls with
   | some (y,ls)=>some (.cond c x y,ls)
   | none=>none
  | _,_=>none
 | .block id a,ls=>match cCode N a ls with
  | some (x,ls)=>some (.block id x,ls)
  | none=>none
 | .loop a,l::ls=>match cCode N a ls with
  | some (x,ls)=>some (.loop l x,ls)
  | none=>none
 | .exit id,ls=>some (.exit id,ls)
 | .ret,ls=>some (.ret,ls)
 | _,_=>none
def cRes(N:Nat):List ResultVar→Option (List SRes)
 | []=>some []
 | .tmp t::r=>match cRes N r with
  | some l=>if t<N then some (.tmp t::l)else none
  | none=>none
 | .cell a t::r=>match P.underlying t,tsize P t,cRes N r with
  | some d,some n,some l=>some ((if aggD d then .cellN a n else .cell1 a)::l)
  | _,_,_=>none
def cFunc(fn:Func)(ls:List (List Nat)):Option SFunc:=
 match fn.body with
 | some c=>
  match cCode P ψ fn.ntmps c ls,cRes P fn.ntmps fn.results.toList with
  | some (s,[]),some rs=>if fn.params.size+fn.nfree≤fn.ntmps then some { nargs:=fn.params.size+fn.nfree,ntmps:=fn.ntmps,body:=s,results:=rs } else none
  | _,_=>none
 | none=>none
end
end Go.Jq
namespace Go.Jq
open Go.RowKit
abbrev Gm:=Nat→Option (Nat×Nat×Nat)
structure Ctx where
 P:Program
 φ:Nat→FuncId
 ψ:FuncId→Option Nat
 L:Nat→Bool
 base:Nat
 w0:World
 back:∀f g,ψ f=some g→φ g=f∧L g=true
 calls:∀f,L f=true→∀(args:Array Value) (w:World),(callFunc (φ f) args).run P w=.ok (.enter (φ f) args) w
inductive VR (C:Ctx) (γ:Gm):Value→Value→Prop
 | bool {b:Bool}:VR C γ (.bool b) (.bool b)
 | int {k:IntKind} {n:Int}:VR C γ (.int k n) (.int k n)
 | str {s:ByteArray}:VR C γ (.string s) (.string s)
 | ptr0:VR C γ (.pointer none) (.pointer none)
 | ptr {b o B s N:Nat}:γ b=some (B,s,N)→VR C γ (.pointer (some ⟨b,o,none⟩)) (.pointer (some ⟨B,s+o,none⟩))
 | sl0 {l c:Nat}:VR C γ (.slice none l c) (.slice none l c)
 | slX {b o B s N l c:Nat}:γ b=some (B,s,N)→VR C γ (.slice (some ⟨b,o,none⟩) l c) (.slice (some ⟨B,s+o,none⟩) l c)
 | slI {b o B s N k l c c':Nat}:γ b=some (B,s,N)→l≤c→c≤c'→s+o+c'*k≤N→VR C γ (.slice (some ⟨b,o,some k⟩) l c) (.slice (some ⟨B,s+o,none⟩) l c')
 | slE {b o B s N k o':Nat}:γ b=some (B,s,N)→VR C γ (.slice (some ⟨b,o,some k⟩) 0 0) (.slice (some ⟨B,o',none⟩) 0 0)
 | map0:VR C γ (.map none) (.map none)
 | map {b B N:Nat}:γ b=some (B,0,N)→VR C γ (.map (some b)) (.map (some B))
 | func0:VR C γ .nilFunc .nilFunc
 | func {f:Nat} {a b a' b':Array Value}:C.L f=true→FA2 (VR C γ) a.toList a'.toList→FA2 (VR C γ) b.toList b'.toList→
   VR C γ (.func (.func f) a b) (.func (.func (C.φ f)) a' b')
 | agg {a b:Array Value}:FA2 (VR C γ) a.toList b.toList→(∀x∈a.toList,x.oneCell'=true)→VR C γ (.agg a) (.agg b)
 | tuple {a b:Array Value}:FA2 (VR C γ) a.toList b.toList→VR C γ (.tuple a) (.tuple b)
def Sub(γ γ':Gm):Prop:=∀b x,γ b=some x→γ' b=some x
theorem Sub.refl(γ:Gm):Sub γ γ:=fun _ _ h=>h
theorem Sub.trans{a b c:Gm}(h:Sub a b)(k:Sub b c):Sub a c:=fun _ _ x=>k _ _ (h _ _ x)
theorem AH.put_get(h:AH)(b:Nat)(o:ABlk)(i:Nat):(h.put b o).get i=if i=b then o else h.get i:=rfl
theorem AH.put_next(h:AH)(b:Nat)(o:ABlk):(h.put b o).next=h.next:=rfl
theorem AH.alloc_get(h:AH)(o:ABlk)(i:Nat):(h.alloc o).get i=if i=h.next then o else h.get i:=rfl
theorem AH.alloc_next(h:AH)(o:ABlk):(h.alloc o).next=h.next+1:=rfl
section FA2
variable {α β:Type} {R:α→β→Prop}
theorem FA2.length{l:List α}{m:List β}(h:FA2 R l m):l.length=m.length:=by
 induction h with
 | nil=>rfl
 | cons _ _ ih=>simp[ih]
theorem FA2.get{l:List α}{m:List β}(h:FA2 R l m):∀{i:Nat} {a:α},l[i]?=some a→∃b,m[i]?=some b∧R a b:=by
 induction h with
 | nil=>intro i a h;simp at h
 | cons r _ ih=>
  intro i a h
  cases i with
  | zero=>simp at h;subst h;exact⟨_,rfl,r⟩
  | succ i=>simp at h;obtain⟨b,hb,hr⟩:=ih h;exact⟨b,by simpa using hb,hr⟩
theorem FA2.mono{S:α→β→Prop}{l:List α}{m:List β}(h:FA2 R l m)(hs:∀a b,R a b→S a b):FA2 S l m:=by
 induction h with
 | nil=>exact .nil
 | cons r _ ih=>exact .cons (hs _ _ r) ih
theorem FA2.append{l l':List α}{m m':List β}(h:FA2 R l m)(h':FA2 R l' m'):FA2 R (l++l') (m++m'):=by
 induction h with
 | nil=>exact h'
 | cons r _ ih=>exact .cons r ih
theorem FA2.take{l:List α}{m:List β}(h:FA2 R l m):∀n,FA2 R (l.take n) (m.take n):=by
 induction h with
 | nil=>intro n;simp;exact .nil
 | cons r _ ih=>intro n;cases n with
  | zero=>simp;exact .nil
  | succ n=>simp;exact .cons r (ih n)
theorem FA2.drop{l:List α}{m:List β}(h:FA2 R l m):∀n,FA2 R (l.drop n) (m.drop n):=by
 induction h with
 | nil=>intro n;simp;exact .nil
 | cons r h ih=>intro n;cases n with
  | zero=>simp;exact .cons r h
  | succ n=>simp;exact ih n
theorem FA2.set{l:List α}{m:List β}(h:FA2 R l m){a:α}{b:β}(r:R a b)(n:Nat):FA2 R (l.set n a) (m.set n b):=by
 induction h generalizing n with
 | nil=>exact .nil
 | cons r' h ih=>cases n with
  | zero=>exact .cons r h
  | succ n=>exact .cons r' (ih n)
theorem FA2.one{a:α}{b:β}(r:R a b):FA2 R [a] [b]:=.cons r .nil
theorem FA2.replicate{a:α}{b:β}(r:R a b)(n:Nat):FA2 R (List.replicate n a) (List.replicate n b):=by
 induction n with
 | zero=>exact .nil
 | succ n ih=>exact .cons r ih
end FA2
section VR
variable {C:Ctx} {γ γ':Gm}
mutual
theorem VR.mono'(hs:Sub γ γ'):∀{v v':Value},VR C γ v v'→VR C γ' v v'
 | _,_,.bool=>.bool
 | _,_,.int=>.int
 | _,_,.str=>.str
 | _,_,.ptr0=>.ptr0
 | _,_,.ptr h=>.ptr (hs _ _ h)
 | _,_,.sl0=>.sl0
 | _,_,.slX h=>.slX (hs _ _ h)
 | _,_,.slI h a b c=>.slI (hs _ _ h) a b c
 | _,_,.slE h=>.slE (hs _ _ h)
 | _,_,.map0=>.map0
 | _,_,.map h=>.map (hs _ _ h)
 | _,_,.func0=>.func0
 | _,_,.func hl h k=>.func hl (VR.monoL hs h) (VR.monoL hs k)
 | _,_,.agg h k=>.agg (VR.monoL hs h) k
 | _,_,.tuple h=>.tuple (VR.monoL hs h)
theorem VR.monoL(hs:Sub γ γ'):∀{l m:List Value},FA2 (VR C γ) l m→FA2 (VR C γ') l m
 | _,_,.nil=>.nil
 | _,_,.cons h k=>.cons (VR.mono' hs h) (VR.monoL hs k)
end
theorem VR.mono(hs:Sub γ γ'){v v':Value}(h:VR C γ v v'):VR C γ' v v':=VR.mono' hs h
theorem VR.one{v v':Value}(h:VR C γ v v'):v'.oneCell'=v.oneCell':=by cases h<;>rfl
theorem plain1_VR{v:Value}(h:plain1 v=true):VR C γ v v:=by
 unfold plain1 at h
 split at h<;>first|exact .bool|exact .int|exact .str|exact .ptr0|exact .sl0|exact .map0|exact .func0|simp at h
theorem plain1_one{v:Value}(h:plain1 v=true):v.oneCell'=true:=by
 unfold plain1 at h
 split at h<;>first|rfl|simp at h
theorem plains_VR{l:List Value}(h:l.all plain1=true):FA2 (VR C γ) l l:=by
 induction l with
 | nil=>exact .nil
 | cons a l ih=>simp at h;exact .cons (plain1_VR h.1) (ih (by simpa using h.2))
theorem plainV_VR{v:Value}(h:plainV v=true):VR C γ v v:=by
 unfold plainV at h
 split at h
 ·exact .agg (plains_VR h) fun x hx=>plain1_one (List.all_eq_true.1 h x hx)
 ·exact plain1_VR h
theorem VR.cells{v v':Value}(h:VR C γ v v'){l:List Value}(hl:vcells v=some l):
  FA2 (VR C γ) l v'.cells.toList∧∀x∈l,x.oneCell'=true:=by
 cases h<;>simp[vcells]at hl<;>subst hl
 case agg h k=>exact⟨h,k⟩
 all_goals exact⟨.one (by first|exact .bool|exact .int|exact .str|exact .ptr0|exact .sl0|exact .map0|exact .func0|(constructor<;>assumption)),by simp[Value.oneCell']⟩
theorem VR.ptr_inv{v v':Value}(h:VR C γ v v'){b o:Nat}(hp:Go.Jq.ptr v=some (b,o)):
  ∃B s N,γ b=some (B,s,N)∧v'=.pointer (some ⟨B,s+o,none⟩):=by
 cases h<;>simp[Go.Jq.ptr]at hp
 case ptr h=>obtain⟨rfl,rfl⟩:=hp;exact⟨_,_,_,h,rfl⟩
theorem VR.bool_inv{b:Bool}{v:Value}(h:VR C γ (.bool b) v):v=.bool b:=by cases h;rfl
theorem VR.int_inv{k:IntKind}{n:Int}{v:Value}(h:VR C γ (.int k n) v):v=.int k n:=by cases h;rfl
theorem VR.str_inv{s:ByteArray}{v:Value}(h:VR C γ (.string s) v):v=.string s:=by cases h;rfl
theorem VR.agg_inv{s:Array Value}{v:Value}(h:VR C γ (.agg s) v):∃t,v=.agg t∧FA2 (VR C γ) s.toList t.toList∧∀x∈s.toList,x.oneCell'=true:=by cases h;exact⟨_,rfl,by assumption,by assumption⟩
theorem VR.tuple_inv{s:Array Value}{v:Value}(h:VR C γ (.tuple s) v):∃t,v=.tuple t∧FA2 (VR C γ) s.toList t.toList:=by cases h;exact⟨_,rfl,by assumption⟩
theorem VR.func_inv{f:Nat}{a b:Array Value}{v:Value}(h:VR C γ (.func (.func f) a b) v):∃a' b',v=.func (.func (C.φ f)) a' b'∧C.L f=true∧FA2 (VR C γ) a.toList a'.toList∧FA2 (VR C γ) b.toList b'.toList:=by
 cases h;exact⟨_,_,rfl,by assumption,by assumption,by assumption⟩
theorem VR.map_inv{b:Nat}{v:Value}(h:VR C γ (.map (some b)) v):∃B N,v=.map (some B)∧γ b=some (B,0,N):=by cases h;exact⟨_,_,rfl,by assumption⟩
theorem VR.map0_inv{v:Value}(h:VR C γ (.map none) v):v=.map none:=by cases h;rfl
end VR
def ABlk.wr:ABlk→Bool
 | .cells _ _ ro=>!ro
 | .map ..=>true
 | .dead=>false
def ER(C:Ctx)(γ:Gm)(e:Value×Value×Nat)(m:MapEntry):Prop:=VR C γ e.1 m.key∧VR C γ e.2.1 m.val∧e.2.2=m.born
def BR(C:Ctx)(γ:Gm)(o:ABlk)(t:Option Obj)(B s N:Nat):Prop:=
 match o with
 | .cells c _ ro=>∃D E lo hi,t=some (.cells D E (lo,hi))∧D.size=N∧s+c.length≤N∧FA2 (VR C γ) c ((D.toList.drop s).take c.length)∧(∀x∈c,x.oneCell'=true)∧
   (ro=true→B<C.base)∧(ro=false→C.base≤B∧(hi=lo∨N≤lo))
 | .map es clk=>∃es',t=some (.map es' clk)∧s=0∧C.base≤B∧FA2 (ER C γ) es es'.toList
 | .dead=>True
structure HR(C:Ctx)(γ:Gm)(h:AH)(w:World):Prop where
 below:Below C.base C.w0 w
 low:C.base≤C.w0.heap.size
 blk:∀b B s N,γ b=some (B,s,N)→BR C γ (h.get b) (w.heap[B]?) B s N
 inj:∀b b' B s N s' N',γ b=some (B,s,N)→γ b'=some (B,s',N')→(h.get b).wr=true→(h.get b').wr=true→b=b'
 dom:∀b,h.next≤b→γ b=none
section HR
variable {C:Ctx} {γ:Gm} {h:AH} {w:World}
theorem HR.drew(H:HR C γ h w)(n:Nat):HR C γ h { w with drawn:=n }:=⟨⟨H.below.os,H.below.tape,H.below.output,H.below.size,H.below.block⟩,H.low,H.blk,H.inj,H.dom⟩
theorem HR.size(H:HR C γ h w):C.base≤w.heap.size:=Nat.le_trans H.low H.below.size
theorem BR.mono{γ γ':Gm}(hs:Sub γ γ'){o:ABlk}{t:Option Obj}{B s N:Nat}(k:BR C γ o t B s N):BR C γ' o t B s N:=by
 cases o with
 | cells c g ro=>
  obtain⟨D,E,lo,hi,h1,h2,h3,h4,h5,h6⟩:=k
  exact⟨D,E,lo,hi,h1,h2,h3,VR.monoL hs h4,h5,h6⟩
 | map es clk=>
  obtain⟨es',h1,h2,h3,h4⟩:=k
  exact⟨es',h1,h2,h3,h4.mono fun a b ⟨x,y,z⟩=>⟨x.mono hs,y.mono hs,z⟩⟩
 | dead=>trivial
theorem HR.cells(H:HR C γ h w){b B s N:Nat}(hb:γ b=some (B,s,N)){c:List Value}{g ro:Bool}(hc:h.get b=.cells c g ro):
  ∃D E lo hi,w.heap[B]?=some (.cells D E (lo,hi))∧D.size=N∧s+c.length≤N∧FA2 (VR C γ) c ((D.toList.drop s).take c.length)∧(∀x∈c,x.oneCell'=true)∧
   (ro=true→B<C.base)∧(ro=false→C.base≤B∧(hi=lo∨N≤lo)):=by
 have:=H.blk b B s N hb
 rw[hc]at this
 exact this
theorem cell_of{w:World}{B o:Nat}{D:Array Value}{E:TypeId}{f:Nat×Nat}(hw:w.heap[B]?=some (.cells D E f)):w.cell? ⟨B,o,none⟩=D[o]?:=by
 simp[World.cell?,hw]
theorem HR.load(H:HR C γ h w){b o n B s N:Nat}{l:List Value}(hb:γ b=some (B,s,N))(hl:h.load b o n=some l):
  ∃l',(loadCells ⟨B,s+o,none⟩ n).run C.P w=.ok l' w∧FA2 (VR C γ) l l'.toList∧l.length=n∧(∀x∈l,x.oneCell'=true)∧s+o+n≤N:=by
 unfold AH.load at hl
 split at hl
 ·rename_i c g ro hc
  split at hl
  ·rename_i hlen
   simp at hl
   subst hl
   obtain⟨D,E,lo,hi,h1,h2,h3,h4,h5,_⟩:=H.cells hb hc
   have hD:FA2 (VR C γ) ((c.drop o).take n) ((D.toList.drop (s+o)).take n):=by
    have:=(h4.drop o).take n
    rw[List.drop_take,List.take_take,List.drop_drop,Nat.min_eq_left (by omega)]at this
    exact this
   have hlen':((D.toList.drop (s+o)).take n).length=n:=by simp;omega
   refine⟨((D.toList.drop (s+o)).take n).toArray,?_,by simpa using hD,by simp;omega,fun x hx=>h5 x (List.mem_of_mem_drop (List.mem_of_mem_take hx)),by omega⟩
   have:=run_loadCells_list (P:=C.P) w ⟨B,s+o,none⟩ ((D.toList.drop (s+o)).take n) (fun j v hj=>by
    have hj2:j<n:=by
     have:=(List.getElem?_eq_some_iff.1 hj).1
     omega
    rw[List.getElem?_take,if_pos hj2,List.getElem?_drop]at hj
    cases j with
    | zero=>simp[Addr.add,cell_of h1];simpa using hj
    | succ j=>simp[Addr.add,cell_of h1];rw[←hj];simp[Nat.add_assoc])
   rwa [hlen']at this
  ·simp at hl
 ·simp at hl
theorem HR.load1(H:HR C γ h w){b o B s N:Nat}{v:Value}(hb:γ b=some (B,s,N))(hl:h.load1 b o=some v):
  ∃v',w.cell? ⟨B,s+o,none⟩=some v'∧VR C γ v v'∧v.oneCell'=true:=by
 unfold AH.load1 at hl
 split at hl
 ·rename_i c g ro hc
  obtain⟨D,E,lo,hi,h1,h2,h3,h4,h5,_⟩:=H.cells hb hc
  obtain⟨v',hv',hr⟩:=h4.get hl
  have ho:o<c.length:=(List.getElem?_eq_some_iff.1 hl).1
  rw[List.getElem?_take,if_pos ho,List.getElem?_drop]at hv'
  exact⟨v',by rw[cell_of h1];simpa using hv',hr,h5 v (List.mem_of_getElem? hl)⟩
 ·simp at hl
theorem Below.modify{B:Nat}{w0 w:World}(h:Below B w0 w){k:Nat}(hk:B≤k)(f:Obj→Obj):Below B w0 { w with heap:=w.heap.modify k f }:=
 ⟨h.os,h.tape,h.output,by simpa using h.size,fun i hi=>by
  rw[←h.block i hi];simp only[Array.getElem?_modify];rw[if_neg (by omega)]⟩
theorem FA2.splice{α β:Type}{R:α→β→Prop}{c:List α}{d:List β}(h:FA2 R c d){x:List α}{y:List β}(k:FA2 R x y)(o:Nat):
  FA2 R (c.take o++(x++c.drop (o+x.length))) (d.take o++(y++d.drop (o+y.length))):=by
 rw[k.length]
 exact(h.take o).append (k.append (h.drop _))
theorem HR.write(H:HR C γ h w){b B s N:Nat}(hb:γ b=some (B,s,N)){c:List Value}{g:Bool}(hc:h.get b=.cells c g false)
  {D:Array Value}{E:TypeId}{f:Nat×Nat}(hD:w.heap[B]?=some (.cells D E f)){c':List Value}{D':Array Value}(hl:c'.length=c.length)(hs:D'.size=D.size)
  (hR:FA2 (VR C γ) c' ((D'.toList.drop s).take c'.length))(h1:∀x∈c',x.oneCell'=true){w':World}(hw:w'={ w with heap:=w.heap.modify B fun _=>.cells D' E f }):
  HR C γ (h.put b (.cells c' g false)) w':=by
 subst hw
 obtain⟨D0,E0,lo,hi,e1,e2,e3,e4,e5,_,e6⟩:=H.cells hb hc
 rw[hD]at e1
 simp only[Option.some.injEq,Obj.cells.injEq]at e1
 obtain⟨rfl,rfl,rfl⟩:=e1
 have e7:=e6 rfl
 refine⟨Below.modify H.below e7.1 _,H.low,?_,?_,H.dom⟩
 ·intro b' B' s' N' hb'
  by_cases hbb:b'=b
  ·subst hbb
   rw[hb]at hb'
   simp only[Option.some.injEq,Prod.mk.injEq]at hb'
   obtain⟨rfl,rfl,rfl⟩:=hb'
   simp only[AH.put,if_true]
   refine⟨D',E,lo,hi,?_,by omega,by omega,hR,h1,by simp,fun _=>e7⟩
   simp[Array.getElem?_modify,hD]
  ·simp only[AH.put,if_neg hbb]
   have hk:=H.blk b' B' s' N' hb'
   by_cases hBB:B'=B
   ·subst hBB
    cases ho:h.get b' with
    | dead=>trivial
    | map es clk=>
     rw[ho]at hk
     obtain⟨es',k1,_⟩:=hk
     rw[hD]at k1;simp at k1
    | cells c2 g2 ro2=>
     rw[ho]at hk
     obtain⟨_,_,_,_,_,_,_,_,_,k6,k7⟩:=hk
     cases ro2 with
     | true=>have:=k6 rfl;omega
     | false=>
      exact absurd (H.inj b' b _ _ _ _ _ hb' hb (by simp[ABlk.wr,ho]) (by simp[ABlk.wr,hc])) hbb
   ·have:(w.heap.modify B fun _=>Obj.cells D' E (lo,hi))[B']?=w.heap[B']?:=by
     rw[Array.getElem?_modify,if_neg (by omega)]
    simpa[this]using hk
 ·intro b1 b2 B' s1 N1 s2 N2 q1 q2 w1 w2
  refine H.inj b1 b2 B' s1 N1 s2 N2 q1 q2 ?_ ?_
  ·by_cases hbb:b1=b
   ·subst hbb;simp[ABlk.wr,hc]
   ·simpa[AH.put,hbb]using w1
  ·by_cases hbb:b2=b
   ·subst hbb;simp[ABlk.wr,hc]
   ·simpa[AH.put,hbb]using w2
end HR
end Go.Jq
namespace Go.Jq
open Go.RowKit
section
variable {C:Ctx} {γ:Gm} {h:AH} {w:World}
theorem HR.grow(H:HR C γ h w)(o:ABlk):HR C γ (h.alloc o) w:=by
 have key:∀b x,γ b=some x→b≠h.next:=fun b x hb e=>by
  have:=H.dom b (by omega);rw[hb]at this;simp at this
 refine⟨H.below,H.low,?_,?_,?_⟩
 ·intro b B s N hb
  simp only[AH.alloc,if_neg (key b _ hb)]
  exact H.blk b B s N hb
 ·intro b b' B s N s' N' hb hb' h1 h2
  simp only[AH.alloc,if_neg (key b _ hb)]at h1
  simp only[AH.alloc,if_neg (key b' _ hb')]at h2
  exact H.inj b b' B s N s' N' hb hb' h1 h2
 ·intro b hb
  exact H.dom b (by simp only[AH.alloc]at hb;omega)
def gset(γ:Gm)(b:Nat)(x:Nat×Nat×Nat):Gm:=fun i=>if i=b then some x else γ i
theorem gset_sub{b:Nat}{x:Nat×Nat×Nat}(hb:γ b=none):Sub γ (gset γ b x):=by
 intro i y hi
 unfold gset
 split
 ·rename_i e;subst e;rw[hb]at hi;simp at hi
 ·exact hi
theorem HR.map(H:HR C γ h w){b:Nat}(hb:γ b=none)(hlt:b<h.next){obj:Obj}{N:Nat}(hB:BR C (gset γ b (w.heap.size,0,N)) (h.get b) (some obj) w.heap.size 0 N):
  HR C (gset γ b (w.heap.size,0,N)) h { w with heap:=w.heap.push obj }:=by
 have hs:=gset_sub (x:=(w.heap.size,0,N)) hb
 have hsz:=H.size
 refine⟨⟨H.below.os,H.below.tape,H.below.output,by have:=H.below.size;simp;omega,fun k hk=>?_⟩,H.low,?_,?_,?_⟩
 ·rw[←H.below.block k hk,Array.getElem?_push,if_neg (by omega)]
 ·intro b' B s N' hb'
  unfold gset at hb'
  split at hb'
  ·rename_i e
   subst e
   simp only[Option.some.injEq,Prod.mk.injEq]at hb'
   obtain⟨rfl,rfl,rfl⟩:=hb'
   simpa using hB
  ·have k:=(H.blk b' B s N' hb').mono hs
   rw[Array.getElem?_push]
   split
   ·rename_i e
    subst e
    cases ho:h.get b' with
    | dead=>trivial
    | cells c g ro=>
     rw[ho]at k;obtain⟨_,_,_,_,k1,_⟩:=k
     simp at k1
    | map es clk=>
     rw[ho]at k;obtain⟨_,k1,_⟩:=k
     simp at k1
   ·exact k
 ·have key:∀b' s' N',γ b'=some (w.heap.size,s',N')→(h.get b').wr=true→False:=by
   intro b' s' N' hb' hw
   have k:=H.blk b' _ s' N' hb'
   cases ho:h.get b' with
   | dead=>rw[ho]at hw;simp[ABlk.wr]at hw
   | cells c g ro=>
    rw[ho]at k;obtain⟨_,_,_,_,k1,_⟩:=k
    simp at k1
   | map es clk=>
    rw[ho]at k;obtain⟨_,k1,_⟩:=k
    simp at k1
  intro b1 b2 B s1 N1 s2 N2 q1 q2 w1 w2
  unfold gset at q1 q2
  split at q1<;>split at q2
  ·rename_i e1 e2;rw[e1,e2]
  ·simp only[Option.some.injEq,Prod.mk.injEq]at q1
   obtain⟨rfl,rfl,rfl⟩:=q1
   exact(key b2 _ _ q2 w2).elim
  ·simp only[Option.some.injEq,Prod.mk.injEq]at q2
   obtain⟨rfl,rfl,rfl⟩:=q2
   exact(key b1 _ _ q1 w1).elim
  ·exact H.inj b1 b2 B s1 N1 s2 N2 q1 q2 w1 w2
 ·intro b' hb'
  unfold gset
  rw[if_neg (by omega)]
  exact H.dom b' hb'
theorem HR.alloc(H:HR C γ h w){o:ABlk}{obj:Obj}{N:Nat}(hB:BR C (gset γ h.next (w.heap.size,0,N)) o (some obj) w.heap.size 0 N):
  Sub γ (gset γ h.next (w.heap.size,0,N))∧HR C (gset γ h.next (w.heap.size,0,N)) (h.alloc o) { w with heap:=w.heap.push obj }:=
 ⟨gset_sub (H.dom _ (Nat.le_refl _)),(H.grow o).map (H.dom _ (Nat.le_refl _)) (by simp[AH.alloc]) (by simpa[AH.alloc]using hB)⟩
theorem BR.new{γ:Gm}{c:List Value}{D:Array Value}{E:TypeId}{g:Bool}(hR:FA2 (VR C γ) c (D.toList.take c.length))(hle:c.length≤D.size)(h1:∀x∈c,x.oneCell'=true){B:Nat}(hB:C.base≤B):
  BR C γ (.cells c g false) (some (.cells D E)) B 0 D.size:=
 ⟨D,E,0,0,rfl,rfl,by omega,by simpa using hR,h1,by simp,fun _=>⟨hB,.inl rfl⟩⟩
theorem run_storeCells{P:Program}{B o:Nat}{E:TypeId}{lo hi N:Nat}(hfz:hi=lo∨N≤lo):∀(vs:List Value) (i:Nat) (D:Array Value) (w:World),w.heap[B]?=some (.cells D E (lo,hi))→D.size=N→
  o+i+vs.length≤D.size→(∀x∈vs,x.oneCell'=true)→
  (storeCells ⟨B,o,none⟩ vs i).run P w=.ok () { w with heap:=w.heap.modify B fun _=>.cells (splice D.toList (o+i) vs).toArray E (lo,hi) }
 | [],i,D,w,hw,_,hle,_=>by
  simp only[storeCells,Sem.run_pure,splice]
  congr 1
  have:(w.heap.modify B fun _=>Obj.cells (List.take (o+i) D.toList++([]++List.drop (o+i+([]:List Value).length) D.toList)).toArray E (lo,hi))=w.heap:=by
   apply Array.ext_getElem?
   intro j
   rw[Array.getElem?_modify]
   split
   ·rename_i e;subst e;simp[hw]
   ·rfl
  rw[this]
 | v::vs,i,D,w,hw,hN,hle,h1=>by
  simp only[List.length_cons]at hle
  have hadd:(⟨B,o,none⟩:Addr).add i=⟨B,o+i,none⟩:=by
   unfold Addr.add;split<;>simp_all
  have hc:w.cell? ⟨B,o+i,none⟩=some (D[o+i]'(by omega)):=by rw[cell_of hw];simp
  have hf:w.frozen? ⟨B,o+i,none⟩=false:=by
   simp only[World.frozen?,hw]
   rcases hfz with h|h
   ·simp;omega
   ·simp;omega
  have hv:v.oneCell'=true:=h1 v (by simp)
  simp only[storeCells,Sem.run_bind,hadd,run_store P w ⟨B,o+i,none⟩ v .plain hv,hc,hf,Bool.false_eq_true,if_false,Result.andThen_ok]
  have hset:w.setCell ⟨B,o+i,none⟩ v={ w with heap:=w.heap.modify B fun _=>.cells (D.setIfInBounds (o+i) v) E (lo,hi) }:=by
   simp only[World.setCell]
   congr 1
   apply Array.ext_getElem?
   intro j
   rw[Array.getElem?_modify,Array.getElem?_modify]
   split
   ·rename_i e;subst e;simp[hw]
   ·rfl
  rw[hset]
  rw[run_storeCells (P:=P) (o:=o) (E:=E) (N:=N) hfz vs (i+1) (D.setIfInBounds (o+i) v) _ (by simp[Array.getElem?_modify,hw]) (by simpa using hN) (by simp;omega) (fun x hx=>h1 x (by simp[hx]))]
  congr 1
  congr 1
  apply Array.ext_getElem?
  intro j
  rw[Array.getElem?_modify,Array.getElem?_modify,Array.getElem?_modify]
  split
  ·rename_i e
   subst e
   simp only[hw,Option.map_some,Option.some.injEq,Obj.cells.injEq,and_true]
   apply congrArg List.toArray
   apply List.ext_getElem?
   intro k
   simp only[splice,Array.toList_setIfInBounds,List.getElem?_append,List.length_take,List.getElem?_take,List.getElem?_drop,List.length_set,Array.length_toList,List.getElem?_set,List.length_cons]
   have e3:min (o+(i+1)) D.size=o+(i+1):=by omega
   have e4:min (o+i) D.size=o+i:=by omega
   rw[e3,e4]
   by_cases k1:k<o+i
   ·simp only[k1,show k<o+(i+1) by omega,show ¬o+i=k by omega,if_true,if_false]
   ·by_cases k2:k=o+i
    ·subst k2
     simp[show o+i<o+(i+1) by omega,show o+i<D.size by omega]
    ·simp only[show ¬k<o+(i+1) by omega,k1,if_false]
     obtain⟨m,rfl⟩:∃m,k=o+i+1+m:=⟨k-(o+i+1),by omega⟩
     have q1:o+i+1+m-(o+(i+1))=m:=by omega
     have q2:o+i+1+m-(o+i)=m+1:=by omega
     rw[q1,q2]
     simp only[List.getElem?_cons_succ]
     by_cases k3:m<vs.length
     ·simp[k3]
     ·simp only[k3,show ¬(m+1<vs.length+1) by omega,if_false]
      rw[if_neg (by omega)]
      congr 1
      omega
  ·rfl
theorem splice_length{c:List Value}{o:Nat}{vs:List Value}(hl:o+vs.length≤c.length):(splice c o vs).length=c.length:=by
 simp[splice];omega
theorem splice_set{c:List Value}{o:Nat}{v:Value}(hl:o<c.length):splice c o [v]=c.set o v:=by
 apply List.ext_getElem?
 intro k
 simp only[splice,List.getElem?_append,List.length_take,List.getElem?_take,List.length_cons,List.length_nil,List.getElem?_drop,List.getElem?_set,Nat.min_eq_left (Nat.le_of_lt hl)]
 by_cases k1:k<o
 ·simp[k1];intro e;omega
 ·by_cases k2:k=o
  ·subst k2;simp[hl]
  ·obtain⟨m,rfl⟩:∃m,k=o+1+m:=⟨k-(o+1),by omega⟩
   simp[show o+1+m-o=m+1 by omega,show ¬o+1+m<o by omega,show ¬o=o+1+m by omega]
theorem HR.store(H:HR C γ h w){b o B s N:Nat}{l:List Value}{l':List Value}(hb:γ b=some (B,s,N))(hl:FA2 (VR C γ) l l')(h1:∀x∈l,x.oneCell'=true){h':AH}(hst:h.store b o l=some h'):
  ∃w',(storeCells ⟨B,s+o,none⟩ l').run C.P w=.ok () w'∧HR C γ h' w':=by
 unfold AH.store at hst
 split at hst
 ·rename_i c g hc
  split at hst
  ·rename_i hle
   simp at hst
   subst hst
   obtain⟨D,E,lo,hi,e1,e2,e3,e4,e5,_,e6⟩:=H.cells hb hc
   have e7:=e6 rfl
   have hl':=hl.length
   have ho':∀x∈l',x.oneCell'=true:=by
    intro x hx
    obtain⟨i,hi⟩:=List.getElem?_of_mem hx
    have hlt:=(List.getElem?_eq_some_iff.1 hi).1
    have hlt2:i<l.length:=by omega
    obtain⟨y,hy,hr⟩:=hl.get (List.getElem?_eq_getElem hlt2)
    rw[hi]at hy
    simp at hy;subst hy
    rw[hr.one]
    exact h1 _ (List.getElem_mem hlt2)
   refine⟨_,run_storeCells e7.2 l' 0 D w e1 e2 (by omega) ho',?_⟩
   refine H.write hb hc e1 (c':=splice c o l) (D':=(splice D.toList (s+o+0) l').toArray) (splice_length hle) ?_ ?_ ?_ rfl
   ·simp;rw[splice_length (by simp;omega)];simp
   ·have:=FA2.splice e4 hl o
    rw[splice_length hle]
    have e:List.take c.length (List.drop s (splice D.toList (s+o+0) l').toArray.toList)=List.take o (List.take c.length (List.drop s D.toList))++(l'++List.drop (o+l'.length) (List.take c.length (List.drop s D.toList))):=by
     apply List.ext_getElem?
     intro k
     simp only[splice,List.getElem?_take,List.getElem?_drop,List.getElem?_append,List.length_take,List.length_drop,Array.length_toList,Nat.add_zero]
     have m1:min (s+o) D.size=s+o:=by omega
     have m2:min o (min c.length (D.size-s))=o:=by omega
     rw[m1,m2]
     by_cases k1:k<o
     ·simp[k1,show s+k<s+o by omega]
     ·rw[if_neg (show ¬s+k<s+o by omega),if_neg k1]
      have q:s+k-(s+o)=k-o:=by omega
      rw[q]
      by_cases k2:k-o<l'.length
      ·rw[if_pos k2,if_pos k2,if_pos (by omega)]
      ·rw[if_neg k2,if_neg k2]
       have q2:o+l'.length+(k-o-l'.length)=k:=by omega
       rw[q2]
       congr 2
       omega
    rw[e]
    rw[hl']at this
    simpa[splice,hl']using this
   ·intro x hx
    simp only[splice,List.mem_append]at hx
    rcases hx with hx|hx|hx
    ·exact e5 x (List.mem_of_mem_take hx)
    ·exact h1 x hx
    ·exact e5 x (List.mem_of_mem_drop hx)
  ·simp at hst
 ·simp at hst
theorem HR.store1(H:HR C γ h w){b o B s N:Nat}{v v':Value}(hb:γ b=some (B,s,N))(hl:VR C γ v v')(h1:v.oneCell'=true){h':AH}(hst:h.store1 b o v=some h'):
  ∃w',(storeCells ⟨B,s+o,none⟩ [v']).run C.P w=.ok () w'∧HR C γ h' w':=by
 refine H.store hb (.one hl) (by simpa using h1) ?_
 unfold AH.store1 at hst
 unfold AH.store
 split at hst
 ·rename_i c g hc
  split at hst
  ·rename_i hlt
   simp at hst
   simp only[List.length_cons,List.length_nil]
   rw[if_pos (by omega),splice_set hlt,hst]
  ·simp at hst
 ·simp at hst
end
end Go.Jq
namespace Go.Jq
open Go.RowKit
section runs
variable {P:Program} {w:World} {t:TypeId}
theorem run_typeInfo{i:TypeInfo}(h:P.info? t=some i):(typeInfo t).run P w=.ok i w:=by simp[typeInfo,h]
theorem run_zero{i:TypeInfo}{z:Value}(h:P.info? t=some i)(hz:i.zero=some z):(zeroValue t).run P w=.ok z w:=by simp[zeroValue,run_typeInfo h,hz]
theorem run_size{n:Nat}(h:tsize P t=some n):(sizeOf t).run P w=.ok n w:=by
 simp only[tsize,Option.map_eq_some_iff]at h
 obtain⟨i,hi,rfl⟩:=h
 simp[sizeOf,run_typeInfo hi]
theorem run_agg{d:TypeDesc}(h:P.underlying t=some d):(isAgg t).run P w=.ok (aggD d) w:=by
 simp only[isAgg,Sem.run_bind,run_underlying h,Result.andThen_ok]
 cases d<;>rfl
theorem run_newRow{e:TypeId}{c:Array Value}:(newRow e c).run P w=.ok ⟨w.heap.size,0,none⟩ { w with heap:=w.heap.push (.cells c e) }:=by simp[newRow]
theorem tzero_some{cs:List Value}(h:tzero P t=some cs):∃i z,P.info? t=some i∧i.zero=some z∧vcells z=some cs∧cs.all plain1=true∧cs.length=i.size:=by
 unfold tzero at h
 split at h
 ·rename_i i hi
  split at h
  ·rename_i z hz
   split at h
   ·rename_i l hl
    split at h
    ·rename_i hc
     simp at h;subst h
     simp only[Bool.and_eq_true,beq_iff_eq]at hc
     exact⟨i,z,hi,hz,hl,hc.1,hc.2⟩
    ·simp at h
   ·simp at h
  ·simp at h
 ·simp at h
theorem vcells_cells{v:Value}{l:List Value}(h:vcells v=some l):v.cells.toList=l:=by
 unfold vcells at h
 split at h
 ·simp at h;exact h
 ·simp at h
 ·simp at h;subst h
  rename_i x y
  cases v<;>first|rfl|exact absurd rfl (x _)|exact absurd rfl (y _)
end runs
section
variable {C:Ctx} {γ:Gm} {h:AH} {w:World} {a:Act}
def OR(C:Ctx)(γ:Gm)(ρ:SOpd→Option Value)(a:Act):Prop:=∀x sx v,cOpd C.ψ x=some sx→ρ sx=some v→VR C γ v (a.eval x)
variable {ρ:SOpd→Option Value}
theorem OR.mono{γ':Gm}(hs:Sub γ γ')(k:OR C γ ρ a):OR C γ' ρ a:=fun x sx v h1 h2=>(k x sx v h1 h2).mono hs
theorem OR.vals(k:OR C γ ρ a):∀{xs:List Operand} {ss:List SOpd} {l:List Value},cOpds C.ψ xs=some ss→vals ρ ss=some l→FA2 (VR C γ) l (xs.map a.eval)
 | [],ss,l,hc,hv=>by simp[cOpds]at hc;subst hc;simp[Go.Jq.vals]at hv;subst hv;exact .nil
 | x::xs,ss,l,hc,hv=>by
  simp only[cOpds]at hc
  split at hc
  ·rename_i sx ss' h1 h2
   simp at hc;subst hc
   simp only[Go.Jq.vals]at hv
   split at hv
   ·rename_i v l' h3 h4
    simp at hv;subst hv
    exact .cons (k x sx v h1 h3) (OR.vals k h2 h4)
   ·simp at hv
  ·simp at hc
def PR(C:Ctx)(γ:Gm)(place:Nat→Option (Nat×Nat))(p:Nat×Nat×Value)(q:Nat×Value):Prop:=place q.1=some (p.1,p.2.1)∧VR C γ p.2.2 q.2
theorem OR.parts(k:OR C γ ρ a){place:Nat→Option (Nat×Nat)}:∀{xs:List (Nat×Operand)} {ss:List (Nat×Nat×SOpd)} {l:List (Nat×Nat×Value)},
  cParts C.ψ place xs=some ss→vparts ρ ss=some l→FA2 (PR C γ place) l (xs.map fun p=>(p.1,a.eval p.2))
 | [],ss,l,hc,hv=>by simp[cParts]at hc;subst hc;simp[vparts]at hv;subst hv;exact .nil
 | (i,x)::xs,ss,l,hc,hv=>by
  simp only[cParts]at hc
  split at hc
  ·rename_i o n sx ss' h0 h1 h2
   simp at hc;subst hc
   simp only[vparts]at hv
   split at hv
   ·rename_i v l' h3 h4
    simp at hv;subst hv
    exact .cons ⟨h0,k x sx v h1 h3⟩ (OR.parts k h2 h4)
   ·simp at hv
  ·simp at hc
theorem foldl_set(off:Nat):∀(l:List Value) (i:Nat) (c:Array Value),off+i+l.length≤c.size→
  ((l.zipIdx i).foldl (fun cs x=>cs.setIfInBounds (off+x.2) x.1) c).toList=splice c.toList (off+i) l
 | [],i,c,_=>by simp[splice]
 | v::l,i,c,hle=>by
  simp only[List.length_cons]at hle
  simp only[List.zipIdx_cons,List.foldl_cons]
  rw[foldl_set off l (i+1) (c.setIfInBounds (off+i) v) (by simp;omega)]
  apply List.ext_getElem?
  intro k
  simp only[splice,Array.toList_setIfInBounds,List.getElem?_append,List.length_take,List.getElem?_take,List.getElem?_drop,List.length_set,Array.length_toList,List.getElem?_set,List.length_cons]
  have e3:min (off+(i+1)) c.size=off+(i+1):=by omega
  have e4:min (off+i) c.size=off+i:=by omega
  rw[e3,e4]
  by_cases k1:k<off+i
  ·simp only[k1,show k<off+(i+1) by omega,show ¬off+i=k by omega,if_true,if_false]
  ·by_cases k2:k=off+i
   ·subst k2
    simp[show off+i<off+(i+1) by omega,show off+i<c.size by omega]
   ·simp only[show ¬k<off+(i+1) by omega,k1,if_false]
    obtain⟨m,rfl⟩:∃m,k=off+i+1+m:=⟨k-(off+i+1),by omega⟩
    have q1:off+i+1+m-(off+(i+1))=m:=by omega
    have q2:off+i+1+m-(off+i)=m+1:=by omega
    rw[q1,q2]
    simp only[List.getElem?_cons_succ]
    by_cases k3:m<l.length
    ·simp[k3]
    ·simp only[k3,show ¬(m+1<l.length+1) by omega,if_false]
     rw[if_neg (by omega)]
     congr 1
     omega
theorem fill_sound{place:Nat→Option (Nat×Nat)}:∀{l:List (Nat×Nat×Value)} {m:List (Nat×Value)} {cs r:List Value} {D:Array Value},FA2 (PR C γ place) l m→FA2 (VR C γ) cs D.toList→(∀x∈cs,x.oneCell'=true)→
  sfill l cs=some r→∃D',Instr.fill place D m=some D'∧FA2 (VR C γ) r D'.toList∧(∀x∈r,x.oneCell'=true)∧r.length=cs.length
 | [],_,cs,r,D,.nil,hD,h1,hs=>by simp[sfill]at hs;subst hs;exact⟨D,rfl,hD,h1,rfl⟩
 | (o,n,v)::l,_,cs,r,D,.cons (b:=q) ⟨hp,hv⟩ hm,hD,h1,hs=>by
  obtain⟨i,u⟩:=q
  simp only at hp hv
  simp only[sfill]at hs
  split at hs
  ·rename_i vc hvc
   split at hs
   ·rename_i hle
    obtain⟨hR,hone⟩:=hv.cells hvc
    have hlen:=hR.length
    have hsz:u.cells.size=n:=by rw[←Array.length_toList,←hlen];exact hle.1
    have hDs:D.size=cs.length:=by rw[←Array.length_toList,←hD.length]
    have hsp:=FA2.splice hD hR o
    have:=fill_sound (place:=place) (D:=(u.cells.zipIdx.foldl (fun cs x=>cs.setIfInBounds (o+x.2) x.1) D)) hm (cs:=splice cs o vc) (r:=r) (by
     have e:(u.cells.zipIdx.foldl (fun cs x=>cs.setIfInBounds (o+x.2) x.1) D)=((u.cells.toList.zipIdx 0).foldl (fun cs x=>cs.setIfInBounds (o+x.2) x.1) D):=by
      rw[←Array.toList_zipIdx,Array.foldl_toList]
     rw[e,foldl_set o _ 0 D (by simp;omega),Nat.add_zero]
     exact hsp) (by
     intro x hx
     simp only[splice,List.mem_append]at hx
     rcases hx with hx|hx|hx
     ·exact h1 x (List.mem_of_mem_take hx)
     ·exact hone x hx
     ·exact h1 x (List.mem_of_mem_drop hx)) hs
    obtain⟨D',f1,f2,f3,f4⟩:=this
    refine⟨D',?_,f2,f3,by rw[f4,splice_length (by omega)]⟩
    simp only[Instr.fill,hp]
    rw[if_neg (by simp;omega)]
    exact f1
   ·simp at hs
  ·simp at hs
theorem zeros_VR{cs:List Value}{γ:Gm}{z:Value}(hc:vcells z=some cs)(hp:cs.all plain1=true):FA2 (VR C γ) cs z.cells.toList∧∀x∈cs,x.oneCell'=true:=by
 rw[vcells_cells hc]
 exact⟨plains_VR hp,fun x hx=>plain1_one (List.all_eq_true.1 hp x hx)⟩
theorem zero_row(zs:List Value)(z:Value)(hz:vcells z=some zs)(n:Nat)(hn:zs≠[]):
  ((Array.range (n*zs.length)).map (z.cells[· % z.cells.size]!)).toList=(List.replicate n zs).flatten:=by
 have hzs:=vcells_cells hz
 have hsz:z.cells.size=zs.length:=by rw[←hzs];simp
 have hpos:0<zs.length:=by cases zs with
  | nil=>exact absurd rfl hn
  | cons _ _=>simp
 apply List.ext_getElem?
 intro k
 simp only[Array.toList_map,Array.toList_range,List.getElem?_map]
 have hfl:∀(n k:Nat),((List.replicate n zs).flatten)[k]?=if k<n*zs.length then zs[k % zs.length]? else none:=by
  intro n
  induction n with
  | zero=>intro k;simp
  | succ n ih=>
   intro k
   simp only[List.replicate_succ,List.flatten_cons,List.getElem?_append,ih]
   by_cases h1:k<zs.length
   ·rw[if_pos h1,if_pos (by rw[Nat.add_mul];omega),Nat.mod_eq_of_lt h1]
   ·rw[if_neg h1]
    have e:(k-zs.length) % zs.length=k % zs.length:=by
     conv=>rhs;rw[show k=(k-zs.length)+zs.length by omega,Nat.add_mod_right]
    rw[e]
    have:(k-zs.length<n*zs.length)↔(k<(n+1)*zs.length):=by rw[Nat.add_mul];omega
    by_cases h2:k-zs.length<n*zs.length
    ·rw[if_pos h2,if_pos (this.1 h2)]
    ·rw[if_neg h2,if_neg (fun x=>h2 (this.2 x))]
 rw[hfl,hsz]
 by_cases hk:k<n*zs.length
 ·have hm:k % zs.length<z.cells.size:=by rw[hsz];exact Nat.mod_lt _ hpos
  rw[if_pos hk,List.getElem?_range hk]
  simp only[Option.map_some]
  rw[←hzs,Array.getElem?_toList,getElem!_pos z.cells _ (by simpa[hzs]using hm)]
  rw[Array.getElem?_eq_getElem (by simpa[hzs]using hm)]
 ·rw[if_neg hk,List.getElem?_eq_none (by simpa using hk)]
  rfl
structure Fl(C:Ctx)(γ:Gm)(o:Oper)(a:Act)(v:Value)(next:Nat)(blk:ABlk):Prop where
 go:∀w:World,C.base≤w.heap.size→∃v' obj N,(execOp a.eval o).run C.P w=.ok (.value v') { w with heap:=w.heap.push obj }∧
  ∀γ',Sub γ γ'→γ' next=some (w.heap.size,0,N)→VR C γ' v v'∧BR C γ' blk (some obj) w.heap.size 0 N
theorem fl_alloc{t:TypeId}{zs:List Value}{o:Oper}(ho:o.op=.alloc t)(hz:tzero C.P t=some zs)(n:Nat):
  Fl C γ o a (.pointer (some ⟨n,0,none⟩)) n (.cells zs false false):=by
 obtain⟨i,z,h1,h2,h3,h4,h5⟩:=tzero_some hz
 refine⟨fun w hw=>⟨.pointer (some ⟨w.heap.size,0,none⟩),.cells z.cells t,z.cells.size,?_,fun γ' hs hg=>⟨VR.ptr (o:=0) hg,?_⟩⟩⟩
 ·simp[execOp,ho,Instr.alloc,run_zero h1 h2,newVar,run_newRow]
 ·obtain⟨k1,k2⟩:=zeros_VR (C:=C) (γ:=γ') h3 h4
  exact BR.new (by rw[List.take_of_length_le (by rw[k1.length];exact Nat.le_refl _)];exact k1) (by rw[k1.length];simp) k2 hw
theorem fl_box{t:TypeId}{x:Operand}{v:Value}{cs:List Value}{o:Oper}(ho:o.op=.box t x)(hv:VR C γ v (a.eval x))(hc:vcells v=some cs)(n:Nat):
  Fl C γ o a (.pointer (some ⟨n,0,none⟩)) n (.cells cs false false):=by
 refine⟨fun w hw=>⟨.pointer (some ⟨w.heap.size,0,none⟩),.cells (a.eval x).cells t,(a.eval x).cells.size,?_,fun γ' hs hg=>⟨VR.ptr (o:=0) hg,?_⟩⟩⟩
 ·simp[execOp,ho,Instr.box,newVar,run_newRow]
 ·obtain⟨k1,k2⟩:=(hv.mono hs).cells hc
  exact BR.new (by rw[List.take_of_length_le (by rw[k1.length];exact Nat.le_refl _)];exact k1) (by rw[k1.length];simp) k2 hw
theorem fl_mkslice(hρ:OR C γ ρ a){t e:TypeId}{len n:Nat}{ps:List (Nat×Operand)}{zs:List Value}{ss:List (Nat×Nat×SOpd)}{l:List (Nat×Nat×Value)}{cs:List Value}{o:Oper}
  (ho:o.op=.buildSlice t len ps.toArray)(hu:C.P.underlying t=some (.slice e))(hn:tsize C.P e=some n)(hz:tzero C.P e=some zs)
  (hp:cParts C.ψ (fun i=>some (i*n,n)) ps=some ss)(hl:len*n≤4096∧n≠0)(hv:vparts ρ ss=some l)(hf:sfill l (List.replicate len zs).flatten=some cs)(nx:Nat):
  Fl C γ o a (.slice (some ⟨nx,0,none⟩) len len) nx (.cells cs false false):=by
 obtain⟨i,z,h1,h2,h3,h4,h5⟩:=tzero_some hz
 have hni:n=i.size:=by simp[tsize,h1]at hn;omega
 have hzl:zs.length=n:=by omega
 obtain⟨k1,k2⟩:=zeros_VR (C:=C) (γ:=γ) h3 h4
 have hpr:=hρ.parts hp hv
 have hrow:=zero_row zs z h3 len (by intro e;rw[e]at hzl;simp at hzl;omega)
 rw[hzl]at hrow
 have hrep:FA2 (VR C γ) (List.replicate len zs).flatten ((Array.range (len*n)).map (z.cells[· % z.cells.size]!)).toList:=by
  rw[hrow]
  have:∀x∈(List.replicate len zs).flatten,plain1 x=true:=by
   intro x hx
   simp only[List.mem_flatten,List.mem_replicate]at hx
   obtain⟨l,⟨_,rfl⟩,hx⟩:=hx
   exact List.all_eq_true.1 h4 x hx
  exact plains_VR (List.all_eq_true.2 this)
 have hone:∀x∈(List.replicate len zs).flatten,x.oneCell'=true:=by
  intro x hx
  simp only[List.mem_flatten,List.mem_replicate]at hx
  obtain⟨l,⟨_,rfl⟩,hx⟩:=hx
  exact k2 x hx
 obtain⟨D',f1,f2,f3,f4⟩:=fill_sound hpr hrep hone hf
 refine⟨fun w hw=>⟨.slice (some ⟨w.heap.size,0,none⟩) len len,.cells D' e,D'.size,?_,fun γ' hs hg=>⟨VR.slX (o:=0) hg,?_⟩⟩⟩
 ·simp only[execOp,ho,Instr.buildSlice,Sem.run_bind,run_underlying hu,Result.andThen_ok,run_size hn,Sem.run_pure]
  rw[if_neg (by omega)]
  by_cases h0:len*n=0
  ·have:len=0:=by rcases Nat.mul_eq_zero.1 h0 with h|h<;>omega
   subst this
   simp only[h0,if_true,Sem.run_bind,Sem.run_pure,Result.andThen_ok]
   have e0:∀f:Nat→Value,(Array.range 0).map f=#[]:=fun _=>by simp
   rw[h0,e0]at f1
   rw[e0]
   simp only[List.map_toArray]
   rw[f1]
   simp[run_newRow]
  ·simp only[h0,if_false,Sem.run_bind,run_zero h1 h2,Sem.run_pure,Result.andThen_ok]
   simp only[List.map_toArray]
   rw[f1]
   simp[run_newRow]
 ·exact BR.new (by rw[List.take_of_length_le (by rw[f2.length];exact Nat.le_refl _)];exact VR.monoL hs f2) (by rw[f2.length];simp) f3 hw
theorem fl_mkmap{t:TypeId}{o:Oper}(ho:o.op=.makeMap t none)(n:Nat):Fl C γ o a (.map (some n)) n (.map [] 0):=by
 refine⟨fun w hw=>⟨.map (some w.heap.size),.map #[] 0,0,?_,fun γ' hs hg=>⟨VR.map hg,?_⟩⟩⟩
 ·simp[execOp,ho,Instr.makeMap]
 ·exact⟨#[],rfl,rfl,hw,.nil⟩
theorem fl_mkrow(hρ:OR C γ ρ a){t e:TypeId}{size bytes:Nat}{zs:List Value}{l c:Operand}{sl sc:SOpd}{kl kc:IntKind}{nl nc:Int}{o:Oper}
  (ho:o.op=.makeSlice t l c)(hu:C.P.underlying t=some (.slice e))(hn:tsize C.P e=some size)(hb:tbytes C.P e=some bytes)(hz:tzero C.P e=some zs)(hn0:size≠0)
  (hl:cOpd C.ψ l=some sl)(hcc:cOpd C.ψ c=some sc)(vl:ρ sl=some (.int kl nl))(vc:ρ sc=some (.int kc nc))
  (hok:0≤nl∧nl≤nc∧nc*bytes≤70368744177664∧nc≤70368744177664∧zs.length=size)(nx:Nat):
  Fl C γ o a (.slice (some ⟨nx,0,none⟩) nl.toNat nc.toNat) nx (.cells (List.replicate nc.toNat zs).flatten false false):=by
 obtain⟨i,z,h1,h2,h3,h4,h5⟩:=tzero_some hz
 have hni:i.size=size:=by simp[tsize,h1]at hn;exact hn
 have hbi:i.bytes=bytes:=by simp[tbytes,h1]at hb;exact hb
 obtain⟨g0,g1,g2,g3,g4⟩:=hok
 have e1:a.eval l=.int kl nl:=by exact(hρ l sl _ hl vl).int_inv
 have e2:a.eval c=.int kc nc:=by exact(hρ c sc _ hcc vc).int_inv
 obtain⟨k1,k2⟩:=zeros_VR (C:=C) (γ:=γ) h3 h4
 have hrow:=zero_row zs z h3 nc.toNat (by intro e;rw[e]at g4;simp at g4;omega)
 rw[g4]at hrow
 have wl:IntKind.i64.wrap nl=nl:=by unfold IntKind.wrap;simp[IntKind.bits,IntKind.signed];omega
 have wc:IntKind.i64.wrap nc=nc:=by unfold IntKind.wrap;simp[IntKind.bits,IntKind.signed];omega
 refine⟨fun w hw=>⟨.slice (some ⟨w.heap.size,0,none⟩) nl.toNat nc.toNat,.cells ((Array.range (nc.toNat*size)).map (z.cells[· % z.cells.size]!)) e,nc.toNat*size,?_,fun γ' hs hg=>⟨VR.slX (o:=0) hg,?_⟩⟩⟩
 ·simp only[execOp,ho,e1,e2,Instr.makeSlice,Sem.run_bind,run_underlying hu,Result.andThen_ok,asInt,asIntOf,Sem.run_pure,run_typeInfo h1,wl,wc,hbi,run_size hn,run_askRoom]
  have t1:¬((bytes:Int)*nc>2^48):=by rw[Int.mul_comm];omega
  rw[if_neg (by simp;omega)]
  by_cases h0:nc.toNat*size=0
  ·have e0:∀f:Nat→Value,(Array.range 0).map f=#[]:=fun _=>by simp
   simp only[h0,if_true,Sem.run_bind,Sem.run_pure,Result.andThen_ok,run_newRow,run_askRoom,e0,run_size hn]
  ·simp only[h0,if_false,Sem.run_bind,Sem.run_pure,Result.andThen_ok,run_size hn,run_zero h1 h2,run_newRow,run_askRoom]
 ·have hlen:((Array.range (nc.toNat*size)).map (z.cells[· % z.cells.size]!)).size=nc.toNat*size:=by simp
  have hfl:(List.replicate nc.toNat zs).flatten.length=nc.toNat*size:=by rw[←hrow];simp
  have hR:FA2 (VR C γ') (List.replicate nc.toNat zs).flatten ((Array.range (nc.toNat*size)).map (z.cells[· % z.cells.size]!)).toList:=by
   rw[hrow]
   refine plains_VR (List.all_eq_true.2 ?_)
   intro x hx
   simp only[List.mem_flatten,List.mem_replicate]at hx
   obtain⟨l,⟨_,rfl⟩,hx⟩:=hx
   exact List.all_eq_true.1 h4 x hx
  have:=BR.new (C:=C) (γ:=γ') (E:=e) (g:=false) (c:=(List.replicate nc.toNat zs).flatten) (D:=(Array.range (nc.toNat*size)).map (z.cells[· % z.cells.size]!)) (by rw[List.take_of_length_le (by rw[hR.length];exact Nat.le_refl _)];exact hR) (by omega) (by
   intro x hx
   simp only[List.mem_flatten,List.mem_replicate]at hx
   obtain⟨l,⟨_,rfl⟩,hx⟩:=hx
   exact k2 x hx) hw
  rwa [hlen]at this
end
end Go.Jq
namespace Go.Jq
open Go.RowKit
def GX(h:AH)(γ γ':Gm)(h1:AH):Prop:=Sub γ γ'∧(∀b,b<h.next→γ' b=γ b)∧h.next≤h1.next
theorem GX.same{h h1:AH}{γ:Gm}(hn:h.next≤h1.next):GX h γ γ h1:=⟨Sub.refl γ,fun _ _=>rfl,hn⟩
theorem GX.trans{h h1 h2:AH}{a b c:Gm}(x:GX h a b h1)(y:GX h1 b c h2):GX h a c h2:=
 ⟨x.1.trans y.1,fun i hi=>(y.2.1 i (by have:=x.2.2;omega)).trans (x.2.1 i hi),Nat.le_trans x.2.2 y.2.2⟩
theorem store_next{h h1:AH}{b o:Nat}{l:List Value}(hs:h.store b o l=some h1):h1.next=h.next:=by
 unfold AH.store at hs
 split at hs
 ·split at hs
  ·simp only[Option.some.injEq]at hs;subst hs;rfl
  ·simp at hs
 ·simp at hs
def OutOk(C:Ctx)(γ:Gm)(h:AH)(o:Oper)(a:Act)(w:World):Out→Prop
 | .val v h1=>∃v' w' γ',(execOp a.eval o).run C.P w=.ok (.value v') w'∧GX h γ γ' h1∧HR C γ' h1 w'∧VR C γ' v v'
 | .skip h1=>∃w',(execOp a.eval o).run C.P w=.ok .skip w'∧h.next≤h1.next∧HR C γ h1 w'
 | .call f args=>∃args',(execOp a.eval o).run C.P w=.ok (.enter (C.φ f) args') w∧FA2 (VR C γ) args args'.toList∧C.L f=true
section
variable {C:Ctx} {γ:Gm} {h:AH} {w:World} {a:Act} {ρ:SOpd→Option Value} {o:Oper}
def Qt(C:Ctx)(γ:Gm)(o:Oper)(a:Act)(v:Value):Prop:=∀w:World,∃v',(execOp a.eval o).run C.P w=.ok (.value v') w∧VR C γ v v'
theorem q_mov{x:Operand}{sx:SOpd}{v:Value}(ho:o.op=.move x∨o.op=.assign x)(hρ:OR C γ ρ a)(hx:cOpd C.ψ x=some sx)(hv:ρ sx=some v):Qt C γ o a v:=
 fun w=>⟨a.eval x,by rcases ho with ho|ho<;>simp[execOp,ho],hρ x sx v hx hv⟩
theorem q_pick{c x y:Operand}{t:Bool}{v:Value}(ho:o.op=.pick c x y)(hc:VR C γ (.bool t) (a.eval c))(hv:VR C γ v (if t then a.eval x else a.eval y)):Qt C γ o a v:=
 fun w=>⟨_,by simp[execOp,ho,hc.bool_inv,asBool],hv⟩
theorem q_build(hρ:OR C γ ρ a){t:TypeId}{ps:List (Nat×Operand)}{zs:List Value}{ss:List (Nat×Nat×SOpd)}{l:List (Nat×Nat×Value)}{cs:List Value}{place:Nat→Option (Nat×Nat)}
  (ho:o.op=.build t ps.toArray)(hz:tzero C.P t=some zs)(hp:cParts C.ψ place ps=some ss)(hv:vparts ρ ss=some l)(hf:sfill l zs=some cs)
  (hu:(∃fs,C.P.underlying t=some (.struct fs)∧(∀i,place i=(fs[i]?).bind fun f=>(tsize C.P f.type).map fun n=>(f.offset,n))∧∀f∈fs.toList,(tsize C.P f.type).isSome)∨
   (∃n e k,C.P.underlying t=some (.array n e)∧tsize C.P e=some k∧∀i,place i=some (i*k,k))):Qt C γ o a (.agg cs.toArray):=by
 obtain⟨i,z,h1,h2,h3,h4,h5⟩:=tzero_some hz
 obtain⟨k1,k2⟩:=zeros_VR (C:=C) (γ:=γ) h3 h4
 obtain⟨D',f1,f2,f3,f4⟩:=fill_sound (hρ.parts hp hv) k1 k2 hf
 intro w
 refine⟨.agg D',?_,.agg (by simpa using f2) (by simpa using f3)⟩
 rcases hu with⟨fs,hu,hpl,hsz⟩|⟨n,e,k,hu,hk,hpl⟩
 ·have hm:∀(l:List Field) (w:World),(∀f∈l,(tsize C.P f.type).isSome)→(l.mapM fun f=>(do pure (f.offset,←sizeOf f.type):Sem (Nat×Nat))).run C.P w=.ok (l.map fun f=>(f.offset,(tsize C.P f.type).getD 0)) w:=by
   intro l
   induction l with
   | nil=>intro w _;simp
   | cons f l ih=>
    intro w hs
    have:=hs f (by simp)
    obtain⟨n,hn⟩:=Option.isSome_iff_exists.1 this
    simp only[List.mapM_cons,Sem.run_bind,run_size hn,Result.andThen_ok,Sem.run_pure,ih w (fun f hf=>hs f (by simp[hf]))]
    simp[hn]
  have hm2:∀w:World,(fs.mapM fun f=>(do pure (f.offset,←sizeOf f.type):Sem (Nat×Nat))).run C.P w=.ok (fs.map fun f=>(f.offset,(tsize C.P f.type).getD 0)) w:=by
   intro w
   rw[Array.mapM_eq_mapM_toList,Sem.run_map,hm fs.toList w hsz]
   simp only[Result.andThen_ok]
   congr 1
   apply Array.ext'
   simp
  have hfill:Instr.fill ((fs.map fun f=>(f.offset,(tsize C.P f.type).getD 0))[·]?) z.cells (ps.map fun p=>(p.1,a.eval p.2))=some D':=by
   rw[←f1]
   congr 1
   funext i
   rw[hpl,Array.getElem?_map]
   cases hf:fs[i]? with
   | none=>rfl
   | some f=>
    have:=hsz f (Array.mem_toList_iff.2 (Array.mem_of_getElem? hf))
    obtain⟨n,hn⟩:=Option.isSome_iff_exists.1 this
    simp[hn]
  simp only[execOp,ho,Instr.build,Sem.run_bind,run_zero h1 h2,Result.andThen_ok,run_underlying hu,hm2,List.map_toArray]
  rw[hfill]
  simp
 ·have:(fun i=>some (i*k,k))=place:=by funext i;rw[hpl]
  simp only[execOp,ho,Instr.build,Sem.run_bind,run_zero h1 h2,Result.andThen_ok,run_underlying hu,run_size hk,List.map_toArray,this]
  rw[f1]
  simp
theorem q_nilchk{x:Operand}{ad:Addr}(ho:o.op=.nilCheck x)(hv:VR C γ (.pointer (some ad)) (a.eval x)):Qt C γ o a (.pointer (some ad)):=by
 intro w
 generalize he:a.eval x=y at hv
 cases hv
 case ptr hb=>exact⟨_,by simp only[execOp,ho,he];rfl,.ptr hb⟩
theorem sint_run {op : BinOp} {k : IntKind} {x y : Int} {v : Value} (hop : op ≠ .shl ∧ op ≠ .shr) (hs : sint op k x y = some v) (t : TypeId) (w : World) (P : Program) :
    (binOp op t (.int k x) (.int k y)).run P w = .ok v w := by
  unfold sint at hs
  split at hs <;> first
    | (simp at hs; subst hs; simp [binOp, Op.intArith, Op.intBits, Op.intCmp]; done)
    | (split at hs
       · simp at hs
       · rename_i hy; simp at hs; subst hs; simp [binOp, Op.intDiv, hy]; done)
    | simp at hs
theorem sbin_run {op : BinOp} {x y v : Value} (hs : sbin op x y = some v) (t : TypeId) (w : World) (P : Program) :
    (∃ k m kk n, x = .int k m ∧ y = .int kk n ∨ (∃ s u, x = .string s ∧ y = .string u)) ∧ (binOp op t x y).run P w = .ok v w := by
  unfold sbin at hs
  split at hs
  · rename_i k m kk n
    refine ⟨⟨k, m, kk, n, .inl ⟨rfl, rfl⟩⟩, ?_⟩
    split at hs
    · split at hs
      · simp at hs
      · rename_i hn; simp at hs; subst hs; simp [binOp, Op.shift, hn]
    · split at hs
      · simp at hs
      · rename_i hn; simp at hs; subst hs; simp [binOp, Op.shift, hn]
    · rename_i n1 n2
      split at hs
      · rename_i e; subst e; exact sint_run ⟨n1, n2⟩ hs t w P
      · simp at hs
  · rename_i s u
    refine ⟨⟨.i64, 0, .i64, 0, .inr ⟨s, u, rfl, rfl⟩⟩, ?_⟩
    unfold sstr at hs
    split at hs <;> first
      | (simp at hs; subst hs; simp [binOp, Op.stringOp]; done)
      | (split at hs
         · simp at hs
         · rename_i hy
           simp at hs; subst hs
           have : ¬ (((s.size + u.size : Nat) : Int) > IntKind.i64.max) := by simpa [IntKind.max, IntKind.signed, IntKind.bits] using hy
           simp only [binOp, Op.stringOp, this, if_false]; rfl)
      | simp at hs
  · simp at hs
theorem VR_scalar{x v:Value}(hx:(∃k n,x=.int k n)∨(∃s,x=.string s)∨(∃b,x=.bool b))(hv:VR C γ x v):v=x:=by
 rcases hx with⟨k,n,rfl⟩|⟨s,rfl⟩|⟨b,rfl⟩
 ·exact hv.int_inv
 ·exact hv.str_inv
 ·exact hv.bool_inv
theorem sbin_VR {op : BinOp} {x y v : Value} (hs : sbin op x y = some v) : VR C γ v v := by
  unfold sbin at hs
  split at hs
  · split at hs
    · split at hs <;> simp at hs; subst hs; exact .int
    · split at hs <;> simp at hs; subst hs; exact .int
    · split at hs
      · unfold sint at hs
        split at hs <;> first
          | (simp at hs; subst hs; first | exact .int | exact .bool)
          | (split at hs
             · simp at hs
             · simp at hs; subst hs; exact .int)
          | simp at hs
      · simp at hs
  · unfold sstr at hs
    split at hs <;> first
      | (simp at hs; subst hs; first | exact .bool | exact .str)
      | (split at hs
         · simp at hs
         · simp at hs; subst hs; exact .str)
      | simp at hs
  · simp at hs
theorem eqGuard_scalar{op:BinOp}{t:TypeId}{x y:Operand}{u v:Value}(hu:(∃k n,u=.int k n)∨(∃s,u=.string s)∨(∃b,u=.bool b)):eqGuard op t x y u v=pure ():=by
 rcases hu with⟨k,n,rfl⟩|⟨s,rfl⟩|⟨b,rfl⟩
 ·exact eqGuard_at_int ..
 ·exact eqGuard_at_string ..
 ·exact eqGuard_at_bool ..
theorem q_bin{op:BinOp}{t u:TypeId}{x y:Operand}{m n v:Value}(ho:o.op=.binOp op t x y u)(hm:VR C γ m (a.eval x))(hn:VR C γ n (a.eval y))(hs:sbin op m n=some v):Qt C γ o a v:=by
 intro w
 obtain⟨⟨k,p,kk,q,hk⟩,hr⟩:=sbin_run hs t w C.P
 have h1:(∃k n,m=.int k n)∨(∃s,m=.string s)∨(∃b,m=.bool b):=by
  rcases hk with⟨rfl,_⟩|⟨s,_,rfl,_⟩
  ·exact .inl ⟨_,_,rfl⟩
  ·exact .inr (.inl ⟨_,rfl⟩)
 have h2:(∃k q,n=.int k q)∨(∃s,n=.string s)∨(∃b,n=.bool b):=by
  rcases hk with⟨_,rfl⟩|⟨_,s,_,rfl⟩
  ·exact .inl ⟨_,_,rfl⟩
  ·exact .inr (.inl ⟨_,rfl⟩)
 refine⟨v,?_,sbin_VR hs⟩
 simp only[execOp,ho,VR_scalar h1 hm,VR_scalar h2 hn,eqGuard_scalar h1,Sem.run_bind,Sem.run_pure,Result.andThen_ok,hr]
theorem q_eqB{op:BinOp}{t u:TypeId}{x y:Operand}{m n:Bool}(ho:o.op=.binOp op t x y u)(hop:op=.eql∨op=.neq)(hu:C.P.underlying t=some .bool)(hm:VR C γ (.bool m) (a.eval x))(hn:VR C γ (.bool n) (a.eval y)):
  Qt C γ o a (.bool (if(isNeq op)then !(m == n)else(m == n))):=by
 intro w
 refine⟨_,?_,.bool⟩
 have e1:binOp .eql t (.bool m) (.bool n)=(do pure (.bool (←Op.equal t (.bool m) (.bool n)))):=rfl
 have e2:binOp .neq t (.bool m) (.bool n)=(do pure (.bool (!(←Op.equal t (.bool m) (.bool n))))):=rfl
 rcases hop with rfl|rfl
 ·simp only[execOp,ho,hm.bool_inv,hn.bool_inv,eqGuard_scalar (.inr (.inr ⟨m,rfl⟩)),Sem.run_bind,Sem.run_pure,Result.andThen_ok,e1,run_equal_bool w t m n hu]
  rfl
 ·simp only[execOp,ho,hm.bool_inv,hn.bool_inv,eqGuard_scalar (.inr (.inr ⟨m,rfl⟩)),Sem.run_bind,Sem.run_pure,Result.andThen_ok,e2,run_equal_bool w t m n hu]
  rfl
theorem q_un{op:UnOp}{t:TypeId}{x:Operand}{m v:Value}(ho:o.op=.unOp op t x)(hm:VR C γ m (a.eval x))(hs:sun op m=some v):Qt C γ o a v:=by
 intro w
 unfold sun at hs
 split at hs
 ·simp at hs;subst hs
  exact⟨_,by simp[execOp,ho,hm.int_inv,Op.unary,Op.intArith],.int⟩
 ·simp[sint]at hs;subst hs
  exact⟨_,by simp[execOp,ho,hm.int_inv,Op.unary,Op.intBits],.int⟩
 ·simp at hs;subst hs
  exact⟨_,by simp[execOp,ho,hm.bool_inv,Op.unary],.bool⟩
 ·simp at hs
theorem q_conv{s t:TypeId}{x:Operand}{k k' kk:IntKind}{n:Int}(ho:o.op=.convert s t x)(hs:C.P.underlying s=some (.int k'))(ht:C.P.underlying t=some (.int k))(hm:VR C γ (.int kk n) (a.eval x)):
  Qt C γ o a (.int k (k.wrap n)):=by
 intro w
 exact⟨_,by simp[execOp,ho,hm.int_inv,convert,run_underlying hs,run_underlying ht,Conv.intToInt],.int⟩
theorem q_mkfunc(hρ:OR C γ ρ a){f:FuncId}{g:Nat}{x y:List Operand}{sx sy:List SOpd}{l m:List Value}(ho:o.op=.makeFunc (.func f) x.toArray y.toArray)(hf:C.ψ f=some g)
  (hx:cOpds C.ψ x=some sx)(hy:cOpds C.ψ y=some sy)(vx:vals ρ sx=some l)(vy:vals ρ sy=some m):Qt C γ o a (.func (.func g) l.toArray m.toArray):=by
 intro w
 obtain⟨e,hL⟩:=C.back f g hf
 refine⟨.func (.func f) (x.map a.eval).toArray (y.map a.eval).toArray,by simp[execOp,ho,Instr.makeFunc],?_⟩
 rw[←e]
 exact .func hL (by simpa using hρ.vals hx vx) (by simpa using hρ.vals hy vy)
theorem q_fld{s:TypeId}{x:Operand}{i b off n:Nat}{f:Field}{fs:Array Field}{v:Value}(ho:o.op=.fieldAddr s x i)(hu:C.P.underlying s=some (.struct fs))(hf:fs[i]?=some f)(hn:tsize C.P f.type=some n)(h0:n≠0)
  (hv:VR C γ v (a.eval x))(hp:ptr v=some (b,off)):Qt C γ o a (.pointer (some ⟨b,off+f.offset,none⟩)):=by
 intro w
 obtain⟨B,s',N,hb,he⟩:=hv.ptr_inv hp
 refine⟨.pointer (some ⟨B,s'+(off+f.offset),none⟩),?_,.ptr hb⟩
 simp only[execOp,ho,he,Instr.fieldAt,Sem.run_bind,run_underlying hu,Result.andThen_ok,hf,Instr.sureAddr,Sem.run_pure,fieldPlace,run_size hn]
 rw[if_neg h0]
 simp only[Sem.run_pure,Result.andThen_ok,Addr.add]
 split
 ·rename_i e;rw[e];rfl
 ·simp[Nat.add_assoc]
theorem addr_add{B o n:Nat}:(⟨B,o,none⟩:Addr).add n=⟨B,o+n,none⟩:=by unfold Addr.add;split<;>simp_all
theorem q_idxA{t e:TypeId}{x i:Operand}{n k b off:Nat}{kk:IntKind}{j:Int}{v:Value}(ho:o.op=.indexAddr t x i)(hu:C.P.underlying t=some (.array n e))(hk:tsize C.P e=some k)
  (hv:VR C γ v (a.eval x))(hp:ptr v=some (b,off))(hj:VR C γ (.int kk j) (a.eval i))(hr:0≤j∧j<n):Qt C γ o a (.pointer (some ⟨b,off+j.toNat*k,none⟩)):=by
 intro w
 obtain⟨B,s',N,hb,he⟩:=hv.ptr_inv hp
 refine⟨.pointer (some ⟨B,s'+(off+j.toNat*k),none⟩),?_,.ptr hb⟩
 simp[execOp,ho,he,hj.int_inv,Instr.indexAt,asIntOf,run_underlying hu,Instr.sureAddr,hr,run_size hk,addr_add,Nat.add_assoc]
theorem VR.slice_inv{ad:Addr}{l c:Nat}{v:Value}(hv:VR C γ (.slice (some ad) l c) v):∃B s N o' c',γ ad.block=some (B,s,N)∧v=.slice (some ⟨B,o',none⟩) l c'∧(o'=s+ad.off∨l=0):=by
 cases hv
 case slX hb=>exact⟨_,_,_,_,_,hb,rfl,.inl rfl⟩
 case slI hb _ _ _=>exact⟨_,_,_,_,_,hb,rfl,.inl rfl⟩
 case slE hb=>exact⟨_,_,_,_,_,hb,rfl,.inr rfl⟩
theorem q_idxS{t e:TypeId}{x i:Operand}{k l c:Nat}{ad:Addr}{kk:IntKind}{j:Int}(ho:o.op=.indexAddr t x i)(hu:C.P.underlying t=some (.slice e))(hk:tsize C.P e=some k)
  (hv:VR C γ (.slice (some ad) l c) (a.eval x))(hj:VR C γ (.int kk j) (a.eval i))(hr:0≤j∧j<l):Qt C γ o a (.pointer (some ⟨ad.block,ad.off+j.toNat*k,none⟩)):=by
 intro w
 obtain⟨B,s,N,o',c',hb,he,ho'⟩:=hv.slice_inv
 have:o'=s+ad.off:=by
  rcases ho' with h|h
  ·exact h
  ·omega
 subst this
 refine⟨.pointer (some ⟨B,s+(ad.off+j.toNat*k),none⟩),?_,.ptr hb⟩
 simp[execOp,ho,he,hj.int_inv,Instr.indexAt,asIntOf,run_underlying hu,hr,run_size hk,addr_add,Nat.add_assoc]
theorem q_idxV1{t e:TypeId}{x i:Operand}{n:Nat}{d:TypeDesc}{cs:Array Value}{kk:IntKind}{j:Int}{v:Value}(ho:o.op=.index t x i)(hu:C.P.underlying t=some (.array n e))(hd:C.P.underlying e=some d)(hag:aggD d=false)
  (hk:tsize C.P e=some 1)(hv:VR C γ (.agg cs) (a.eval x))(hj:VR C γ (.int kk j) (a.eval i))(hr:0≤j∧j<n)(hg:cs.toList[j.toNat]?=some v):Qt C γ o a v:=by
 intro w
 obtain⟨ds,he,hR,_⟩:=hv.agg_inv
 obtain⟨v',hv',hr'⟩:=hR.get hg
 refine⟨v',?_,hr'⟩
 simp only[Array.getElem?_toList]at hv'
 simp[execOp,ho,he,hj.int_inv,Instr.index,asIntOf,run_underlying hu,hr,run_size hk,part,run_agg hd,hag,hv']
theorem q_idxVN{t e:TypeId}{x i:Operand}{n k:Nat}{d:TypeDesc}{cs:Array Value}{kk:IntKind}{j:Int}(ho:o.op=.index t x i)(hu:C.P.underlying t=some (.array n e))(hd:C.P.underlying e=some d)(hag:aggD d=true)
  (hk:tsize C.P e=some k)(hv:VR C γ (.agg cs) (a.eval x))(hj:VR C γ (.int kk j) (a.eval i))(hr:0≤j∧j<n):Qt C γ o a (.agg ((cs.toList.drop (j.toNat*k)).take k).toArray):=by
 intro w
 obtain⟨ds,he,hR,h1⟩:=hv.agg_inv
 refine⟨.agg (ds.extract (j.toNat*k) (j.toNat*k+k)),?_,.agg ?_ ?_⟩
 ·simp[execOp,ho,he,hj.int_inv,Instr.index,asIntOf,run_underlying hu,hr,run_size hk,part,run_agg hd,hag]
 ·simp only[Array.toList_extract,List.extract_eq_take_drop,Nat.add_sub_cancel_left]
  exact(hR.drop _).take _
 ·intro y hy
  exact h1 y (List.mem_of_mem_drop (List.mem_of_mem_take (by simpa using hy)))
theorem q_idxT{t:TypeId}{x i:Operand}{s:ByteArray}{kk:IntKind}{j:Int}{c:UInt8}(ho:o.op=.index t x i)(hu:C.P.underlying t=some .string)
  (hv:VR C γ (.string s) (a.eval x))(hj:VR C γ (.int kk j) (a.eval i))(hr:0≤j)(hg:s.data.toList[j.toNat]?=some c):Qt C γ o a (.int .u8 c.toNat):=by
 intro w
 refine⟨_,?_,.int⟩
 have hlt:j.toNat<s.size:=by
  have:=(List.getElem?_eq_some_iff.1 hg).1
  simpa using this
 have hb:s[j.toNat]?=some c:=by
  rw[getElem?_pos s j.toNat hlt]
  rw[Array.getElem?_toList]at hg
  rw[Array.getElem?_eq_getElem (by simpa using hlt)]at hg
  simp only[Option.some.injEq]at hg ⊢
  rw[←hg];rfl
 simp[execOp,ho,hv.str_inv,hj.int_inv,Instr.index,asIntOf,run_underlying hu,hr,hb]
theorem q_part1{s:TypeId}{x:Operand}{i:Nat}{f:Field}{fs:Array Field}{d:TypeDesc}{cs:Array Value}{v:Value}(ho:o.op=.field s x i)(hu:C.P.underlying s=some (.struct fs))(hf:fs[i]?=some f)(hd:C.P.underlying f.type=some d)
  (hag:aggD d=false)(hv:VR C γ (.agg cs) (a.eval x))(hg:cs.toList[f.offset]?=some v):Qt C γ o a v:=by
 intro w
 obtain⟨ds,he,hR,_⟩:=hv.agg_inv
 obtain⟨v',hv',hr'⟩:=hR.get hg
 simp only[Array.getElem?_toList]at hv'
 exact⟨v',by simp[execOp,ho,he,Instr.field,run_underlying hu,hf,part,run_agg hd,hag,hv',asAgg],hr'⟩
theorem q_partN{s:TypeId}{x:Operand}{i n:Nat}{f:Field}{fs:Array Field}{d:TypeDesc}{cs:Array Value}(ho:o.op=.field s x i)(hu:C.P.underlying s=some (.struct fs))(hf:fs[i]?=some f)(hd:C.P.underlying f.type=some d)
  (hag:aggD d=true)(hn:tsize C.P f.type=some n)(hv:VR C γ (.agg cs) (a.eval x)):Qt C γ o a (.agg ((cs.toList.drop f.offset).take n).toArray):=by
 intro w
 obtain⟨ds,he,hR,h1⟩:=hv.agg_inv
 refine⟨.agg (ds.extract f.offset (f.offset+n)),?_,.agg ?_ ?_⟩
 ·simp[execOp,ho,he,Instr.field,run_underlying hu,hf,part,run_agg hd,hag,asAgg,run_size hn]
 ·simp only[Array.toList_extract,List.extract_eq_take_drop,Nat.add_sub_cancel_left]
  exact(hR.drop _).take _
 ·intro y hy
  exact h1 y (List.mem_of_mem_drop (List.mem_of_mem_take (by simpa using hy)))
theorem q_extr{x:Operand}{i:Nat}{vs:Array Value}{v:Value}(ho:o.op=.extract x i)(hv:VR C γ (.tuple vs) (a.eval x))(hg:vs.toList[i]?=some v):Qt C γ o a v:=by
 intro w
 obtain⟨ds,he,hR⟩:=hv.tuple_inv
 obtain⟨v',hv',hr'⟩:=hR.get hg
 simp only[Array.getElem?_toList]at hv'
 exact⟨v',by simp[execOp,ho,he,Instr.extract,hv'],hr'⟩
end
end Go.Jq
namespace Go.Jq
open Go.RowKit
section
variable {C:Ctx} {γ:Gm} {h:AH} {w:World} {a:Act} {ρ:SOpd→Option Value} {o:Oper}
theorem sbound_run{x v:Value}{y n:Nat}{code:BoundsCode}(hv:VR C γ x v)(hs:sbound x y=some n)(w:World):∀y',y≤y'→(Instr.sliceBound v y' code).run C.P w=.ok n w:=by
 intro y' hy
 unfold sbound at hs
 split at hs
 ·rename_i k i
  split at hs
  ·rename_i hi
   simp at hs
   rw[hv.int_inv]
   simp only[Instr.sliceBound,asIntOf,Sem.run_bind,Sem.run_pure,Result.andThen_ok]
   rw[if_pos (by omega),hs];rfl
  ·simp at hs
 ·simp at hs
def OVR(C:Ctx)(γ:Gm):Option Value→Option Value→Prop
 | none,none=>True
 | some v,some v'=>VR C γ v v'
 | _,_=>False
theorem OR.opt(hρ:OR C γ ρ a){x:Option Operand}{sx:Option SOpd}{v:Option Value}(hx:cOpt C.ψ x=some sx)(hv:optVal ρ sx=some v):OVR C γ v (x.map a.eval):=by
 cases x with
 | none=>simp[cOpt]at hx;subst hx;simp[optVal]at hv;subst hv;trivial
 | some x=>
  simp only[cOpt,Option.map_eq_some_iff]at hx
  obtain⟨y,hy,rfl⟩:=hx
  simp only[optVal]at hv
  split at hv
  ·rename_i u hu;simp at hv;subst hv;exact hρ x y u hy hu
  ·simp at hv
theorem sbounds_run{len cap cap':Nat}{lo hi mx lo' hi' mx':Option Value}{l u m:Nat}(b:Bool)(h1:OVR C γ lo lo')(h2:OVR C γ hi hi')(h3:OVR C γ mx mx')(hs:sbounds len cap lo hi mx=some (l,u,m))(hc:cap≤cap')(w:World):
  (Instr.sliceBounds b len cap' lo' hi' mx').run C.P w=.ok (l,u,if mx.isSome then m else cap') w∧(mx=none→m=cap)∧u≤max m len∧l≤u∧m≤cap∧(hi.isSome=true→u≤m):=by
 unfold sbounds at hs
 split at hs
 ·simp at hs
 ·rename_i m0 hm
  split at hs
  ·simp at hs
  ·rename_i u0 hu
   split at hs
   ·simp at hs
   ·rename_i l0 hl
    simp only[Option.some.injEq,Prod.mk.injEq]at hs
    obtain⟨rfl,rfl,rfl⟩:=hs
    have lb:∀{x:Value} {y n:Nat},sbound x y=some n→n≤y:=by
     intro x y n hx
     unfold sbound at hx
     split at hx
     ·split at hx
      ·rename_i hi;simp at hx;omega
      ·simp at hx
     ·simp at hx
    cases mx with
    | none=>
     cases mx' with
     | some _=>exact h3.elim
     | none=>
      simp at hm;subst hm
      have hL:∀y,(match lo' with|some v=>Instr.sliceBound v y .sliceB|none=>pure 0:Sem Nat).run C.P w=.ok l0 w∨y≠u0:=by
       intro y
       by_cases hy:y=u0
       ·subst hy
        left
        cases lo with
        | none=>cases lo' with
         | some _=>exact h1.elim
         | none=>simp at hl;subst hl;rfl
        | some v=>cases lo' with
         | none=>exact h1.elim
         | some v'=>exact sbound_run h1 hl w _ (Nat.le_refl _)
       ·exact .inr hy
      have hL':=(hL u0).resolve_right (by simp)
      have hll:l0≤u0:=by
       cases lo with
       | none=>simp at hl;omega
       | some v=>exact lb hl
      cases hi with
      | none=>cases hi' with
       | some _=>exact h2.elim
       | none=>
        simp at hu;subst hu
        refine⟨?_,fun _=>rfl,by omega,hll,Nat.le_refl _,by simp⟩
        simp only[Instr.sliceBounds,Sem.run_bind,Sem.run_pure,Result.andThen_ok]
        cases lo'<;>simp_all
      | some v=>cases hi' with
       | none=>exact h2.elim
       | some v'=>
        simp only at hu
        have:=lb hu
        refine⟨?_,fun _=>rfl,by omega,hll,Nat.le_refl _,fun _=>this⟩
        simp only[Instr.sliceBounds,Sem.run_bind,Sem.run_pure,Result.andThen_ok,sbound_run h2 hu w cap' hc]
        cases lo'<;>simp_all
    | some vm=>
     cases mx' with
     | none=>exact h3.elim
     | some vm'=>
      simp only at hm
      have hmc:=lb hm
      cases hi with
      | none=>simp at hu
      | some v=>cases hi' with
       | none=>exact h2.elim
       | some v'=>
        simp only at hu
        have hum:=lb hu
        refine⟨?_,by simp,by omega,?_,hmc,fun _=>hum⟩
        ·simp only[Instr.sliceBounds,Sem.run_bind,Sem.run_pure,Result.andThen_ok,sbound_run h3 hm w cap' hc,sbound_run h2 hu w _ (Nat.le_refl _)]
         cases lo with
         | none=>cases lo' with
          | some _=>exact h1.elim
          | none=>simp at hl;subst hl;simp
         | some x=>cases lo' with
          | none=>exact h1.elim
          | some x'=>
           simp only[Option.isSome_some]
           have:=sbound_run (code:=.slice3C) h1 hl w _ (Nat.le_refl _)
           simp[this]
        ·cases lo with
         | none=>simp at hl;omega
         | some x=>exact lb hl
theorem sslice_sound{size len cap cap':Nat}{ad:Option Addr}{ad':Option Addr}{lo hi mx lo' hi' mx':Option Value}{v:Value}(hv:VR C γ (.slice ad len cap) (.slice ad' len cap'))
  (h1:OVR C γ lo lo')(h2:OVR C γ hi hi')(h3:OVR C γ mx mx')(hs:sslice size ad len cap lo hi mx=some v)(b:Bool)(w:World):
  ∃l u m,(Instr.sliceBounds b len cap' lo' hi' mx').run C.P w=.ok (l,u,m) w∧VR C γ v (.slice (if m=l then ad' else ad'.map (·.add (l*size))) (u-l) (m-l)):=by
 unfold sslice at hs
 split at hs
 ·simp at hs
 ·rename_i l u m hb
  cases hv with
  | sl0=>
   obtain⟨k1,k2,k3,k4,k5,k6⟩:=sbounds_run b h1 h2 h3 hb (Nat.le_refl cap) w
   simp at hs;subst hs
   refine⟨l,u,_,k1,?_⟩
   have:(if mx.isSome=true then m else cap)=m:=by
    cases mx with
    | none=>simp[k2 rfl]
    | some _=>rfl
   rw[this]
   simp
   exact .sl0
  | slX hg=>
   rename_i bb o B s N
   obtain⟨k1,k2,k3,k4,k5,k6⟩:=sbounds_run b h1 h2 h3 hb (Nat.le_refl cap) w
   have:(if mx.isSome=true then m else cap)=m:=by
    cases mx with
    | none=>simp[k2 rfl]
    | some _=>rfl
   rw[this]at k1
   simp at hs;subst hs
   refine⟨l,u,m,k1,?_⟩
   by_cases e:m=l
   ·rw[if_pos e,if_pos e];exact .slX hg
   ·rw[if_neg e,if_neg e]
    simp only[Option.map_some,addr_add,addrAdd,Nat.add_assoc]
    exact .slX hg
  | slI hg hl hc hN=>
   rename_i bb o B s N k
   obtain⟨k1,k2,k3,k4,k5,k6⟩:=sbounds_run b h1 h2 h3 hb hc w
   simp only at hs
   split at hs
   ·rename_i hk
    subst hk
    refine⟨l,u,_,k1,?_⟩
    cases mx with
    | none=>
     have e2:=k2 rfl
     subst e2
     simp only[Option.isSome_none,Bool.false_eq_true,false_and,if_false,Option.some.injEq]at hs ⊢
     subst hs
     have hu:u≤m:=by omega
     by_cases e:cap'=l
     ·rw[if_pos e]
      have e3:u-l=0:=by omega
      have e4:m-l=0:=by omega
      have e5:cap' - l=0:=by omega
      rw[e3,e4,e5]
      exact .slE hg
     ·rw[if_neg e]
      simp only[Option.map_some,addr_add,addrAdd,Nat.add_assoc]
      refine .slI hg (by omega) (by omega) ?_
      have:l*k+(cap' - l)*k=cap'*k:=by rw[←Nat.add_mul];congr 1;omega
      omega
    | some x=>
     simp only[Option.isSome_some,true_and,if_true]at hs ⊢
     split at hs
     ·simp only[Option.some.injEq]at hs
      subst hs
      by_cases e:m=l
      ·rw[if_pos e,if_pos e];exact .slX hg
      ·rw[if_neg e,if_neg e]
       simp only[Option.map_some,addr_add,Nat.add_assoc]
       exact .slX hg
     ·simp only[Option.some.injEq]at hs
      subst hs
      have hc0:cap=0:=by omega
      have e1:l=0:=by omega
      have e2:u=0:=by omega
      have e3:m=0:=by omega
      subst e1 e2 e3
      simp
      exact .slE hg
   ·simp at hs
  | slE hg=>
   rename_i bb o B s N k o'
   obtain⟨k1,k2,k3,k4,k5,k6⟩:=sbounds_run b h1 h2 h3 hb (Nat.le_refl 0) w
   have e3:m=0:=by omega
   have e2:u=0:=by omega
   have e1:l=0:=by omega
   subst e1 e2 e3
   simp only at hs
   split at hs
   ·simp only[ne_eq,not_true_eq_false,and_false,if_false,Option.some.injEq]at hs
    subst hs
    refine⟨0,0,_,k1,?_⟩
    simp
    exact .slE hg
   ·simp at hs
theorem q_slsl(hρ:OR C γ ρ a){t e:TypeId}{x:Operand}{lo hi mx:Option Operand}{sl sh sm:Option SOpd}{size len cap:Nat}{ad:Option Addr}{vl vh vm:Option Value}{v:Value}(ho:o.op=.slice t x lo hi mx)
  (hu:C.P.underlying t=some (.slice e))(hk:tsize C.P e=some size)(hv:VR C γ (.slice ad len cap) (a.eval x))(cl:cOpt C.ψ lo=some sl)(ch:cOpt C.ψ hi=some sh)(cm:cOpt C.ψ mx=some sm)
  (el:optVal ρ sl=some vl)(eh:optVal ρ sh=some vh)(em:optVal ρ sm=some vm)(hs:sslice size ad len cap vl vh vm=some v):Qt C γ o a v:=by
 intro w
 have hx:∃ad' cap',a.eval x=.slice ad' len cap':=by generalize a.eval x=y at hv;cases hv<;>exact⟨_,_,rfl⟩
 obtain⟨ad',cap',hx⟩:=hx
 rw[hx]at hv
 obtain⟨l,u,m,k1,k2⟩:=sslice_sound hv (hρ.opt cl el) (hρ.opt ch eh) (hρ.opt cm em) hs true w
 refine⟨_,?_,k2⟩
 simp only[execOp,ho,hx,Instr.sliceAt,Instr.slice,Sem.run_bind,run_underlying hu,Result.andThen_ok,k1,run_size hk,Sem.run_pure]
theorem q_slarr(hρ:OR C γ ρ a){t e:TypeId}{x:Operand}{lo hi mx:Option Operand}{sl sh sm:Option SOpd}{size n b off:Nat}{vl vh vm:Option Value}{u v:Value}(ho:o.op=.slice t x lo hi mx)
  (hu:C.P.underlying t=some (.array n e))(hk:tsize C.P e=some size)(hv:VR C γ u (a.eval x))(hp:ptr u=some (b,off))(cl:cOpt C.ψ lo=some sl)(ch:cOpt C.ψ hi=some sh)(cm:cOpt C.ψ mx=some sm)
  (el:optVal ρ sl=some vl)(eh:optVal ρ sh=some vh)(em:optVal ρ sm=some vm)(hs:sslice size (some ⟨b,off,none⟩) n n vl vh vm=some v):Qt C γ o a v:=by
 intro w
 obtain⟨B,s,N,hb,he⟩:=hv.ptr_inv hp
 obtain⟨l,u,m,k1,k2⟩:=sslice_sound (.slX hb) (hρ.opt cl el) (hρ.opt ch eh) (hρ.opt cm em) hs false w
 refine⟨_,?_,k2⟩
 simp only[execOp,ho,he,Instr.sliceAt,Sem.run_bind,run_underlying hu,Result.andThen_ok,Instr.sureAddr,k1,run_size hk,Sem.run_pure]
 split<;>simp_all
theorem q_slstr(hρ:OR C γ ρ a){t:TypeId}{x:Operand}{lo hi:Option Operand}{sl sh:Option SOpd}{s:ByteArray}{vl vh:Option Value}{l u m:Nat}(ho:o.op=.slice t x lo hi none)
  (hu:C.P.underlying t=some .string)(hv:VR C γ (.string s) (a.eval x))(cl:cOpt C.ψ lo=some sl)(ch:cOpt C.ψ hi=some sh)
  (el:optVal ρ sl=some vl)(eh:optVal ρ sh=some vh)(hs:sbounds s.size s.size vl vh none=some (l,u,m)):Qt C γ o a (.string (s.extract l u)):=by
 intro w
 obtain⟨k1,_⟩:=sbounds_run (mx':=none) false (hρ.opt cl el) (hρ.opt ch eh) (by trivial) hs (Nat.le_refl _) w
 refine⟨_,?_,.str⟩
 simp[execOp,ho,hv.str_inv,Instr.sliceAt,Instr.slice,run_underlying hu,k1]
theorem smm_cons{mx:Bool}{x u:Value}{r:List Value}{v:Value}(h:smm mx x (u::r)=some v):
  ∃k p q,x=.int k p∧u=.int k q∧smm mx (.int k (if mx then(if q>p then q else p)else(if q<p then q else p))) r=some v:=by
 cases x<;>cases u<;>simp only[smm]at h<;>try (simp at h;done)
 split at h
 ·rename_i e;subst e;exact⟨_,_,_,rfl,rfl,h⟩
 ·simp at h
theorem q_mm(hρ:OR C γ ρ a){b:Builtin}(mx:Bool)(hb:b=if mx then .max else .min){ts:Array TypeId}{xs:List Operand}{ss:List SOpd}{x:Value}{r:List Value}{v:Value}(ho:o.op=.call { callee:=.builtin b,args:=xs.toArray,argTypes:=ts })
  (hx:cOpds C.ψ xs=some ss)(hv:vals ρ ss=some (x::r))(hs:smm mx x r=some v):Qt C γ o a v:=by
 intro w
 have hR:=hρ.vals hx hv
 generalize hxs:xs.map a.eval=ys at hR
 cases hR with
 | cons hx1 hr1=>
  rename_i y ys
  have key:∀(r:List Value) (ys:List Value) (x y v:Value) (w:World),VR C γ x y→FA2 (VR C γ) r ys→smm mx x r=some v→∃v',(ys.foldlM (if mx then Builtin.max2 else Builtin.min2) y).run C.P w=.ok v' w∧VR C γ v v':=by
   intro r
   induction r with
   | nil=>
    intro ys x y v w h1 h2 h3
    cases h2
    simp[smm]at h3;subst h3
    exact⟨y,by simp,h1⟩
   | cons u r ih=>
    intro ys x y v w h1 h2 h3
    cases h2 with
    | cons h2 h4=>
     obtain⟨k,p,q,e1,e2,h5⟩:=smm_cons h3
     subst e1 e2
     obtain⟨v',g1,g2⟩:=ih _ _ _ _ w .int h4 h5
     refine⟨v',?_,g2⟩
     rw[h1.int_inv,h2.int_inv]
     simp only[List.foldlM_cons,Sem.run_bind]
     cases mx
     ·simp only[Bool.false_eq_true,if_false,Builtin.min2,Sem.run_pure,Result.andThen_ok]at g1 ⊢
      exact g1
     ·simp only[if_true,Builtin.max2,Sem.run_pure,Result.andThen_ok]at g1 ⊢
      exact g1
  obtain⟨v',g1,g2⟩:=key r ys x y v w hx1 hr1 hs
  refine⟨v',?_,g2⟩
  subst hb
  cases mx
  ·simp only[execOp,ho,resolve,List.map_toArray,hxs,Sem.run_bind,Sem.run_pure,Result.andThen_ok,invoke,builtin,Bool.false_eq_true,if_false,Builtin.min_]at g1 ⊢
   simp only[g1,Result.andThen_ok]
  ·simp only[execOp,ho,resolve,List.map_toArray,hxs,Sem.run_bind,Sem.run_pure,Result.andThen_ok,invoke,builtin,if_true,Builtin.max_]at g1 ⊢
   simp only[g1,Result.andThen_ok]
end
end Go.Jq
namespace Go.Jq
open Go.RowKit
theorem cellsEq_len:∀{ks:List Nat} {x y:List Value} {r:Bool},cellsEq ks x y=some r→x.length=ks.length∧y.length=ks.length
 | [],[],[],_,_=>⟨rfl,rfl⟩
 | k::ks,a::x,b::y,r,h=>by
  simp only[cellsEq]at h
  split at h
  ·rename_i p q h1 h2
   have:=cellsEq_len h2
   simp[this.1,this.2]
  ·simp at h
 | [],_::_,_,_,h|[],[],_::_,_,h|_::_,[],_,_,h|_::_,_::_,[],_,h=>by simp[cellsEq]at h
theorem cellsEq_app:∀{k1 k2:List Nat} {x y:List Value} {r:Bool},cellsEq (k1++k2) x y=some r→
  ∃r1 r2,cellsEq k1 (x.take k1.length) (y.take k1.length)=some r1∧cellsEq k2 (x.drop k1.length) (y.drop k1.length)=some r2∧r=(r1&&r2)
 | [],k2,x,y,r,h=>⟨true,r,by simp[cellsEq],by simpa using h,by simp⟩
 | k::k1,k2,[],y,r,h=>by simp[cellsEq]at h
 | k::k1,k2,_::_,[],r,h=>by simp[cellsEq]at h
 | k::k1,k2,a::x,b::y,r,h=>by
  simp only[List.cons_append,cellsEq]at h
  split at h
  ·rename_i p q h1 h2
   obtain⟨r1,r2,e1,e2,e3⟩:=cellsEq_app h2
   simp only[Option.some.injEq]at h
   subst h
   refine⟨p&&r1,r2,?_,by simpa using e2,?_⟩
   ·simp[cellsEq,h1,e1]
   ·rw[e3,Bool.and_assoc]
  ·simp at h
section
variable {P:Program}
def EqAt(P:Program)(d:Nat)(t:TypeId)(ks:List Nat):Prop:=∀(X Y:Array Value) (off:Nat) (r:Bool) (w:World),
 cellsEq ks ((X.toList.drop off).take ks.length) ((Y.toList.drop off).take ks.length)=some r→
 ∃vx vy,(part t X off).run P w=.ok vx w∧(part t Y off).run P w=.ok vy w∧∀k,(Op.equalIn (d+k) t vx vy).run P w=.ok r w
theorem eqFields_run{d k:Nat}{xs ys:Array Value}{w:World}(hd:∀t ks,kindsT P d t=some ks→EqAt P d t ks):
  ∀(fs:List Field) (off:Nat) (ks:List Nat) (r:Bool),kindsF (kindsT P d) fs off=some ks→
  cellsEq ks ((xs.toList.drop off).take ks.length) ((ys.toList.drop off).take ks.length)=some r→(Op.eqFields (d+k) xs ys fs).run P w=.ok r w
 | [],off,ks,r,h,he=>by
  simp[kindsF]at h;subst h
  simp[cellsEq]at he;subst he
  simp[Op.eqFields]
 | f::fs,off,ks,r,h,he=>by
  simp only[kindsF]at h
  split at h
  ·rename_i k1 hk1
   split at h
   ·rename_i hn
    simp only[Option.map_eq_some_iff]at h
    obtain⟨k2,hk2,rfl⟩:=h
    simp only[Bool.and_eq_true,bne_iff_ne,ne_eq,beq_iff_eq]at hn
    obtain⟨r1,r2,e1,e2,rfl⟩:=cellsEq_app he
    rw[List.take_take,List.take_take,Nat.min_eq_left (by simp)]at e1
    rw[List.drop_take,List.drop_take,List.drop_drop,List.drop_drop]at e2
    have e2':cellsEq k2 ((xs.toList.drop (off+k1.length)).take k2.length) ((ys.toList.drop (off+k1.length)).take k2.length)=some r2:=by
     simpa using e2
    obtain⟨vx,vy,p1,p2,p3⟩:=hd f.type k1 hk1 xs ys off r1 w e1
    have ih:=eqFields_run (k:=k) (w:=w) hd fs (off+k1.length) k2 r2 hk2 e2'
    simp only[Op.eqFields,hn.1,not_false_eq_true,if_true,Sem.run_bind,hn.2,p1,p2,p3 k,Result.andThen_ok,ne_eq]
    cases r1
    ·simp
    ·simpa using ih
   ·simp at h
  ·simp at h
theorem eqItems_run{d k:Nat}{e:TypeId}{ks:List Nat}{xs ys:Array Value}{w:World}(hd:EqAt P d e ks):
  ∀(n i:Nat) (r:Bool),cellsEq (List.replicate n ks).flatten ((xs.toList.drop (i*ks.length)).take (n*ks.length)) ((ys.toList.drop (i*ks.length)).take (n*ks.length))=some r→
  (Op.eqItems (d+k) e ks.length xs ys (List.range' i n)).run P w=.ok r w
 | 0,i,r,he=>by
  simp[cellsEq]at he;subst he
  simp[Op.eqItems]
 | n+1,i,r,he=>by
  rw[List.replicate_succ,List.flatten_cons]at he
  obtain⟨r1,r2,e1,e2,rfl⟩:=cellsEq_app he
  have q:(n+1)*ks.length=ks.length+n*ks.length:=by rw[Nat.add_mul];omega
  rw[List.take_take,List.take_take,Nat.min_eq_left (by omega)]at e1
  rw[List.drop_take,List.drop_take,List.drop_drop,List.drop_drop,q,Nat.add_sub_cancel_left]at e2
  have q2:i*ks.length+ks.length=(i+1)*ks.length:=by rw[Nat.add_mul];omega
  rw[q2]at e2
  obtain⟨vx,vy,p1,p2,p3⟩:=hd xs ys (i*ks.length) r1 w e1
  have ih:=eqItems_run (k:=k) (w:=w) hd n (i+1) r2 e2
  simp only[List.range'_succ,Op.eqItems,Sem.run_bind,p1,p2,p3 k,Result.andThen_ok]
  cases r1
  ·simp
  ·simpa using ih
theorem part_agg{t:TypeId}{d:TypeDesc}{n off:Nat}{X:Array Value}{w:World}(hu:P.underlying t=some d)(ha:aggD d=true)(hn:tsize P t=some n):
  (part t X off).run P w=.ok (.agg (X.extract off (off+n))) w:=by simp[part,run_agg hu,ha,run_size hn]
theorem part_one{t:TypeId}{d:TypeDesc}{off:Nat}{X:Array Value}{v:Value}{w:World}(hu:P.underlying t=some d)(ha:aggD d=false)(hv:X.toList[off]?=some v):
  (part t X off).run P w=.ok v w:=by
 rw[Array.getElem?_toList]at hv
 simp[part,run_agg hu,ha,hv]
theorem take_one{l:List Value}{v:Value}{off:Nat}{m:List Value}(h:(l.drop off).take 1=v::m):l[off]?=some v:=by
 have:((l.drop off).take 1)[0]?=some v:=by rw[h];rfl
 simpa[List.getElem?_take,List.getElem?_drop]using this
theorem eq_at:∀(d:Nat) (t:TypeId) (ks:List Nat),kindsT P d t=some ks→EqAt P d t ks
 | 0,_,_,h=>by simp[kindsT]at h
 | d+1,t,ks,h=>by
  intro X Y off r w he
  simp only[kindsT]at h
  split at h
  ·rename_i k0 hu hs
   simp at h;subst h
   simp only[List.length_cons,List.length_nil,Nat.zero_add]at he
   obtain⟨l1,l2⟩:=cellsEq_len he
   obtain⟨a,x,hx⟩:=List.exists_cons_of_length_eq_add_one l1
   obtain⟨b,y,hy⟩:=List.exists_cons_of_length_eq_add_one l2
   have hx0:x=[]:=by rw[hx]at l1;simpa using l1
   have hy0:y=[]:=by rw[hy]at l2;simpa using l2
   subst hx0 hy0
   rw[hx,hy]at he
   refine⟨a,b,part_one hu rfl (take_one hx),part_one hu rfl (take_one hy),fun k=>?_⟩
   rw[show d+1+k=d+k+1 by omega]
   cases a<;>cases b<;>simp[cellsEq,cellEq]at he
   rename_i k1 n1 k2 n2
   by_cases e:k1=k2
   ·subst e;simp at he;subst he;exact run_equalIn_int w _ t _ k0 _ _ hu
   ·simp[e]at he
  ·rename_i hu hs
   simp at h;subst h
   simp only[List.length_cons,List.length_nil,Nat.zero_add]at he
   obtain⟨l1,l2⟩:=cellsEq_len he
   obtain⟨a,x,hx⟩:=List.exists_cons_of_length_eq_add_one l1
   obtain⟨b,y,hy⟩:=List.exists_cons_of_length_eq_add_one l2
   have hx0:x=[]:=by rw[hx]at l1;simpa using l1
   have hy0:y=[]:=by rw[hy]at l2;simpa using l2
   subst hx0 hy0
   rw[hx,hy]at he
   refine⟨a,b,part_one hu rfl (take_one hx),part_one hu rfl (take_one hy),fun k=>?_⟩
   rw[show d+1+k=d+k+1 by omega]
   cases a<;>cases b<;>simp[cellsEq,cellEq]at he
   subst he
   exact run_equalIn_bool' w _ t _ _ hu
  ·rename_i hu hs
   simp at h;subst h
   simp only[List.length_cons,List.length_nil,Nat.zero_add]at he
   obtain⟨l1,l2⟩:=cellsEq_len he
   obtain⟨a,x,hx⟩:=List.exists_cons_of_length_eq_add_one l1
   obtain⟨b,y,hy⟩:=List.exists_cons_of_length_eq_add_one l2
   have hx0:x=[]:=by rw[hx]at l1;simpa using l1
   have hy0:y=[]:=by rw[hy]at l2;simpa using l2
   subst hx0 hy0
   rw[hx,hy]at he
   refine⟨a,b,part_one hu rfl (take_one hx),part_one hu rfl (take_one hy),fun k=>?_⟩
   rw[show d+1+k=d+k+1 by omega]
   cases a<;>cases b<;>simp only[cellsEq,cellEq,Bool.and_true,Option.some.injEq]at he<;>try (simp at he;done)
   rw[run_equalIn_string w _ t _ _ hu,←he]
  ·rename_i fs s hu hs
   split at h
   ·simp at h
   ·rename_i hst
    split at h
    ·rename_i ks' hk
     split at h
     ·rename_i hl
      simp at h;subst h
      refine⟨_,_,part_agg hu rfl hs,part_agg hu rfl hs,fun k=>?_⟩
      rw[show d+1+k=d+k+1 by omega]
      have hf:P.fieldsOf t=fs:=by simp[Program.fieldsOf,hu]
      rw[run_equalIn_struct w _ t _ _ (by rw[hf];exact hu) (by simpa using hst),hf]
      refine eqFields_run (eq_at d) fs.toList 0 ks' r hk ?_
      simpa[List.extract_eq_take_drop,hl,List.take_take]using he
     ·simp at h
    ·simp at h
  ·rename_i n e s hu hs
   split at h
   ·rename_i ke hke
    split at h
    ·rename_i hl
     simp at h;subst h
     refine⟨_,_,part_agg hu rfl hs,part_agg hu rfl hs,fun k=>?_⟩
     rw[show d+1+k=d+k+1 by omega]
     obtain⟨hl1,hl2⟩:=hl
     have hl2':=hl2
     simp only[tsize,Option.map_eq_some_iff]at hl2'
     obtain⟨i,hi,hsz⟩:=hl2'
     have hc:P.cellsOf e=ke.length:=by simp[Program.cellsOf,hi,hsz]
     rw[run_equalIn_array w _ _ _ hu hi,hc,List.range_eq_range']
     refine eqItems_run (eq_at d e ke hke) n 0 r ?_
     have hlen:(List.replicate n ke).flatten.length=n*ke.length:=by simp
     rw[hlen]at he
     simpa[List.extract_eq_take_drop,hl1,List.take_take]using he
    ·simp at h
   ·simp at h
  ·simp at h
end
end Go.Jq
namespace Go.Jq
open Go.RowKit
section
variable {C:Ctx} {γ:Gm} {h:AH} {w:World} {a:Act} {ρ:SOpd→Option Value} {o:Oper}
theorem cellEq_VR{k:Nat}{x y x' y':Value}{r:Bool}(hx:VR C γ x x')(hy:VR C γ y y')(h:cellEq k x y=some r):cellEq k x' y'=some r:=by
 unfold cellEq at h
 split at h
 ·rw[hx.int_inv,hy.int_inv];exact h
 ·rw[hx.bool_inv,hy.bool_inv];exact h
 ·rw[hx.str_inv,hy.str_inv];exact h
 ·simp at h
theorem cellsEq_VR:∀{ks:List Nat} {x y x' y':List Value} {r:Bool},FA2 (VR C γ) x x'→FA2 (VR C γ) y y'→cellsEq ks x y=some r→cellsEq ks x' y'=some r
 | [],_,_,_,_,_,.nil,.nil,h=>h
 | k::ks,_,_,_,_,r,.cons h1 h2,.cons h3 h4,h=>by
  simp only[cellsEq]at h ⊢
  split at h
  ·rename_i p q e1 e2
   rw[cellEq_VR h1 h3 e1,cellsEq_VR h2 h4 e2]
   exact h
  ·simp at h
 | [],_,_,_,_,_,.cons _ _,_,h=>by simp[cellsEq]at h
 | [],_,_,_,_,_,.nil,.cons _ _,h=>by simp[cellsEq]at h
 | _::_,_,_,_,_,_,.nil,_,h=>by simp[cellsEq]at h
 | _::_,_,_,_,_,_,.cons _ _,.nil,h=>by simp[cellsEq]at h
theorem kinds_size{P:Program}{d:Nat}{t:TypeId}{ks:List Nat}(h:kindsT P d t=some ks):tsize P t=some ks.length:=by
 cases d with
 | zero=>simp[kindsT]at h
 | succ d=>
  simp only[kindsT]at h
  split at h
  ·rename_i hs;simp at h;subst h;exact hs
  ·rename_i hs;simp at h;subst h;exact hs
  ·rename_i hs;simp at h;subst h;exact hs
  ·rename_i hs
   split at h
   ·simp at h
   ·split at h
    ·split at h
     ·rename_i hl;simp at h;subst h;rw[hs,hl]
     ·simp at h
    ·simp at h
  ·rename_i hs
   split at h
   ·split at h
    ·rename_i hl;simp at h;subst h;rw[hs,hl.1];simp
    ·simp at h
   ·simp at h
  ·simp at h
theorem q_eqN{op:BinOp}{t u:TypeId}{x y:Operand}{m n:Array Value}{ks:List Nat}{d:TypeDesc}{r:Bool}(ho:o.op=.binOp op t x y u)(hop:op=.eql∨op=.neq)(hu:C.P.underlying t=some d)(ha:aggD d=true)
  (hk:kindsT C.P 20 t=some ks)(hg:C.P.eqGuardType C.P.depth t=false)(hm:VR C γ (.agg m) (a.eval x))(hn:VR C γ (.agg n) (a.eval y))(he:cellsEq ks m.toList n.toList=some r):
  Qt C γ o a (.bool (if(isNeq op)then !r else r)):=by
 intro w
 obtain⟨m',e1,hR1,_⟩:=hm.agg_inv
 obtain⟨n',e2,hR2,_⟩:=hn.agg_inv
 have he':=cellsEq_VR hR1 hR2 he
 obtain⟨l1,l2⟩:=cellsEq_len he'
 obtain⟨s,hs,hsl⟩:∃s,tsize C.P t=some s∧s=ks.length:=⟨_,kinds_size hk,rfl⟩
 obtain⟨vx,vy,p1,p2,p3⟩:=eq_at 20 t ks hk m' n' 0 r w (by
  rw[List.drop_zero,List.drop_zero,←l1,List.take_length,l1,←l2,List.take_length];exact he')
 rw[part_agg hu ha hs]at p1 p2
 simp only[Result.ok.injEq,and_true]at p1 p2
 have q1:m'.extract 0 (0+s)=m':=by
  rw[hsl,Nat.zero_add,←l1,Array.length_toList];simp
 have q2:n'.extract 0 (0+s)=n':=by
  rw[hsl,Nat.zero_add,←l2,Array.length_toList];simp
 rw[q1]at p1
 rw[q2]at p2
 subst p1 p2
 have:=p3 9980
 refine⟨_,?_,.bool⟩
 rcases hop with rfl|rfl
 ·simp only[execOp,ho,e1,e2,Sem.run_bind,run_eqGuard_agg w .eql t x y m' n' hg,Result.andThen_ok,run_eql_struct,this];rfl
 ·simp only[execOp,ho,e1,e2,Sem.run_bind,run_eqGuard_agg w .neq t x y m' n' hg,Result.andThen_ok,run_neq_struct,this];rfl
theorem isNil_run{P:Program}{t:TypeId}{d:TypeDesc}{k:Nat}(hu:P.underlying t=some d)(hk:nilKind d=some k){v n:Value}{r:Bool}(hv:snil k v=some r)(hn:snil k n=some true)(w:World):
  (Op.equal t v n).run P w=.ok r w∧(Op.equal t n v).run P w=.ok r w:=by
 suffices hd:∀d,(Op.equalIn (d+1) t v n).run P w=.ok r w∧(Op.equalIn (d+1) t n v).run P w=.ok r w from hd 9999
 intro dd
 unfold nilKind at hk
 split at hk<;>simp at hk<;>subst hk
 ·cases v<;>simp[snil]at hv
  cases n<;>simp[snil]at hn
  subst hn hv
  rename_i p
  cases p<;>constructor<;>simp[Op.equalIn,run_underlying hu]
 ·cases v<;>simp[snil]at hv
  cases n<;>simp[snil]at hn
  subst hn hv
  rename_i p _ _ _ _
  cases p<;>constructor<;>simp[Op.equalIn,run_underlying hu]
 ·cases v<;>simp[snil]at hv
  cases n<;>simp[snil]at hn
  subst hn hv
  rename_i p
  cases p<;>constructor<;>simp[Op.equalIn,run_underlying hu]
 ·cases n<;>simp[snil]at hn
  cases v<;>simp[snil]at hv<;>subst hv<;>constructor<;>simp[Op.equalIn,run_underlying hu]
theorem snil_VR{k:Nat}{v v':Value}{r:Bool}(hv:VR C γ v v')(h:snil k v=some r):snil k v'=some r:=by
 unfold snil at h
 split at h
 ·cases hv<;>simpa[snil]using h
 ·cases hv<;>simpa[snil]using h
 ·cases hv<;>simpa[snil]using h
 ·cases hv;simpa[snil]using h
 ·cases hv;simpa[snil]using h
 ·simp at h
theorem eqGuard_nil{op:BinOp}{t:TypeId}{x y:Operand}{u v:Value}{k:Nat}{r:Bool}(hu:snil k u=some r):eqGuard op t x y u v=pure ():=by
 unfold snil at hu
 split at hu
 ·exact eqGuard_at_pointer ..
 ·exact eqGuard_at_slice ..
 ·exact eqGuard_at_map ..
 ·exact eqGuard_at_nilFunc ..
 ·exact eqGuard_at_func ..
 ·simp at hu
theorem binOp_nil{t:TypeId}{u v:Value}{k:Nat}{r s:Bool}(hu:snil k u=some r)(hv:snil k v=some s):
  binOp .eql t u v=(do let r ←Op.equal t u v;pure (.bool r))∧binOp .neq t u v=(do let r ←Op.equal t u v;pure (.bool (!r))):=by
 unfold snil at hu hv
 split at hu<;>first|(simp at hu;done)|(split at hv<;>first|exact⟨rfl,rfl⟩|(simp at hv;done)|simp_all)
theorem q_isnil{op:BinOp}{t u:TypeId}{x y:Operand}{d:TypeDesc}{k:Nat}{v n:Value}{r:Bool}(ho:o.op=.binOp op t x y u)(hop:op=.eql∨op=.neq)(hu:C.P.underlying t=some d)(hk:nilKind d=some k)
  (hs:snil k v=some r)(hn:snil k n=some true)(hxy:(VR C γ v (a.eval x)∧a.eval y=n)∨(VR C γ v (a.eval y)∧a.eval x=n)):Qt C γ o a (.bool (if(isNeq op)then !r else r)):=by
 intro w
 refine⟨_,?_,.bool⟩
 rcases hxy with⟨hv,he⟩|⟨hv,he⟩
 ·have hs':=snil_VR hv hs
  obtain⟨e1,e2⟩:=binOp_nil (t:=t) hs' hn
  have hr:=(isNil_run hu hk hs' hn w).1
  rcases hop with rfl|rfl
  ·simp only[execOp,ho,he,eqGuard_nil hs',Sem.run_bind,Sem.run_pure,Result.andThen_ok,e1,hr];rfl
  ·simp only[execOp,ho,he,eqGuard_nil hs',Sem.run_bind,Sem.run_pure,Result.andThen_ok,e2,hr];rfl
 ·have hs':=snil_VR hv hs
  obtain⟨e1,e2⟩:=binOp_nil (t:=t) hn hs'
  have hr:=(isNil_run hu hk hs' hn w).2
  rcases hop with rfl|rfl
  ·simp only[execOp,ho,he,eqGuard_nil hn,Sem.run_bind,Sem.run_pure,Result.andThen_ok,e1,hr];rfl
  ·simp only[execOp,ho,he,eqGuard_nil hn,Sem.run_bind,Sem.run_pure,Result.andThen_ok,e2,hr];rfl
theorem s_load1{t:TypeId}{x:Operand}{d:TypeDesc}{v u:Value}{b off:Nat}(ho:o.op=.load t x)(hu:C.P.underlying t=some d)(ha:aggD d=false)(H:HR C γ h w)(hv:VR C γ u (a.eval x))(hp:ptr u=some (b,off))(hl:h.load1 b off=some v):
  ∃v',(execOp a.eval o).run C.P w=.ok (.value v') w∧VR C γ v v':=by
 obtain⟨B,s,N,hb,he⟩:=hv.ptr_inv hp
 obtain⟨v',hc,hr,_⟩:=H.load1 hb hl
 exact⟨v',by simp[execOp,ho,he,Instr.loadAt,Instr.sureAddr,loadVar,run_agg hu,ha,hc],hr⟩
theorem s_loadN{t:TypeId}{x:Operand}{d:TypeDesc}{n:Nat}{u:Value}{cs:List Value}{b off:Nat}(ho:o.op=.load t x)(hu:C.P.underlying t=some d)(ha:aggD d=true)(hn:tsize C.P t=some n)(H:HR C γ h w)(hv:VR C γ u (a.eval x))(hp:ptr u=some (b,off))
  (hl:h.load b off n=some cs):∃v',(execOp a.eval o).run C.P w=.ok (.value v') w∧VR C γ (.agg cs.toArray) v':=by
 obtain⟨B,s,N,hb,he⟩:=hv.ptr_inv hp
 obtain⟨l',hc,hr,_,h1,_⟩:=H.load hb hl
 exact⟨.agg l',by simp[execOp,ho,he,Instr.loadAt,Instr.sureAddr,loadVar,run_agg hu,ha,run_size hn,hc],.agg (by simpa using hr) (by simpa using h1)⟩
theorem q_lenS{t e:TypeId}{x:Operand}{ad:Option Addr}{l c:Nat}(ho:o.op=.call { callee:=.builtin .len,args:=#[x],argTypes:=#[t] })(hu:C.P.underlying t=some (.slice e))(hv:VR C γ (.slice ad l c) (a.eval x)):Qt C γ o a (.int .i64 l):=by
 intro w
 have hx':∃ad' cap',a.eval x=.slice ad' l cap':=by generalize a.eval x=y at hv;cases hv<;>exact⟨_,_,rfl⟩
 obtain⟨ad',cap',hx'⟩:=hx'
 exact⟨_,by simp[execOp,ho,resolve,invoke,builtin,Builtin.len_,run_underlying hu,hx',goInt],.int⟩
theorem q_lenT{t:TypeId}{x:Operand}{s:ByteArray}(ho:o.op=.call { callee:=.builtin .len,args:=#[x],argTypes:=#[t] })(hu:C.P.underlying t=some .string)(hv:VR C γ (.string s) (a.eval x)):Qt C γ o a (.int .i64 s.size):=by
 intro w
 exact⟨_,by simp[execOp,ho,resolve,invoke,builtin,Builtin.len_,run_underlying hu,hv.str_inv,goInt],.int⟩
theorem s_lenM{t k e:TypeId}{x:Operand}{m:Option Nat}{v:Value}{h1:AH}{sx:SOpd}(ho:o.op=.call { callee:=.builtin .len,args:=#[x],argTypes:=#[t] })(hu:C.P.underlying t=some (.map k e))(H:HR C γ h w)(hv:VR C γ (.map m) (a.eval x))(hx:ρ sx=some (.map m))
  (hs:sop (.lenM sx) ρ h=some (.val v h1)):h1=h∧∃v',(execOp a.eval o).run C.P w=.ok (.value v') w∧VR C γ v v':=by
 simp only[sop,hx]at hs
 cases m with
 | none=>
  simp only[Option.some.injEq,Out.val.injEq]at hs
  obtain⟨rfl,rfl⟩:=hs
  exact⟨rfl,_,by simp[execOp,ho,resolve,invoke,builtin,Builtin.len_,run_underlying hu,hv.map0_inv,goInt],.int⟩
 | some r=>
  simp only at hs
  split at hs
  ·rename_i es clk hg
   simp only[Option.some.injEq,Out.val.injEq]at hs
   obtain⟨rfl,rfl⟩:=hs
   obtain⟨B,N,hV,hb⟩:=hv.map_inv
   have hB:=H.blk r B 0 N hb
   rw[hg]at hB
   obtain⟨es',k1,_,_,k4⟩:=hB
   have hgo:(getObj B).run C.P w=.ok (.map es' clk) w:=by simp[getObj,Sem.run,k1]
   exact⟨rfl,_,by simp[execOp,ho,resolve,invoke,builtin,Builtin.len_,run_underlying hu,hV,goInt,hgo,k4.length],.int⟩
  ·simp at hs
theorem s_store{t:TypeId}{x y:Operand}{n:Nat}{u v:Value}{cs:List Value}{b off:Nat}{h':AH}(ho:o.op=.store t x y)(hn:tsize C.P t=some n)(H:HR C γ h w)(hu:VR C γ u (a.eval x))(hp:ptr u=some (b,off))(hv:VR C γ v (a.eval y))(hc:vcells v=some cs)
  (hl:cs.length=n)(hs:h.store b off cs=some h'):∃w',(execOp a.eval o).run C.P w=.ok .skip w'∧HR C γ h' w':=by
 obtain⟨B,s,N,hb,he⟩:=hu.ptr_inv hp
 obtain⟨hR,h1⟩:=hv.cells hc
 obtain⟨w',k1,k2⟩:=H.store hb hR h1 hs
 refine⟨w',?_,k2⟩
 have hsz:(a.eval y).cells.size=n:=by rw[←Array.length_toList,←hR.length,hl]
 simp[execOp,ho,he,Instr.storeAt,Instr.sureAddr,storeVar,run_size hn,hsz,k1]
theorem store_of_store1{b off:Nat}{u:Value}{h':AH}(hs:h.store1 b off u=some h'):h.store b off [u]=some h':=by
 unfold AH.store1 at hs
 unfold AH.store
 split at hs
 ·rename_i c g hc
  split at hs
  ·rename_i hlt
   simp at hs
   simp only[List.length_cons,List.length_nil]
   rw[if_pos (by omega),splice_set hlt,hs]
  ·simp at hs
 ·simp at hs
theorem s_call(hρ:OR C γ ρ a){f:FuncId}{g:Nat}{xs:List Operand}{ss:List SOpd}{l:List Value}{ts:Array TypeId}(ho:o.op=.call { callee:=.value (.func f),args:=xs.toArray,argTypes:=ts })(hf:C.ψ f=some g)
  (hx:cOpds C.ψ xs=some ss)(hv:vals ρ ss=some l):OutOk C γ h o a w (.call g l):=by
 obtain⟨e,hL⟩:=C.back f g hf
 refine⟨(xs.map a.eval).toArray,?_,by simpa using hρ.vals hx hv,hL⟩
 subst e
 simp[execOp,ho,resolve,Act.eval,Deferred.ofValue,invoke,C.calls g hL]
theorem s_callv(hρ:OR C γ ρ a){fo:Operand}{sf:SOpd}{g:Nat}{fi ca:Array Value}{xs:List Operand}{ss:List SOpd}{l:List Value}{ts:Array TypeId}(ho:o.op=.call { callee:=.value fo,args:=xs.toArray,argTypes:=ts })(hf:cOpd C.ψ fo=some sf)
  (hx:cOpds C.ψ xs=some ss)(vf:ρ sf=some (.func (.func g) fi ca))(hv:vals ρ ss=some l):OutOk C γ h o a w (.call g (fi.toList++(l++ca.toList))):=by
 obtain⟨fi',ca',he,hL,h1,h2⟩:=(hρ fo sf _ hf vf).func_inv
 refine⟨fi'++(xs.map a.eval).toArray++ca',?_,?_,hL⟩
 ·simp[execOp,ho,resolve,he,Deferred.ofValue,invoke,C.calls g hL]
 ·have:=h1.append ((hρ.vals hx hv).append h2)
  simpa using this
end
end Go.Jq
namespace Go.Jq
open Go.RowKit
section
variable {C:Ctx} {γ:Gm} {h:AH} {w:World} {a:Act} {ρ:SOpd→Option Value} {o:Oper}
theorem HR.kill(H:HR C γ h w)(b:Nat):HR C γ (h.put b .dead) w:=by
 refine⟨H.below,H.low,?_,?_,H.dom⟩
 ·intro b' B s N hb
  simp only[AH.put]
  split
  ·trivial
  ·exact H.blk b' B s N hb
 ·intro b1 b2 B s1 N1 s2 N2 q1 q2 w1 w2
  simp only[AH.put]at w1 w2
  split at w1
  ·simp[ABlk.wr]at w1
  ·split at w2
   ·simp[ABlk.wr]at w2
   ·exact H.inj b1 b2 B s1 N1 s2 N2 q1 q2 w1 w2
theorem kget(h:AH)(b:Nat)(o:ABlk)(i:Nat):((h.put b .dead).alloc o).get i=if i=h.next then o else if i=b then .dead else h.get i:=rfl
theorem HR.retarget(H:HR C γ h w){b B s N s2:Nat}(hb:γ b=some (B,s,N)){c:List Value}{g:Bool}(hc:h.get b=.cells c g false)
  {D:Array Value}{E:TypeId}{f:Nat×Nat}(hD:w.heap[B]?=some (.cells D E f)){c':List Value}{D':Array Value}(hs:D'.size=D.size)(hle:s2+c'.length≤N)
  (hR:FA2 (VR C γ) c' ((D'.toList.drop s2).take c'.length))(h1:∀x∈c',x.oneCell'=true):
  Sub γ (gset γ h.next (B,s2,N))∧HR C (gset γ h.next (B,s2,N)) ((h.put b .dead).alloc (.cells c' true false)) { w with heap:=w.heap.modify B fun _=>.cells D' E f }:=by
 obtain⟨D0,E0,lo,hi,e1,e2,e3,e4,e5,_,e6⟩:=H.cells hb hc
 rw[hD]at e1
 simp only[Option.some.injEq,Obj.cells.injEq]at e1
 obtain⟨rfl,rfl,rfl⟩:=e1
 have e7:=e6 rfl
 have hsub:Sub γ (gset γ h.next (B,s2,N)):=gset_sub (H.dom _ (Nat.le_refl _))
 refine⟨hsub,⟨Below.modify H.below e7.1 _,H.low,?_,?_,?_⟩⟩
 ·intro b' B' s' N' hb'
  unfold gset at hb'
  rw[kget]
  split at hb'
  ·rename_i e
   subst e
   simp only[Option.some.injEq,Prod.mk.injEq]at hb'
   obtain⟨rfl,rfl,rfl⟩:=hb'
   rw[if_pos rfl]
   exact⟨D',E,lo,hi,by simp[Array.getElem?_modify,hD],by omega,hle,VR.monoL hsub hR,h1,by simp,fun _=>e7⟩
  ·rename_i hne
   rw[if_neg hne]
   by_cases hbb:b'=b
   ·rw[if_pos hbb];trivial
   ·rw[if_neg hbb]
    have hk:=(H.blk b' B' s' N' hb')
    by_cases hBB:B'=B
    ·subst hBB
     cases ho:h.get b' with
     | dead=>trivial
     | map es clk=>
      rw[ho]at hk
      obtain⟨es',k1,_⟩:=hk
      rw[hD]at k1;simp at k1
     | cells c2 g2 ro2=>
      rw[ho]at hk
      obtain⟨_,_,_,_,_,_,_,_,_,k6,k7⟩:=hk
      cases ro2 with
      | true=>have:=k6 rfl;omega
      | false=>exact absurd (H.inj b' b _ _ _ _ _ hb' hb (by simp[ABlk.wr,ho]) (by simp[ABlk.wr,hc])) hbb
    ·have:(w.heap.modify B fun _=>Obj.cells D' E (lo,hi))[B']?=w.heap[B']?:=by
      rw[Array.getElem?_modify,if_neg (by omega)]
     simp only[this]
     exact hk.mono hsub
 ·have key:∀b' s' N',b'≠h.next→γ b'=some (B,s',N')→(((h.put b .dead).alloc (.cells c' true false)).get b').wr=true→False:=by
   intro b' s' N' hne hb' hw
   rw[kget,if_neg hne]at hw
   split at hw
   ·simp[ABlk.wr]at hw
   ·rename_i hbb
    exact hbb (H.inj b' b _ _ _ _ _ hb' hb hw (by simp[ABlk.wr,hc]))
  intro b1 b2 B' s1 N1 s2' N2 q1 q2 w1 w2
  unfold gset at q1 q2
  split at q1<;>split at q2
  ·rename_i e1 e2;rw[e1,e2]
  ·rename_i hne
   simp only[Option.some.injEq,Prod.mk.injEq]at q1
   obtain⟨rfl,rfl,rfl⟩:=q1
   exact(key b2 _ _ hne q2 w2).elim
  ·rename_i hne _
   simp only[Option.some.injEq,Prod.mk.injEq]at q2
   obtain⟨rfl,rfl,rfl⟩:=q2
   exact(key b1 _ _ hne q1 w1).elim
  ·rename_i n1 n2
   rw[kget,if_neg n1]at w1
   rw[kget,if_neg n2]at w2
   split at w1
   ·simp[ABlk.wr]at w1
   ·split at w2
    ·simp[ABlk.wr]at w2
    ·exact H.inj b1 b2 B' s1 N1 s2' N2 q1 q2 w1 w2
 ·intro b' hb'
  simp only[AH.alloc_next,AH.put_next]at hb'
  unfold gset
  rw[if_neg (by omega)]
  exact H.dom b' (by omega)
theorem firstOf_run(H:HR C γ h w){y y':Value}{size n m:Nat}{cs:List Value}(hv:VR C γ y y')(hm:lenOf y=some m)(hn:n≤m)(hf:firstOf h size n y=some cs):
  ∃cs',(Builtin.firstCells size n y').run C.P w=.ok cs' w∧FA2 (VR C γ) cs cs'.toList∧cs.length=n*size∧(∀x∈cs,x.oneCell'=true)∧(Builtin.lenOf y').run C.P w=.ok m w:=by
 unfold firstOf at hf
 split at hf
 ·split at hf
  ·rename_i h0
   simp at hf;subst hf h0
   cases hv
   simp[lenOf]at hm;subst hm
   exact⟨#[],by simp[Builtin.firstCells],.nil,by simp,by simp,by simp[Builtin.lenOf]⟩
  ·simp at hf
 ·rename_i ad l c
  simp[lenOf]at hm;subst hm
  obtain⟨B,s,N,o',c',hb,he,ho⟩:=hv.slice_inv
  subst he
  rcases ho with ho|ho
  ·subst ho
   obtain⟨l',k1,k2,k3,k4,_⟩:=H.load hb hf
   exact⟨l',by simp[Builtin.firstCells,k1],k2,k3,k4,by simp[Builtin.lenOf]⟩
  ·have h0:n=0:=by omega
   subst h0
   obtain⟨l',k1,k2,k3,k4,_⟩:=H.load hb hf
   have hc0:cs=[]:=by simpa using k3
   subst hc0
   exact⟨#[],by simp[Builtin.firstCells,loadCells,loadCellsFrom],.nil,by simp,by simp,by simp[Builtin.lenOf]⟩
 ·rename_i s
  split at hf
  ·rename_i hh
   simp only[Option.some.injEq]at hf;subst hf
   simp[lenOf]at hm;subst hm
   obtain⟨rfl,hle⟩:=hh
   rw[hv.str_inv]
   refine⟨_,rfl,?_,by simp;omega,?_,by simp[Builtin.lenOf]⟩
   ·simp only[Array.toList_map,ByteArray.data_extract,Array.toList_extract,List.extract_eq_take_drop,List.drop_zero,Nat.sub_zero]
    generalize s.data.toList.take n=l
    induction l with
    | nil=>exact .nil
    | cons x l ih=>exact .cons .int ih
   ·intro x hx
    simp only[List.mem_map]at hx
    obtain⟨b,_,rfl⟩:=hx
    rfl
  ·simp at hf
 ·simp at hf
theorem nextcap_le(need cap:Nat)(h:cap<need):Builtin.nextslicecap need cap≤2*need+1000:=by
 unfold Builtin.nextslicecap
 split
 ·omega
 ·split
  ·omega
  ·have key:∀(r c:Nat),c<need+(need+768) / 4+1→Builtin.growBy need r c≤need+(need+768) / 4:=by
    intro r
    induction r with
    | zero=>intro c hc;simp only[Builtin.growBy];omega
    | succ r ih=>
     intro c hc
     simp only[Builtin.growBy]
     split
     ·omega
     ·exact ih _ (by omega)
   have:=key 4 cap (by omega)
   omega
theorem zeroCells_size(z:Array Value)(n:Nat):(Builtin.zeroCells z n).size=n*z.size:=by simp[Builtin.zeroCells]
theorem run_grow{t u e:TypeId}{ud:TypeDesc}{size bytes len n cap:Nat}{zs:List Value}{base':Option Addr}{y':Value}{old new:Array Value}{x y:Operand}
  (ho:o.op=.call { callee:=.builtin .append,args:=#[x,y],argTypes:=#[t,u] })(hu:C.P.underlying t=some (.slice e))(hud:C.P.underlying u=some ud)(hui:∀k,ud≠.int k)(hk:tsize C.P e=some size)(hb:tbytes C.P e=some bytes)(hb0:bytes≠0)(hb1:bytes≤65536)
  (hz:tzero C.P e=some zs)(hzl:zs.length=size)(ex:a.eval x=.slice base' len cap)(ey:a.eval y=y')(hl:∀w:World,(Builtin.lenOf y').run C.P w=.ok n w)(hcap:cap<len+n)(hsm:(len+n)*bytes≤70368744177664)
  (hold:(Builtin.firstCells size len (.slice base' len cap)).run C.P { w with drawn:=w.drawn+1 }=.ok old { w with drawn:=w.drawn+1 })(hnew:(Builtin.firstCells size n y').run C.P { w with drawn:=w.drawn+1 }=.ok new { w with drawn:=w.drawn+1 })
  (h1:old.size=len*size)(h2:new.size=n*size):
  ∃D newCap,(execOp a.eval o).run C.P w=.ok (.value (.slice (some ⟨w.heap.size,0,none⟩) (len+n) newCap)) { w with drawn:=w.drawn+1,heap:=w.heap.push (.cells D e) }∧len+n≤newCap∧D.size=newCap*size∧D.toList.take (old.size+new.size)=(old++new).toList:=by
 obtain⟨i,z,g1,g2,g3,g4,g5⟩:=tzero_some hz
 have hbi:i.bytes=bytes:=by simp[tbytes,g1]at hb;exact hb
 have hzc:=vcells_cells g3
 have hzs:z.cells.size=size:=by rw[←hzl,←hzc];simp
 have hnc:=nextcap_le (len+n) cap hcap
 have hbound:¬(Builtin.nextslicecap (len+n) cap*bytes>2^48):=by
  have:Builtin.nextslicecap (len+n) cap*bytes≤(2*(len+n)+1000)*bytes:=Nat.mul_le_mul_right _ hnc
  have e:(2*(len+n)+1000)*bytes=2*((len+n)*bytes)+1000*bytes:=by rw[Nat.add_mul,Nat.mul_assoc]
  have:1*bytes≤(len+n)*bytes:=Nat.mul_le_mul_right _ (by omega)
  omega
 let q:Question:=.appendCap (len+n) cap e
 let newCap:=q.cut (w.tape w.drawn q)
 have hge:len+n≤newCap:=by
  show len+n≤len+n+_
  omega
 refine⟨old++new++Builtin.zeroCells z.cells (newCap-(len+n)),newCap,?_,hge,?_,?_⟩
 ·have hm:((ud matches TypeDesc.int _):Bool)=false:=by cases ud<;>first|rfl|exact absurd rfl (hui _)
  simp only[execOp,ho,resolve,List.map_toArray,List.map_cons,List.map_nil,invoke,builtin,Builtin.append_,Sem.run_bind,Sem.run_pure,Result.andThen_ok,ex,ey]
  simp only[Builtin.append_,List.getElem?_toArray,List.getElem?_cons_zero,List.getElem?_cons_succ,Array.map,Sem.run_bind,run_underlying hu,Result.andThen_ok,run_size hk,run_underlying hud,Sem.run_pure,hl]
  simp only[Bool.false_eq_true,if_false,Sem.run_bind,hl,Result.andThen_ok]
  rw[if_neg (by omega)]
  simp only[Sem.run_bind,run_typeInfo g1,Result.andThen_ok,hbi]
  rw[if_neg (by simp[hb0])]
  simp only[Sem.run_bind,run_typeInfo g1,Result.andThen_ok,hbi]
  rw[if_neg hbound]
  simp only[Sem.run_bind,run_typeInfo g1,Result.andThen_ok,hbi,run_choose,Question.forced,Bool.false_eq_true,if_false,run_askRoom,hold,hnew,Bool.not_false,if_true,run_zero g1 g2,Sem.run_pure,run_newRow]
  rfl
 ·simp only[Array.size_append,h1,h2,zeroCells_size,hzs]
  rw[←Nat.add_mul,←Nat.add_mul]
  congr 1
  omega
 ·simp only[Array.toList_append]
  rw[List.take_left' (by simp)]
theorem run_stay{t u e:TypeId}{ud:TypeDesc}{size len n cap:Nat}{base':Option Addr}{y':Value}{new:Array Value}{x y:Operand}{w':World}
  (ho:o.op=.call { callee:=.builtin .append,args:=#[x,y],argTypes:=#[t,u] })(hu:C.P.underlying t=some (.slice e))(hud:C.P.underlying u=some ud)(hui:∀k,ud≠.int k)(hk:tsize C.P e=some size)
  (ex:a.eval x=.slice base' len cap)(ey:a.eval y=y')(hl:∀w:World,(Builtin.lenOf y').run C.P w=.ok n w)(hcap:len+n≤cap)
  (hnew:(Builtin.firstCells size n y').run C.P w=.ok new w)(hst:∀ad,base'=some ad→(storeCells (ad.add (len*size)) new.toList).run C.P w=.ok () w')(hno:base'=none→w'=w):
  (execOp a.eval o).run C.P w=.ok (.value (.slice base' (len+n) cap)) w':=by
 have hm:((ud matches TypeDesc.int _):Bool)=false:=by cases ud<;>first|rfl|exact absurd rfl (hui _)
 simp only[execOp,ho,resolve,List.map_toArray,List.map_cons,List.map_nil,invoke,builtin,Builtin.append_,Sem.run_bind,Sem.run_pure,Result.andThen_ok,ex,ey]
 simp only[Builtin.append_,List.getElem?_toArray,List.getElem?_cons_zero,List.getElem?_cons_succ,Array.map,Sem.run_bind,run_underlying hu,Result.andThen_ok,run_size hk,run_underlying hud,Sem.run_pure,hl]
 simp only[Bool.false_eq_true,if_false,Sem.run_bind,hl,Result.andThen_ok]
 rw[if_pos hcap]
 simp only[Sem.run_bind,Bool.not_false,if_true,hnew,Result.andThen_ok]
 cases base' with
 | none=>rw[hno rfl];rfl
 | some ad=>simp only[Sem.run_bind,hst ad rfl,Result.andThen_ok,Sem.run_pure]
theorem s_append{t u e:TypeId}{ud:TypeDesc}{size bytes:Nat}{zs:List Value}{x y:Operand}{xv yv v:Value}{h1:AH}
  (ho:o.op=.call { callee:=.builtin .append,args:=#[x,y],argTypes:=#[t,u] })(hu:C.P.underlying t=some (.slice e))(hud:C.P.underlying u=some ud)(hui:∀k,ud≠.int k)(hk:tsize C.P e=some size)(hb:tbytes C.P e=some bytes)(hs0:size≠0)(hb0:bytes≠0)(hb1:bytes≤65536)
  (hz:tzero C.P e=some zs)(hzl:zs.length=size)(H:HR C γ h w)(hx:VR C γ xv (a.eval x))(hy:VR C γ yv (a.eval y))(hs:sappend h size bytes xv yv=some (v,h1)):OutOk C γ h o a w (.val v h1):=by
 unfold sappend at hs
 split at hs
 ·rename_i base len cap n hn
  split at hs
  ·simp at hs
  ·rename_i new hf
   split at hs
   ·simp at hs
   ·rename_i hsm
    obtain⟨new',f1,f2,f3,f4,_⟩:=firstOf_run H hy hn (Nat.le_refl n) hf
    have f5:∀w:World,(Builtin.lenOf (a.eval y)).run C.P w=.ok n w:=by
     intro w
     generalize a.eval y=yy at hy
     cases hy<;>simp[lenOf]at hn<;>subst hn<;>simp[Builtin.lenOf]
    have HW:=H.drew (w.drawn+1)
    obtain⟨new2,g1,g2,g3,g4,_⟩:=firstOf_run HW hy hn (Nat.le_refl n) hf
    have hsz2:new2.size=n*size:=by rw[←Array.length_toList,←g2.length,g3]
    -- a new row
    have grow:∀{cap':Nat} {base':Option Addr} {old:List Value} {old':Array Value} {hh:AH},a.eval x=.slice base' len cap'→cap'<len+n→
      (Builtin.firstCells size len (.slice base' len cap')).run C.P { w with drawn:=w.drawn+1 }=.ok old' { w with drawn:=w.drawn+1 }→FA2 (VR C γ) old old'.toList→old.length=len*size→(∀x∈old,x.oneCell'=true)→
      HR C γ hh { w with drawn:=w.drawn+1 }→hh.next=h.next→OutOk C γ h o a w (.val (.slice (some ⟨hh.next,0,some size⟩) (len+n) (len+n)) (hh.alloc (.cells (old++new) true false))):=by
     intro cap' base' old old' hh ex hcap hold hR hl h1 HH hhn
     have hosz:old'.size=len*size:=by rw[←Array.length_toList,←hR.length,hl]
     obtain⟨D,newCap,k1,k2,k3,k4⟩:=run_grow ho hu hud hui hk hb hb0 hb1 hz hzl ex rfl f5 hcap (by omega) hold g1 hosz hsz2
     have hRR:FA2 (VR C γ) (old++new) (D.toList.take (old++new).length):=by
      rw[List.length_append,hl,g3,←hosz,←hsz2,k4,Array.toList_append]
      exact hR.append g2
     have hDl:(old++new).length≤D.size:=by
      rw[List.length_append,hl,g3,k3,←Nat.add_mul]
      exact Nat.mul_le_mul_right _ k2
     have hlow:C.base≤({ w with drawn:=w.drawn+1 }:World).heap.size:=HH.size
     have hs0':=gset_sub (x:=(({ w with drawn:=w.drawn+1 }:World).heap.size,0,D.size)) (HH.dom _ (Nat.le_refl _))
     obtain⟨q1,q2⟩:=HH.alloc (o:=.cells (old++new) true false) (obj:=.cells D e) (N:=D.size) (BR.new (VR.monoL hs0' hRR) hDl (by
      intro x hx
      rcases List.mem_append.1 hx with hx|hx
      ·exact h1 x hx
      ·exact g4 x hx) hlow)
     refine⟨_,_,_,k1,⟨q1,fun b hb=>by unfold gset;rw[if_neg (by omega)],by rw[AH.alloc_next];omega⟩,q2,?_⟩
     have hg:gset γ hh.next (({ w with drawn:=w.drawn+1 }:World).heap.size,0,D.size) hh.next=some (w.heap.size,0,D.size):=by simp[gset]
     exact VR.slI (s:=0) (o:=0) hg (Nat.le_refl _) k2 (by rw[k3];omega)
    cases base with
    | none=>
     simp only at hs
     split at hs
     ·rename_i h00
      obtain⟨rfl,rfl⟩:=h00
      have hxe:a.eval x=.slice none 0 0:=by generalize a.eval x=y at hx;cases hx;rfl
      split at hs
      ·rename_i hn0
       subst hn0
       simp only[Option.some.injEq,Prod.mk.injEq]at hs
       obtain⟨rfl,rfl⟩:=hs
       have:=run_stay (w':=w) ho hu hud hui hk hxe rfl f5 (Nat.le_refl 0) f1 (by simp) (by simp)
       exact⟨_,_,γ,this,.same (Nat.le_refl _),H,.sl0⟩
      ·rename_i hn0
       simp only[Option.some.injEq,Prod.mk.injEq]at hs
       obtain⟨rfl,rfl⟩:=hs
       have:=grow (old:=[]) (old':=#[]) (hh:=h) hxe (by omega) (by simp[Builtin.firstCells]) .nil (by simp) (by simp) HW rfl
       simpa using this
     ·simp at hs
    | some ad=>
     simp only at hs
     obtain⟨b0,o0,spot⟩:=ad
     have nilcase:n=0→len≤cap→∀{base':Option Addr} {c':Nat},a.eval x=.slice base' len c'→len≤c'→OutOk C γ h o a w (.val (.slice (some ⟨b0,o0,spot⟩) len cap) h):=by
      intro hn0 _ base' c' hxe hcc
      subst hn0
      have hnil:new'.toList=[]:=by
       have:=f2.length
       rw[f3]at this
       exact List.eq_nil_of_length_eq_zero (by omega)
      have:=run_stay (w':=w) ho hu hud hui hk hxe rfl f5 (by omega) f1 (by intro ad _;rw[hnil];simp[storeCells]) (by simp)
      rw[Nat.add_zero]at this
      refine⟨_,_,γ,this,.same (Nat.le_refl _),H,?_⟩
      rw[←hxe]
      exact hx
     have staycase:∀{B s N c':Nat} {h2:AH},γ b0=some (B,s,N)→a.eval x=.slice (some ⟨B,s+o0,none⟩) len c'→len+n≤c'→h.store b0 (o0+len*size) new=some h2→VR C γ (.slice (some ⟨b0,o0,spot⟩) (len+n) cap) (.slice (some ⟨B,s+o0,none⟩) (len+n) c')→
       OutOk C γ h o a w (.val (.slice (some ⟨b0,o0,spot⟩) (len+n) cap) h2):=by
      intro B s N c' h2 hgb hxe hcc hst hv
      obtain⟨w',m1,m2⟩:=H.store hgb f2 f4 hst
      have:=run_stay (w':=w') ho hu hud hui hk hxe rfl f5 hcc f1 (by
       intro ad2 e2
       simp at e2
       subst e2
       rw[addr_add,Nat.add_assoc]
       exact m1) (by simp)
      exact⟨_,_,γ,this,.same (by rw[store_next hst];exact Nat.le_refl _),m2,hv⟩
     split at hs
     ·rename_i hle
      split at hs
      ·rename_i hn0
       simp only[Option.some.injEq,Prod.mk.injEq]at hs
       obtain⟨rfl,rfl⟩:=hs
       generalize hxe:a.eval x=xx at hx
       cases hx with
       | slX hh=>exact nilcase hn0 (by omega) hxe (by omega)
       | slI hh q1 q2 q3=>exact nilcase hn0 (by omega) hxe (by omega)
       | slE hh=>exact nilcase hn0 (by omega) hxe (by omega)
      ·rename_i hn0
       split at hs
       ·rename_i h2 hst
        simp only[Option.some.injEq,Prod.mk.injEq]at hs
        obtain⟨rfl,rfl⟩:=hs
        simp only at hst
        generalize hxe:a.eval x=xx at hx
        cases hx with
        | slX hh=>exact staycase hh hxe hle hst (.slX hh)
        | slI hh q1 q2 q3=>exact staycase hh hxe (by omega) hst (.slI hh hle q2 q3)
        | slE hh=>omega
       ·simp at hs
     ·rename_i hgt
      split at hs
      ·rename_i old c g ro hold hget
       simp only at hold hget hs
       split at hs
       ·simp only[Option.some.injEq,Prod.mk.injEq]at hs
        obtain⟨rfl,rfl⟩:=hs
        generalize hxe:a.eval x=xx at hx
        cases hx with
        | slX hh=>
         obtain⟨l',r1,r2,r3,r4,_⟩:=HW.load hh hold
         exact grow hxe (by omega) (by simpa[Builtin.firstCells]using r1) r2 r3 r4 HW rfl
       ·rename_i k
        split at hs
        ·rename_i hk2
         obtain⟨rfl,rfl⟩:=hk2
         simp only[Option.some.injEq,Prod.mk.injEq]at hs
         obtain⟨rfl,rfl⟩:=hs
         generalize hxe:a.eval x=xx at hx
         cases hx with
         | slE hh=>
          have hl0:old=[]:=by
           obtain⟨_,_,_,r3,_⟩:=HW.load hh hold
           simpa using r3
          subst hl0
          exact grow (old:=[]) (old':=#[]) hxe (by omega) (by simp[Builtin.firstCells,loadCells,loadCellsFrom]) .nil (by simp) (by simp) (HW.kill _) rfl
         | slI hh q1 q2 q3=>
          rename_i B s N c'
          by_cases hfit:len+n≤c'
          ·obtain⟨D,E,lo,hi,e1,e2,e3,e4,e5,_,e6⟩:=H.cells hh hget
           have e7:=e6 rfl
           have q5:(len+n)*k≤c'*k:=Nat.mul_le_mul_right _ hfit
           rw[Nat.add_mul]at q5
           have hlen:=f2.length
           have hnl0:new'.toList.length=n*k:=by omega
           have hnl1:new'.size=n*k:=by rw[←Array.length_toList];exact hnl0
           have hDl:D.toList.length=D.size:=by simp
           have hone:∀x∈new'.toList,x.oneCell'=true:=by
            intro x hx
            obtain⟨i,hi⟩:=List.getElem?_of_mem hx
            have hlt:=(List.getElem?_eq_some_iff.1 hi).1
            obtain⟨y,hy,hr⟩:=f2.get (List.getElem?_eq_getElem (by omega:i<new.length))
            rw[hi]at hy
            simp only[Option.some.injEq]at hy;subst hy
            rw[hr.one]
            exact f4 _ (List.getElem_mem _)
           have hst:=run_storeCells (P:=C.P) (B:=B) (o:=s+o0+len*k) (E:=E) e7.2 new'.toList 0 D w e1 e2 (by omega) hone
           obtain⟨oldl,r1,r2,r3,r4,r5⟩:=H.load hh hold
           have hD2:(old++new).length=len*k+n*k:=by rw[List.length_append,r3,f3]
           have hR:FA2 (VR C γ) (old++new) ((((splice D.toList (s+o0+len*k+0) new'.toList).toArray.toList.drop (s+o0)).take (old++new).length)):=by
            have e9:((splice D.toList (s+o0+len*k+0) new'.toList).toArray.toList.drop (s+o0)).take (old++new).length=((D.toList.drop (s+o0)).take (len*k))++new'.toList:=by
             apply List.ext_getElem?
             intro j
             simp only[splice,hD2,Nat.add_zero,List.getElem?_take,List.getElem?_drop,List.getElem?_append,List.length_take,List.length_drop,Array.length_toList]
             have m1:min (s+o0+len*k) D.size=s+o0+len*k:=by omega
             have m2:min (len*k) (D.size-(s+o0))=len*k:=by omega
             rw[m1,m2]
             have hnl:new'.toList.length=n*k:=by omega
             by_cases j1:j<len*k
             ·simp[j1,show s+o0+j<s+o0+len*k by omega,show j<len*k+n*k by omega]
             ·rw[if_neg (show ¬s+o0+j<s+o0+len*k by omega),if_neg j1]
              have q:s+o0+j-(s+o0+len*k)=j-len*k:=by omega
              rw[q]
              by_cases j2:j<len*k+n*k
              ·simp only[j2,if_true,show j-len*k<new'.size by omega]
              ·rw[if_neg j2]
               rw[List.getElem?_eq_none (by omega)]
            rw[e9]
            refine FA2.append ?_ f2
            have e10:oldl.toList=(D.toList.drop (s+o0)).take (len*k):=by
             have:=run_loadCells_list (P:=C.P) w ⟨B,s+o0,none⟩ ((D.toList.drop (s+o0)).take (len*k)) (fun j v hj=>by
              have hj2:j<len*k:=by
               have:=(List.getElem?_eq_some_iff.1 hj).1
               simp at this;omega
              rw[List.getElem?_take,if_pos hj2,List.getElem?_drop]at hj
              rw[addr_add,cell_of e1]
              simpa[Nat.add_assoc]using hj)
             have hl:((D.toList.drop (s+o0)).take (len*k)).length=len*k:=by simp;omega
             rw[hl,r1]at this
             simp only[Result.ok.injEq,and_true]at this
             rw[this]
            rw[←e10]
            exact r2
           obtain⟨z1,z2⟩:=H.retarget (s2:=s+o0) hh hget e1 (c':=old++new) (D':=(splice D.toList (s+o0+len*k+0) new'.toList).toArray) (by rw[List.size_toArray,splice_length (by omega)];simp) (by omega) hR (by
            intro x hx
            rcases List.mem_append.1 hx with hx|hx
            ·exact r4 x hx
            ·exact f4 x hx)
           have:=run_stay ho hu hud hui hk hxe rfl f5 hfit f1 (by
            intro ad2 e2
            simp at e2
            subst e2
            rw[addr_add]
            exact hst) (by simp)
           refine⟨_,_,_,this,⟨z1,fun b hb=>by unfold gset;rw[if_neg (by omega)],by rw[AH.alloc_next,AH.put_next];omega⟩,z2,?_⟩
           have hg:gset γ h.next (B,s+o0,N) h.next=some (B,s+o0,N):=by simp[gset]
           exact VR.slI (o:=0) hg (Nat.le_refl _) hfit (by omega)
          ·obtain⟨l',r1,r2,r3,r4,_⟩:=HW.load hh hold
           exact grow hxe (by omega) (by simpa[Builtin.firstCells]using r1) r2 r3 r4 (HW.kill _) rfl
        ·simp at hs
      ·simp at hs
 ·simp at hs
theorem s_copy{t u e:TypeId}{size:Nat}{x y:Operand}{xv yv v:Value}{h1:AH}
  (ho:o.op=.call { callee:=.builtin .copy,args:=#[x,y],argTypes:=#[t,u] })(hu:C.P.underlying t=some (.slice e))(hk:tsize C.P e=some size)
  (H:HR C γ h w)(hx:VR C γ xv (a.eval x))(hy:VR C γ yv (a.eval y))(hs:scopy h size xv yv=some (v,h1)):OutOk C γ h o a w (.val v h1):=by
 unfold scopy at hs
 split at hs
 ·rename_i base len cap n hn
  split at hs
  ·simp at hs
  ·rename_i new hf
   obtain⟨new',f1,f2,f3,f4,f5⟩:=firstOf_run H hy hn (Nat.min_le_left n len) hf
   have run:∀{base':Option Addr} {c':Nat} {w':World},a.eval x=.slice base' len c'→(∀ad,base'=some ad→(storeCells ad new'.toList).run C.P w=.ok () w')→(base'=none→w'=w)→
     (execOp a.eval o).run C.P w=.ok (.value (.int .i64 (min n len:Nat))) w':=by
    intro base' c' w' ex hst hno
    simp only[execOp,ho,resolve,List.map_toArray,List.map_cons,List.map_nil,invoke,builtin,Sem.run_bind,Sem.run_pure,Result.andThen_ok,ex]
    simp only[Builtin.copy_,List.getElem?_toArray,List.getElem?_cons_zero,List.getElem?_cons_succ,Array.map,Sem.run_bind,run_underlying hu,Result.andThen_ok,run_size hk,Sem.run_pure,f5,Nat.min_def]
    have e1:(if n≤len then n else len)=min n len:=by rw[Nat.min_def]
    simp only[e1,f1,Result.andThen_ok]
    cases base' with
    | none=>rw[hno rfl];simp[goInt]
    | some ad=>simp[hst ad rfl,goInt]
   cases base with
   | none=>
    simp only[Option.some.injEq,Prod.mk.injEq]at hs
    obtain⟨rfl,rfl⟩:=hs
    have hxe:∃c',a.eval x=.slice none len c':=by generalize a.eval x=xx at hx;cases hx;exact⟨_,rfl⟩
    obtain⟨c',hxe⟩:=hxe
    exact⟨_,_,γ,run (w':=w) hxe (by simp) (by simp),.same (Nat.le_refl _),H,.int⟩
   | some ad=>
    obtain⟨b0,o0,spot⟩:=ad
    simp only at hs
    obtain⟨B,s,N,o',c',hgb,hxe,ho'⟩:=hx.slice_inv
    split at hs
    ·rename_i h0
     simp only[Option.some.injEq,Prod.mk.injEq]at hs
     obtain⟨rfl,rfl⟩:=hs
     have hnil:new'.toList=[]:=by
      have:=f2.length
      rw[f3,h0]at this
      exact List.eq_nil_of_length_eq_zero (by omega)
     have:=run (w':=w) hxe (by intro ad _;rw[hnil];simp[storeCells]) (by simp)
     rw[h0]at this
     exact⟨_,_,γ,this,.same (Nat.le_refl _),H,.int⟩
    ·rename_i h0
     split at hs
     ·rename_i h2 hst
      simp only[Option.some.injEq,Prod.mk.injEq]at hs
      obtain⟨rfl,rfl⟩:=hs
      have hoo:o'=s+o0:=by
       rcases ho' with e|e
       ·exact e
       ·omega
      subst hoo
      obtain⟨w',m1,m2⟩:=H.store hgb f2 f4 hst
      exact⟨_,_,γ,run hxe (by intro ad e2;simp at e2;subst e2;exact m1) (by simp),.same (by rw[store_next hst];exact Nat.le_refl _),m2,.int⟩
     ·simp at hs
 ·simp at hs
theorem s_clear{t e:TypeId}{x:Operand}{zs:List Value}{ad:Addr}{n cp:Nat}{h1:AH}(ho:o.op=.call { callee:=.builtin .clear,args:=#[x],argTypes:=#[t] })(hu:C.P.underlying t=some (.slice e))(hz:tzero C.P e=some zs)
  (H:HR C γ h w)(hx:VR C γ (.slice (some ad) n cp) (a.eval x))(hn:n≠0)(hs:h.store ad.block ad.off (Builtin.zeroCells zs.toArray n).toList=some h1):OutOk C γ h o a w (.val (.tuple #[]) h1):=by
 obtain⟨B,s,N,o',c',hgb,hxe,ho'⟩:=hx.slice_inv
 obtain⟨i,z,g1,g2,g3,g4,g5⟩:=tzero_some hz
 have hoo:o'=s+ad.off:=by
  rcases ho' with e|e
  ·exact e
  ·omega
 subst hoo
 have hzc:z.cells=zs.toArray:=by
  have:=vcells_cells g3
  rw[←this]
 have hmem:∀y∈(Builtin.zeroCells zs.toArray n).toList,y∈zs:=by
  intro y hy
  simp only[Builtin.zeroCells,Array.toList_map,List.mem_map,Array.mem_toList_iff,Array.mem_range]at hy
  obtain⟨k,hk,rfl⟩:=hy
  simp only[List.size_toArray]at hk ⊢
  have hpos:0<zs.length:=by
   rcases Nat.eq_zero_or_pos zs.length with e|e
   ·rw[e]at hk;simp at hk
   ·exact e
  have hlt:k % zs.length<zs.length:=Nat.mod_lt _ hpos
  rw[getElem!_pos zs.toArray _ (by simpa using hlt)]
  simp
 have hp:(Builtin.zeroCells zs.toArray n).toList.all plain1=true:=by
  rw[List.all_eq_true]
  intro y hy
  exact List.all_eq_true.1 g4 y (hmem y hy)
 obtain⟨w',m1,m2⟩:=H.store hgb (plains_VR hp) (fun y hy=>plain1_one (List.all_eq_true.1 hp y hy)) hs
 refine⟨.tuple #[],w',γ,?_,.same (by rw[store_next hs];exact Nat.le_refl _),m2,.tuple .nil⟩
 simp only[execOp,ho,resolve,List.map_toArray,List.map_cons,List.map_nil,invoke,builtin,Sem.run_bind,Sem.run_pure,Result.andThen_ok]
 have e1:Array.map a.eval #[x]=#[.slice (some ⟨B,s+ad.off,none⟩) n c']:=by simp[hxe]
 cases n with
 | zero=>exact absurd rfl hn
 | succ n=>
  simp[Builtin.clear_,hxe,run_underlying hu,run_zero g1 g2,hzc,m1]
end
end Go.Jq
