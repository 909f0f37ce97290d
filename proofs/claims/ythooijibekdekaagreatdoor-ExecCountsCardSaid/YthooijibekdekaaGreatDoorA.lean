/- The abstract machine: values are the model's own, memory is a row of blocks numbered from nought; a slice that grew by append has a capacity that is known only from below. -/
import GoSem.Dispatch
import Derived.Lib.TrailingZeros
set_option linter.unusedSimpArgs false
set_option linter.unusedVariables false
namespace Go.Jq
inductive ABlk where
  | cells (c : List Value) (grow ro : Bool)
  | map (es : List (Value × Value × Nat)) (clock : Nat)
  | dead
structure AH where
  next : Nat
  get : Nat → ABlk
def AH.put (h : AH) (b : Nat) (o : ABlk) : AH := ⟨h.next, fun i => if i = b then o else h.get i⟩
def AH.alloc (h : AH) (o : ABlk) : AH := ⟨h.next + 1, fun i => if i = h.next then o else h.get i⟩
def AH.load1 (h : AH) (b off : Nat) : Option Value :=
  match h.get b with
  | .cells c _ _ => c[off]?
  | _ => none
def AH.load (h : AH) (b off n : Nat) : Option (List Value) :=
  match h.get b with
  | .cells c _ _ => if off + n ≤ c.length then some ((c.drop off).take n) else none
  | _ => none
def splice (c : List Value) (off : Nat) (vs : List Value) : List Value := c.take off ++ (vs ++ c.drop (off + vs.length))
def AH.store1 (h : AH) (b off : Nat) (v : Value) : Option AH :=
  match h.get b with
  | .cells c g false => if off < c.length then some (h.put b (.cells (c.set off v) g false)) else none
  | _ => none
def AH.store (h : AH) (b off : Nat) (vs : List Value) : Option AH :=
  match h.get b with
  | .cells c g false => if off + vs.length ≤ c.length then some (h.put b (.cells (splice c off vs) g false)) else none
  | _ => none
inductive SOpd where
  | tmp (t : Nat)
  | const (v : Value)
  | func (f : Nat)
abbrev Fr := List (Nat × Value)
def Fr.get : Fr → Nat → Option Value
  | [], _ => none
  | (k, v) :: r, t => if t = k then some v else Fr.get r t
def Fr.set : Fr → Nat → Value → Fr
  | [], t, v => [(t, v)]
  | (k, x) :: r, t, v => if t = k then (t, v) :: r else if t < k then (t, v) :: (k, x) :: r else (k, x) :: Fr.set r t v
def Fr.del : Fr → Nat → Fr
  | [], _ => []
  | (k, x) :: r, t => if t = k then Fr.del r t else (k, x) :: Fr.del r t
def Fr.keep : Fr → List Nat → Fr
  | [], _ => []
  | (k, x) :: r, l => if l.contains k then (k, x) :: Fr.keep r l else Fr.keep r l
def Fr.put (F : Fr) : Option Nat → Value → Fr
  | some t, v => F.set t v
  | none, _ => F
def Fr.unput (F : Fr) : Option Nat → Fr
  | some t => F.del t
  | none => F
def Fr.undo (F : Fr) : Option Nat → Fr
  | some t => F.set t (.tuple #[])
  | none => F
def Fr.val (F : Fr) : SOpd → Option Value
  | .tmp t => F.get t
  | .const v => some v
  | .func f => some (.func (.func f) #[] #[])
def Fr.from : Nat → List Value → Fr
  | _, [] => []
  | i, v :: r => (i, v) :: Fr.from (i + 1) r
inductive SOp where
  | bad
  | mov (x : SOpd)
  | pick (c a b : SOpd)
  | alloc (zs : List Value)
  | box (x : SOpd)
  | build (zs : List Value) (parts : List (Nat × Nat × SOpd))
  | mkslice (len : Nat) (zs : List Value) (parts : List (Nat × Nat × SOpd))
  | load1 (a : SOpd)
  | loadN (n : Nat) (a : SOpd)
  | store1 (a x : SOpd)
  | storeN (n : Nat) (a x : SOpd)
  | nilchk (x : SOpd)
  | bin (op : BinOp) (x y : SOpd)
  | eqB (neg : Bool) (x y : SOpd)
  | eqN (neg : Bool) (ks : List Nat) (x y : SOpd)
  | isnil (kind : Nat) (neg : Bool) (x : SOpd)
  | un (op : UnOp) (x : SOpd)
  | conv (k : IntKind) (x : SOpd)
  | mkfunc (f : Nat) (first caps : List SOpd)
  | mkmap
  | mkrow (size bytes : Nat) (zs : List Value) (l c : SOpd)
  | slstr (x : SOpd) (lo hi : Option SOpd)
  | slsl (size : Nat) (x : SOpd) (lo hi mx : Option SOpd)
  | slarr (n size : Nat) (a : SOpd) (lo hi mx : Option SOpd)
  | fld (off : Nat) (a : SOpd)
  | idxS (size : Nat) (x i : SOpd)
  | idxA (n size : Nat) (a i : SOpd)
  | idxV1 (n : Nat) (x i : SOpd)
  | idxVN (n size : Nat) (x i : SOpd)
  | idxT (x i : SOpd)
  | part1 (off : Nat) (x : SOpd)
  | partN (off n : Nat) (x : SOpd)
  | extr (x : SOpd) (i : Nat)
  | call (f : Nat) (args : List SOpd)
  | callv (f : SOpd) (args : List SOpd)
  | append (size bytes : Nat) (x y : SOpd)
  | copy (size : Nat) (x y : SOpd)
  | lenS (x : SOpd)
  | lenT (x : SOpd)
  | lenM (x : SOpd)
  | mm (mx : Bool) (xs : List SOpd)
  | mark (x : SOpd)
  | tostr (x : SOpd)
  | clear (zs : List Value) (x : SOpd)
structure SOper where
  dst : Option Nat
  op : SOp
  guard : Option (Nat × Bool)
  uses : List Nat := []       -- for a region that draws its order: the slots that it reads,
  id : Nat := 0               -- its place in the text,
  pre : List Nat := []        -- the places of those that must stand ahead,
  lo : Nat := 0               -- between which states of memory it may come;
  hi : Nat := 0
  dep : List Nat := []        -- the places of those that make a block, or look at memory, and stand ahead
inductive SCode where
  | skip
  | reg (live : List Nat) (ops : List SOper)
  | qreg (live : List Nat) (ops : List SOper)
  | dreg (live : List Nat) (ops batch : List SOper)
  | seq (a b : SCode)
  | cond (c : SOpd) (a b : SCode)
  | block (id : Nat) (a : SCode)
  | loop (live : List Nat) (a : SCode)
  | exit (id : Nat)
  | ret
  | native (k : Nat)
inductive SRes where
  | tmp (t : Nat)
  | cell1 (t : Nat)
  | cellN (t n : Nat)
structure SFunc where
  nargs : Nat
  ntmps : Nat
  body : SCode
  results : List SRes
inductive SExit where
  | normal
  | exit (id : Nat)
  | ret
  deriving DecidableEq
inductive Out where
  | val (v : Value) (h : AH)
  | skip (h : AH)
  | call (f : Nat) (args : List Value)
def vals (ρ : SOpd → Option Value) : List SOpd → Option (List Value)
  | [] => some []
  | x :: r => match ρ x, vals ρ r with
    | some v, some l => some (v :: l)
    | _, _ => none
def vparts (ρ : SOpd → Option Value) : List (Nat × Nat × SOpd) → Option (List (Nat × Nat × Value))
  | [] => some []
  | (o, n, x) :: r => match ρ x, vparts ρ r with
    | some v, some l => some ((o, n, v) :: l)
    | _, _ => none
def optVal (ρ : SOpd → Option Value) : Option SOpd → Option (Option Value)
  | none => some none
  | some x => match ρ x with
    | some v => some (some v)
    | none => none
def vcells : Value → Option (List Value)
  | .agg cs => some cs.toList
  | .tuple _ => none
  | v => some [v]
def sint (op : BinOp) (k : IntKind) (a b : Int) : Option Value :=
  match op with
  | .add => some (.int k (k.wrap (a + b)))
  | .sub => some (.int k (k.wrap (a - b)))
  | .mul => some (.int k (k.wrap (a * b)))
  | .quo => if b = 0 then none else some (.int k (k.wrap (a.tdiv b)))
  | .rem => if b = 0 then none else some (.int k (a.tmod b))
  | .and => some (.int k (k.wrap (BitVec.ofInt k.bits a &&& BitVec.ofInt k.bits b).toNat))
  | .or => some (.int k (k.wrap (BitVec.ofInt k.bits a ||| BitVec.ofInt k.bits b).toNat))
  | .xor => some (.int k (k.wrap (BitVec.ofInt k.bits a ^^^ BitVec.ofInt k.bits b).toNat))
  | .andNot => some (.int k (k.wrap (BitVec.ofInt k.bits a &&& ~~~(BitVec.ofInt k.bits b)).toNat))
  | .eql => some (.bool (a == b))
  | .neq => some (.bool (a != b))
  | .lss => some (.bool (a < b))
  | .leq => some (.bool (a ≤ b))
  | .gtr => some (.bool (a > b))
  | .geq => some (.bool (a ≥ b))
  | _ => none
def sstr (op : BinOp) (x y : ByteArray) : Option Value :=
  match op with
  | .add => if ((x.size + y.size : Nat) : Int) > 9223372036854775807 then none else some (.string (x ++ y))
  | .eql => some (.bool (x.toList == y.toList))
  | .neq => some (.bool !(x.toList == y.toList))
  | .lss => some (.bool (Op.bytesLess x.toList y.toList))
  | .leq => some (.bool (Op.bytesLess x.toList y.toList || x.toList == y.toList))
  | .gtr => some (.bool !(Op.bytesLess x.toList y.toList || x.toList == y.toList))
  | .geq => some (.bool !(Op.bytesLess x.toList y.toList))
  | _ => none
def sbin (op : BinOp) (x y : Value) : Option Value :=
  match x, y with
  | .int k a, .int k' b =>
    match op with
    | .shl => if b < 0 then none else some (.int k (k.wrap (a * 2 ^ (min b.toNat k.bits))))
    | .shr => if b < 0 then none else some (.int k (a.fdiv (2 ^ (min b.toNat k.bits))))
    | _ => if k = k' then sint op k a b else none
  | .string a, .string b => sstr op a b
  | _, _ => none
def cellEq (k : Nat) (x y : Value) : Option Bool :=
  match k, x, y with
  | 0, .int k a, .int k' b => if k = k' then some (a == b) else none
  | 1, .bool a, .bool b => some (a == b)
  | 2, .string a, .string b => some (a.toList == b.toList)
  | _, _, _ => none
def cellsEq : List Nat → List Value → List Value → Option Bool
  | [], [], [] => some true
  | k :: ks, a :: x, b :: y => match cellEq k a b, cellsEq ks x y with
    | some p, some q => some (p && q)
    | _, _ => none
  | _, _, _ => none
def snil (k : Nat) (v : Value) : Option Bool :=
  match k, v with
  | 0, .pointer a => some a.isNone
  | 1, .slice a _ _ => some a.isNone
  | 2, .map r => some r.isNone
  | 3, .nilFunc => some true
  | 3, .func .. => some false
  | _, _ => none
def sun (op : UnOp) (x : Value) : Option Value :=
  match op, x with
  | .neg, .int k n => some (.int k (k.wrap (0 - n)))
  | .xor, .int k n => sint .xor k (if k.signed then -1 else k.max) n
  | .not, .bool b => some (.bool !b)
  | _, _ => none
def sbound (x : Value) (y : Nat) : Option Nat :=
  match x with
  | .int _ i => if 0 ≤ i ∧ i ≤ y then some i.toNat else none
  | _ => none
def sbounds (len cap : Nat) (lo hi mx : Option Value) : Option (Nat × Nat × Nat) :=
  match (match mx with | some v => sbound v cap | none => some cap) with
  | none => none
  | some m =>
    match (match hi, mx with | some v, _ => sbound v m | none, none => some len | none, some _ => none) with
    | none => none
    | some h =>
      match (match lo with | some v => sbound v h | none => some 0) with
      | none => none
      | some l => some (l, h, m)
def addrAdd (a : Addr) (n : Nat) : Addr := ⟨a.block, a.off + n, a.spot⟩
def sslice (size : Nat) (a : Option Addr) (len cap : Nat) (lo hi mx : Option Value) : Option Value :=
  match sbounds len cap lo hi mx with
  | none => none
  | some (l, h, m) =>
    match a with
    | none => some (.slice none (h - l) (m - l))
    | some a =>
      match a.spot with
      | none => some (.slice (some (if m = l then a else addrAdd a (l * size))) (h - l) (m - l))
      | some k =>
        if k = size then
          if mx.isSome ∧ cap ≠ 0 then some (.slice (some (if m = l then ⟨a.block, a.off, none⟩ else ⟨a.block, a.off + l * size, none⟩)) (h - l) (m - l))
          else some (.slice (some (addrAdd a (l * size))) (h - l) (m - l))
        else none
def firstOf (h : AH) (size n : Nat) : Value → Option (List Value)
  | .slice none _ _ => if n = 0 then some [] else none
  | .slice (some a) _ _ => h.load a.block a.off (n * size)
  | .string s => if size = 1 ∧ n ≤ s.size then some ((s.data.toList.take n).map fun b => .int .u8 b.toNat) else none
  | _ => none
def lenOf : Value → Option Nat
  | .slice _ n _ => some n
  | .string s => some s.size
  | _ => none
def sappend (h : AH) (size bytes : Nat) (x y : Value) : Option (Value × AH) :=
  match x, lenOf y with
  | .slice base len cap, some n =>
    match firstOf h size n y with
    | none => none
    | some new =>
      if (len + n) * bytes > 70368744177664 then none else
      match base with
      | none =>
        if len = 0 ∧ cap = 0 then
          if n = 0 then some (.slice none 0 0, h)
          else some (.slice (some ⟨h.next, 0, some size⟩) n n, h.alloc (.cells new true false))
        else none
      | some a =>
        if len + n ≤ cap then
          if n = 0 then some (.slice base len cap, h)
          else match h.store a.block (a.off + len * size) new with
            | some h' => some (.slice base (len + n) cap, h')
            | none => none
        else
          match h.load a.block a.off (len * size), h.get a.block with
          | some old, .cells _ _ ro =>
            match a.spot with
            | none => some (.slice (some ⟨h.next, 0, some size⟩) (len + n) (len + n), h.alloc (.cells (old ++ new) true false))
            | some k => if k = size ∧ ro = false then some (.slice (some ⟨h.next, 0, some size⟩) (len + n) (len + n), (h.put a.block .dead).alloc (.cells (old ++ new) true false)) else none
          | _, _ => none
  | _, _ => none
def scopy (h : AH) (size : Nat) (x y : Value) : Option (Value × AH) :=
  match x, lenOf y with
  | .slice base len _, some n =>
    match firstOf h size (min n len) y with
    | none => none
    | some new =>
      match base with
      | none => some (.int .i64 (min n len : Nat), h)
      | some a => if min n len = 0 then some (.int .i64 0, h) else match h.store a.block a.off new with
        | some h' => some (.int .i64 (min n len : Nat), h')
        | none => none
  | _, _ => none
def sfill : List (Nat × Nat × Value) → List Value → Option (List Value)
  | [], cs => some cs
  | (o, n, v) :: r, cs =>
    match vcells v with
    | some l => if l.length = n ∧ o + n ≤ cs.length then sfill r (splice cs o l) else none
    | none => none
def smm (mx : Bool) : Value → List Value → Option Value
  | v, [] => some v
  | .int k a, .int k' b :: r => if k = k' then smm mx (.int k (if mx then (if b > a then b else a) else (if b < a then b else a))) r else none
  | _, _ => none
def ptr : Value → Option (Nat × Nat)
  | .pointer (some ⟨b, o, none⟩) => some (b, o)
  | _ => none
def sop (G : SOp) (ρ : SOpd → Option Value) (h : AH) : Option Out :=
  match G with
  | .bad => none
  | .mov x => match ρ x with
    | some v => some (.val v h)
    | none => none
  | .pick c a b => match ρ c, ρ a, ρ b with
    | some (.bool t), some x, some y => some (.val (if t then x else y) h)
    | some (.bool true), some x, none => some (.val x h)
    | some (.bool false), none, some y => some (.val y h)
    | _, _, _ => none
  | .alloc zs => some (.val (.pointer (some ⟨h.next, 0, none⟩)) (h.alloc (.cells zs false false)))
  | .box x => match ρ x with
    | some v => match vcells v with
      | some cs => some (.val (.pointer (some ⟨h.next, 0, none⟩)) (h.alloc (.cells cs false false)))
      | none => none
    | none => none
  | .build zs ps => match vparts ρ ps with
    | some l => match sfill l zs with
      | some cs => some (.val (.agg cs.toArray) h)
      | none => none
    | none => none
  | .mkslice n zs ps => match vparts ρ ps with
    | some l => match sfill l zs with
      | some cs => some (.val (.slice (some ⟨h.next, 0, none⟩) n n) (h.alloc (.cells cs false false)))
      | none => none
    | none => none
  | .load1 a => match (ρ a).bind ptr with
    | some (b, o) => match h.load1 b o with
      | some v => some (.val v h)
      | none => none
    | none => none
  | .loadN n a => match (ρ a).bind ptr with
    | some (b, o) => match h.load b o n with
      | some cs => some (.val (.agg cs.toArray) h)
      | none => none
    | none => none
  | .store1 a x => match (ρ a).bind ptr, ρ x with
    | some (b, o), some v => match vcells v with
      | some [u] => match h.store1 b o u with
        | some h' => some (.skip h')
        | none => none
      | _ => none
    | _, _ => none
  | .storeN n a x => match (ρ a).bind ptr, ρ x with
    | some (b, o), some v => match vcells v with
      | some cs => if cs.length = n then match h.store b o cs with
        | some h' => some (.skip h')
        | none => none
        else none
      | none => none
    | _, _ => none
  | .nilchk x => match ρ x with
    | some (.pointer (some a)) => some (.val (.pointer (some a)) h)
    | _ => none
  | .bin op x y => match ρ x, ρ y with
    | some a, some b => match sbin op a b with
      | some v => some (.val v h)
      | none => none
    | _, _ => none
  | .eqB neg x y => match ρ x, ρ y with
    | some (.bool a), some (.bool b) => some (.val (.bool (if neg then !(a == b) else (a == b))) h)
    | _, _ => none
  | .eqN neg ks x y => match ρ x, ρ y with
    | some (.agg a), some (.agg b) => match cellsEq ks a.toList b.toList with
      | some t => some (.val (.bool (if neg then !t else t)) h)
      | none => none
    | _, _ => none
  | .isnil k neg x => match (ρ x).bind (snil k) with
    | some t => some (.val (.bool (if neg then !t else t)) h)
    | none => none
  | .un op x => match ρ x with
    | some a => match sun op a with
      | some v => some (.val v h)
      | none => none
    | none => none
  | .conv k x => match ρ x with
    | some (.int _ n) => some (.val (.int k (k.wrap n)) h)
    | _ => none
  | .mkfunc f first caps => match vals ρ first, vals ρ caps with
    | some a, some b => some (.val (.func (.func f) a.toArray b.toArray) h)
    | _, _ => none
  | .mkmap => some (.val (.map (some h.next)) (h.alloc (.map [] 0)))
  | .mkrow size bytes zs l c => match ρ l, ρ c with
    | some (.int _ l), some (.int _ c) =>
      if 0 ≤ l ∧ l ≤ c ∧ c * bytes ≤ 70368744177664 ∧ c ≤ 70368744177664 ∧ zs.length = size then
        some (.val (.slice (some ⟨h.next, 0, none⟩) l.toNat c.toNat) (h.alloc (.cells (List.replicate c.toNat zs).flatten false false)))
      else none
    | _, _ => none
  | .slstr x lo hi => match ρ x, optVal ρ lo, optVal ρ hi with
    | some (.string s), some lo, some hi => match sbounds s.size s.size lo hi none with
      | some (l, h', _) => some (.val (.string (s.extract l h')) h)
      | none => none
    | _, _, _ => none
  | .slsl size x lo hi mx => match ρ x, optVal ρ lo, optVal ρ hi, optVal ρ mx with
    | some (.slice a len cap), some lo, some hi, some mx => match sslice size a len cap lo hi mx with
      | some v => some (.val v h)
      | none => none
    | _, _, _, _ => none
  | .slarr n size a lo hi mx => match (ρ a).bind ptr, optVal ρ lo, optVal ρ hi, optVal ρ mx with
    | some (b, o), some lo, some hi, some mx => match sslice size (some ⟨b, o, none⟩) n n lo hi mx with
      | some v => some (.val v h)
      | none => none
    | _, _, _, _ => none
  | .fld off a => match (ρ a).bind ptr with
    | some (b, o) => some (.val (.pointer (some ⟨b, o + off, none⟩)) h)
    | none => none
  | .idxS size x i => match ρ x, ρ i with
    | some (.slice (some a) len _), some (.int _ i) =>
      if 0 ≤ i ∧ i < len then some (.val (.pointer (some ⟨a.block, a.off + i.toNat * size, none⟩)) h) else none
    | _, _ => none
  | .idxA n size a i => match (ρ a).bind ptr, ρ i with
    | some (b, o), some (.int _ i) =>
      if 0 ≤ i ∧ i < n then some (.val (.pointer (some ⟨b, o + i.toNat * size, none⟩)) h) else none
    | _, _ => none
  | .idxV1 n x i => match ρ x, ρ i with
    | some (.agg cs), some (.int _ i) => if 0 ≤ i ∧ i < n then match cs.toList[i.toNat]? with
      | some v => some (.val v h)
      | none => none
      else none
    | _, _ => none
  | .idxVN n size x i => match ρ x, ρ i with
    | some (.agg cs), some (.int _ i) =>
      if 0 ≤ i ∧ i < n then some (.val (.agg ((cs.toList.drop (i.toNat * size)).take size).toArray) h) else none
    | _, _ => none
  | .idxT x i => match ρ x, ρ i with
    | some (.string s), some (.int _ i) => if 0 ≤ i then match s.data.toList[i.toNat]? with
      | some b => some (.val (.int .u8 b.toNat) h)
      | none => none
      else none
    | _, _ => none
  | .part1 off x => match ρ x with
    | some (.agg cs) => match cs.toList[off]? with
      | some v => some (.val v h)
      | none => none
    | _ => none
  | .partN off n x => match ρ x with
    | some (.agg cs) => some (.val (.agg ((cs.toList.drop off).take n).toArray) h)
    | _ => none
  | .extr x i => match ρ x with
    | some (.tuple vs) => match vs.toList[i]? with
      | some v => some (.val v h)
      | none => none
    | _ => none
  | .call f args => match vals ρ args with
    | some l => some (.call f l)
    | none => none
  | .callv f args => match ρ f, vals ρ args with
    | some (.func (.func f) first caps), some l => some (.call f (first.toList ++ (l ++ caps.toList)))
    | _, _ => none
  | .append size bytes x y => match ρ x, ρ y with
    | some a, some b => match sappend h size bytes a b with
      | some (v, h') => some (.val v h')
      | none => none
    | _, _ => none
  | .copy size x y => match ρ x, ρ y with
    | some a, some b => match scopy h size a b with
      | some (v, h') => some (.val v h')
      | none => none
    | _, _ => none
  | .lenS x => match ρ x with
    | some (.slice _ n _) => some (.val (.int .i64 n) h)
    | _ => none
  | .lenT x => match ρ x with
    | some (.string s) => some (.val (.int .i64 s.size) h)
    | _ => none
  | .lenM x => match ρ x with
    | some (.map none) => some (.val (.int .i64 0) h)
    | some (.map (some r)) => match h.get r with
      | .map es _ => some (.val (.int .i64 es.length) h)
      | _ => none
    | _ => none
  | .mm mx xs => match vals ρ xs with
    | some (x :: r) => match smm mx x r with
      | some v => some (.val v h)
      | none => none
    | _ => none
  | .mark x => match ρ x with
    | some (.slice (some a) n c) => match h.get a.block with
      | .cells _ _ false => some (.val (.slice (some a) n c) h)
      | _ => none
    | _ => none
  | .clear zs x => match ρ x with
    | some (.slice (some a) n _) => if n = 0 then none else match h.store a.block a.off (Builtin.zeroCells zs.toArray n).toList with
      | some h' => some (.val (.tuple #[]) h')
      | none => none
    | _ => none
  | .tostr x => match ρ x with
    | some (.int _ n) => some (.val (.string (Utf8.encode n)) h)
    | _ => none
def gok (F : Fr) : Option (Nat × Bool) → Option Bool
  | none => some true
  | some (t, want) => match F.get t with
    | some (.bool b) => some (b == want)
    | some (.tuple _) => some false
    | _ => none
def SOp.quiet : SOp → Bool
  | .mov _ | .pick .. | .build .. | .nilchk _ | .bin .. | .eqB .. | .eqN .. | .isnil .. | .un .. | .conv .. | .mkfunc .. | .slstr .. | .slsl .. | .slarr ..
  | .fld .. | .idxS .. | .idxA .. | .idxV1 .. | .idxVN .. | .idxT .. | .part1 .. | .partN .. | .extr .. | .mm .. | .lenS _ | .lenT _ | .tostr _ => true
  | _ => false
def SOp.still : SOp → Bool
  | .load1 _ | .loadN .. | .lenM _ => true
  | o => o.quiet
def SOp.float : SOp → Bool
  | .alloc _ | .box _ | .mkslice .. | .mkmap | .mkrow .. => true
  | _ => false
def SOper.moves (o : SOper) : Bool := !o.op.still && !o.op.float
def SOper.slots (o : SOper) : List Nat := o.uses ++ o.dst.toList
structure Rec where
  id : Nat
  op : SOp
  F : Fr
  v : Value
  hi : Nat
def Rec.same (r : Rec) (h : AH) : Prop := sop r.op r.F.val h = some (.val r.v h)
def resultOf (F : Fr) (h : AH) : SRes → Option Value
  | .tmp t => F.get t
  | .cell1 t => match (F.get t).bind ptr with
    | some (b, o) => h.load1 b o
    | none => none
  | .cellN t n => match (F.get t).bind ptr with
    | some (b, o) => match h.load b o n with
      | some cs => some (.agg cs.toArray)
      | none => none
    | none => none
def resultsOf (F : Fr) (h : AH) : List SRes → Option (List Value)
  | [] => some []
  | r :: l => match resultOf F h r, resultsOf F h l with
    | some v, some vs => some (v :: vs)
    | _, _ => none
def oneOf : List Value → Value
  | [v] => v
  | vs => .tuple vs.toArray
structure St where
  b : Nat
  off : Nat
  cs : List Value
def St.fits (s : St) (h : AH) : Prop :=
  match h.get s.b with
  | .cells c _ ro => ro = false ∧ s.off + s.cs.length ≤ c.length
  | _ => False
def St.put (h : AH) (s : St) : AH :=
  match h.get s.b with
  | .cells c g ro => if s.off + s.cs.length ≤ c.length then h.put s.b (.cells (splice c s.off s.cs) g ro) else h
  | _ => h
def St.apart (s t : St) : Prop := s.b ≠ t.b ∨ s.off + s.cs.length ≤ t.off ∨ t.off + t.cs.length ≤ s.off
def stOf (o : SOper) (F : Fr) : Option St :=
  match o.op with
  | .store1 a x => match ((F.keep o.uses).val a).bind ptr, (F.keep o.uses).val x with
    | some (b, off), some v => match vcells v with
      | some [u] => some ⟨b, off, [u]⟩
      | _ => none
    | _, _ => none
  | .storeN n a x => match ((F.keep o.uses).val a).bind ptr, (F.keep o.uses).val x with
    | some (b, off), some v => match vcells v with
      | some cs => if cs.length = n then some ⟨b, off, cs⟩ else none
      | none => none
    | _, _ => none
  | _ => none
def stsOf (F : Fr) : List SOper → Option (List St)
  | [] => some []
  | o :: l => match stOf o F, stsOf F l with
    | some s, some r => some (s :: r)
    | _, _ => none
def stsOk (h : AH) : List St → Prop
  | [] => True
  | s :: l => s.fits h ∧ (∀ t ∈ l, s.apart t) ∧ stsOk h l
def Rec.apart (r : Rec) (s : St) : Prop :=
  match r.op with
  | .load1 a => match (r.F.val a).bind ptr with
    | some (b, o) => St.apart ⟨b, o, [.bool true]⟩ s
    | none => False
  | .loadN n a => match (r.F.val a).bind ptr with
    | some (b, o) => St.apart ⟨b, o, List.replicate n (.bool true)⟩ s
    | none => False
  | .lenM _ => True
  | _ => False
def crossOk (rs : List Rec) (fl : List (Nat × Nat × ABlk)) : List SOper → List St → Prop
  | o :: l, s :: ss => (∀ r ∈ rs, o.dep.contains r.id = true ∨ r.apart s) ∧ (∀ x ∈ fl, o.dep.contains x.1 = true ∨ s.b ≠ x.2.1) ∧ crossOk rs fl l ss
  | _, _ => True
def strsOf : List Value → Option (List ByteArray)
  | [] => some []
  | .string s :: l => match strsOf l with
    | some r => some (s :: r)
    | none => none
  | _ => none
def joinOf (xs : List ByteArray) (sep : ByteArray) : List UInt8 := sep.data.toList.intercalate (xs.map (·.data.toList))
def decF : Nat → Nat → List UInt8
  | 0, u => [UInt8.ofNat (48 + u)]
  | f + 1, u => if u < 10 then [UInt8.ofNat (48 + u)] else decF f (u / 10) ++ [UInt8.ofNat (48 + u % 10)]
def itoaF (n : Int) : List UInt8 := if n < 0 then 45 :: decF 20 n.natAbs else decF 20 n.toNat
def natOf (k : Nat) (h : AH) (args : List Value) : Option Value :=
  match k, args with
  | 2, [.slice (some a) n c, .string sep] => match h.load a.block a.off n with
    | some cs => match strsOf cs with
      | some xs => if n ≤ c ∧ n ≤ 1000000 ∧ 0 < n ∧ (joinOf xs sep).length ≤ 1000000 then some (.string ⟨(joinOf xs sep).toArray⟩) else none
      | none => none
    | none => none
  | 3, [.int .i64 n, .int .i64 b] => if b = 10 ∧ -9223372036854775808 ≤ n ∧ n ≤ 9223372036854775807 then some (.string ⟨(itoaF n).toArray⟩) else none
  | 0, [.int .u64 x] => if 0 ≤ x ∧ x < 18446744073709551616 then some (.int .i64 (Lib.ctz 64 x.toNat)) else none
  | 1, [.int .u32 x] => if 0 ≤ x ∧ x < 4294967296 then some (.int .i64 (Lib.ctz 32 x.toNat)) else none
  | _, _ => none
def natHeap (k : Nat) (h : AH) (args : List Value) : Option (Value × AH) :=
  match k, args with
  | 4, [.slice none l c, .func (.func f) a b] =>
    match a.toList, b.toList with
    | [], [.pointer (some p)] =>
      if f = 152 ∧ l = 0 ∧ c = 0 then match h.load1 p.block p.off with
        | some (.slice (some q) 1 _) => match h.load1 q.block q.off with
          | some (.int .i64 x) => some (.slice (some ⟨h.next, 0, some 1⟩) 1 1, h.alloc (.cells [.int .i64 x] true false))
          | _ => none
        | _ => none
      else none
    | _, _ => none
  | _, _ => none
inductive Job where
  | code (c : SCode) (F : Fr) (h : AH)
  | ops (l : List SOper) (F : Fr) (h : AH)
  | qops (l : List SOper) (F : Fr) (h : AH)
  | dops (l batch : List SOper) (F : Fr) (h : AH) (past : List AH) (rs : List Rec) (fl : List (Nat × Nat × ABlk))
  | call (f : Nat) (args : List Value) (h : AH)
inductive Res where
  | code (e : SExit) (F : Fr) (h : AH)
  | ops (F : Fr) (h : AH)
  | val (v : Value) (h : AH)
def look (acc : List (Nat × Nat)) (j : Nat) : Nat := (acc.lookup j).getD 0
def ancStep (acc : List (Nat × Nat)) (o : SOper) : List (Nat × Nat) := (o.id, o.pre.foldl (fun s j => s ||| 2 ^ j ||| look acc j) 0) :: acc
def ancs (l : List SOper) : List (Nat × Nat) := l.foldl ancStep []
def ahead (A : List (Nat × Nat)) (i j : Nat) : Bool := (look A i).testBit j
def clash (o p : SOper) : Bool := (o.dst.toList.any fun d => p.slots.contains d) || (p.dst.toList.any fun d => o.slots.contains d)
def loOf (l : List SOper) (A : List (Nat × Nat)) (i : Nat) : Nat := (l.filter fun p => p.moves && ahead A i p.id).length
def hiOf (l : List SOper) (A : List (Nat × Nat)) (i : Nat) : Nat := (l.filter fun p => p.moves && !ahead A p.id i).length
def pairOk (A : List (Nat × Nat)) (o p : SOper) : Bool :=
  ahead A p.id o.id || (!clash o p && !(o.moves && p.moves) && !(o.moves && p.op.float))
def pairsOk (A : List (Nat × Nat)) : List SOper → Bool
  | [] => true
  | o :: l => l.all (pairOk A o) && pairsOk A l
def idsOk : List SOper → Bool
  | [] => true
  | o :: l => o.pre.all (· < o.id) && l.all (fun p => p.id != o.id) && idsOk l
def byId (l : List SOper) : List SOper := (List.range l.length).filterMap fun i => l.find? (·.id == i)
def dcheck (l batch : List SOper) : Bool :=
  let A := ancs (byId (l ++ batch))
  idsOk (l ++ batch) && pairsOk A l &&
  (batch.all fun p => p.dst.isNone && p.guard.isNone && p.dep.all (ahead A p.id ·) && l.all fun o => ahead A p.id o.id || (!clash o p && !o.moves)) &&
  (l.all fun o => (o.moves || o.op.quiet || o.op.float || (decide (o.lo ≤ loOf l A o.id) && decide (hiOf l A o.id ≤ o.hi))) && o.dep.all (ahead A o.id ·))
inductive Run (G : Nat → SFunc) : Job → Res → Prop
  | skip {F : Fr} {h : AH} : Run G (.code .skip F h) (.code .normal F h)
  | ret {F : Fr} {h : AH} : Run G (.code .ret F h) (.code .ret F h)
  | exit {id : Nat} {F : Fr} {h : AH} : Run G (.code (.exit id) F h) (.code (.exit id) F h)
  | seqN {a b : SCode} {F F1 : Fr} {h h1 : AH} {r : Res} : Run G (.code a F h) (.code .normal F1 h1) → Run G (.code b F1 h1) r → Run G (.code (.seq a b) F h) r
  | seqE {a b : SCode} {F F1 : Fr} {h h1 : AH} {e : SExit} : Run G (.code a F h) (.code e F1 h1) → e ≠ .normal → Run G (.code (.seq a b) F h) (.code e F1 h1)
  | cond {c : SOpd} {t : Bool} {a b : SCode} {F : Fr} {h : AH} {r : Res} : F.val c = some (.bool t) → Run G (.code (if t then a else b) F h) r → Run G (.code (.cond c a b) F h) r
  | block {id : Nat} {a : SCode} {F F1 : Fr} {h h1 : AH} {e : SExit} : Run G (.code a F h) (.code e F1 h1) → Run G (.code (.block id a) F h) (.code (if e = .exit id then .normal else e) F1 h1)
  | loopN {live : List Nat} {a : SCode} {F F1 : Fr} {h h1 : AH} {r : Res} : Run G (.code a (F.keep live) h) (.code .normal F1 h1) → Run G (.code (.loop live a) F1 h1) r → Run G (.code (.loop live a) F h) r
  | loopE {live : List Nat} {a : SCode} {F F1 : Fr} {h h1 : AH} {e : SExit} : Run G (.code a (F.keep live) h) (.code e F1 h1) → e ≠ .normal → Run G (.code (.loop live a) F h) (.code e F1 h1)
  | reg {live : List Nat} {l : List SOper} {F F1 : Fr} {h h1 : AH} : Run G (.ops l F h) (.ops F1 h1) → Run G (.code (.reg live l) F h) (.code .normal (F1.keep live) h1)
  | qreg {live : List Nat} {l : List SOper} {F F1 : Fr} {h h1 : AH} : Run G (.qops l F h) (.ops F1 h1) → Run G (.code (.qreg live l) F h) (.code .normal (F1.keep live) h1)
  | dreg {live : List Nat} {l batch : List SOper} {F F1 : Fr} {h h1 : AH} : Run G (.dops l batch F h [] [] []) (.ops F1 h1) → Run G (.code (.dreg live l batch) F h) (.code .normal (F1.keep live) h1)
  | nil {F : Fr} {h : AH} : Run G (.ops [] F h) (.ops F h)
  | off {o : SOper} {l : List SOper} {F : Fr} {h : AH} {r : Res} : gok F o.guard = some false → Run G (.ops l (F.undo o.dst) h) r → Run G (.ops (o :: l) F h) r
  | val {o : SOper} {l : List SOper} {F : Fr} {h h1 : AH} {v : Value} {r : Res} : gok F o.guard = some true → sop o.op F.val h = some (.val v h1) →
      Run G (.ops l (F.put o.dst v) h1) r → Run G (.ops (o :: l) F h) r
  | stp {o : SOper} {l : List SOper} {F : Fr} {h h1 : AH} {r : Res} : gok F o.guard = some true → sop o.op F.val h = some (.skip h1) →
      Run G (.ops l (F.unput o.dst) h1) r → Run G (.ops (o :: l) F h) r
  | call {o : SOper} {l : List SOper} {F : Fr} {h h1 : AH} {f : Nat} {args : List Value} {v : Value} {r : Res} : gok F o.guard = some true → sop o.op F.val h = some (.call f args) →
      Run G (.call f args h) (.val v h1) → Run G (.ops l (F.put o.dst v) h1) r → Run G (.ops (o :: l) F h) r
  | qnil {F : Fr} {h : AH} : Run G (.qops [] F h) (.ops F h)
  | qoff {o : SOper} {l : List SOper} {F : Fr} {h : AH} {r : Res} : gok (F.keep o.uses) o.guard = some false → Run G (.qops l (F.unput o.dst) h) r → Run G (.qops (o :: l) F h) r
  | qval {o : SOper} {l : List SOper} {F : Fr} {h : AH} {v : Value} {r : Res} : gok (F.keep o.uses) o.guard = some true → sop o.op (F.keep o.uses).val h = some (.val v h) →
      Run G (.qops l (F.put o.dst v) h) r → Run G (.qops (o :: l) F h) r
  | dnil {batch : List SOper} {F : Fr} {h : AH} {past : List AH} {rs : List Rec} {fl : List (Nat × Nat × ABlk)} {ss : List St} : (∀ x ∈ rs, past.length ≤ x.hi → x.same h) →
      stsOf F batch = some ss → stsOk h ss → crossOk rs fl batch ss → Run G (.dops [] batch F h past rs fl) (.ops F (ss.foldl St.put h))
  | doff {o : SOper} {l batch : List SOper} {F : Fr} {h : AH} {past : List AH} {rs : List Rec} {fl : List (Nat × Nat × ABlk)} {r : Res} : o.moves = false → gok (F.keep o.uses) o.guard = some false →
      Run G (.dops l batch (F.unput o.dst) h past rs fl) r → Run G (.dops (o :: l) batch F h past rs fl) r
  | dquiet {o : SOper} {l batch : List SOper} {F : Fr} {h : AH} {past : List AH} {rs : List Rec} {fl : List (Nat × Nat × ABlk)} {v : Value} {r : Res} : o.op.quiet = true → gok (F.keep o.uses) o.guard = some true →
      sop o.op (F.keep o.uses).val h = some (.val v h) → Run G (.dops l batch (F.put o.dst v) h past rs fl) r → Run G (.dops (o :: l) batch F h past rs fl) r
  | dstill {o : SOper} {l batch : List SOper} {F : Fr} {h : AH} {past : List AH} {rs : List Rec} {fl : List (Nat × Nat × ABlk)} {v : Value} {r : Res} : o.op.still = true → o.op.quiet = false →
      gok (F.keep o.uses) o.guard = some true → sop o.op (F.keep o.uses).val h = some (.val v h) → (∀ x ∈ past.take (past.length - o.lo), Rec.same ⟨o.id, o.op, F.keep o.uses, v, o.hi⟩ x) →
      Run G (.dops l batch (F.put o.dst v) h past (⟨o.id, o.op, F.keep o.uses, v, o.hi⟩ :: rs) fl) r → Run G (.dops (o :: l) batch F h past rs fl) r
  | dfloat {o : SOper} {l batch : List SOper} {F : Fr} {h : AH} {past : List AH} {rs : List Rec} {fl : List (Nat × Nat × ABlk)} {v : Value} {blk : ABlk} {r : Res} : o.op.float = true →
      gok (F.keep o.uses) o.guard = some true → sop o.op (F.keep o.uses).val h = some (.val v (h.alloc blk)) →
      Run G (.dops l batch (F.put o.dst v) (h.alloc blk) past rs ((o.id, h.next, blk) :: fl)) r → Run G (.dops (o :: l) batch F h past rs fl) r
  | dval {o : SOper} {l batch : List SOper} {F : Fr} {h h1 : AH} {past : List AH} {rs : List Rec} {fl : List (Nat × Nat × ABlk)} {v : Value} {r : Res} : o.moves = true → gok (F.keep o.uses) o.guard = some true →
      (∀ x ∈ rs, past.length ≤ x.hi → x.same h) → sop o.op (F.keep o.uses).val h = some (.val v h1) → (∀ x ∈ fl, o.dep.contains x.1 = true ∨ h1.get x.2.1 = x.2.2) →
      Run G (.dops l batch (F.put o.dst v) h1 (h :: past) rs fl) r → Run G (.dops (o :: l) batch F h past rs fl) r
  | dstp {o : SOper} {l batch : List SOper} {F : Fr} {h h1 : AH} {past : List AH} {rs : List Rec} {fl : List (Nat × Nat × ABlk)} {r : Res} : o.moves = true → gok (F.keep o.uses) o.guard = some true →
      (∀ x ∈ rs, past.length ≤ x.hi → x.same h) → sop o.op (F.keep o.uses).val h = some (.skip h1) → (∀ x ∈ fl, o.dep.contains x.1 = true ∨ h1.get x.2.1 = x.2.2) →
      Run G (.dops l batch (F.unput o.dst) h1 (h :: past) rs fl) r → Run G (.dops (o :: l) batch F h past rs fl) r
  | dskip {o : SOper} {l batch : List SOper} {F : Fr} {h : AH} {past : List AH} {rs : List Rec} {fl : List (Nat × Nat × ABlk)} {r : Res} : o.moves = true → gok (F.keep o.uses) o.guard = some false →
      (∀ x ∈ rs, past.length ≤ x.hi → x.same h) → (∀ x ∈ fl, o.dep.contains x.1 = true ∨ h.get x.2.1 = x.2.2) →
      Run G (.dops l batch (F.unput o.dst) h (h :: past) rs fl) r → Run G (.dops (o :: l) batch F h past rs fl) r
  | dcall {o : SOper} {l batch : List SOper} {F : Fr} {h h1 : AH} {past : List AH} {rs : List Rec} {fl : List (Nat × Nat × ABlk)} {f : Nat} {args : List Value} {v : Value} {r : Res} : o.moves = true → gok (F.keep o.uses) o.guard = some true →
      (∀ x ∈ rs, past.length ≤ x.hi → x.same h) → sop o.op (F.keep o.uses).val h = some (.call f args) → Run G (.call f args h) (.val v h1) → (∀ x ∈ fl, o.dep.contains x.1 = true ∨ h1.get x.2.1 = x.2.2) →
      Run G (.dops l batch (F.put o.dst v) h1 (h :: past) rs fl) r → Run G (.dops (o :: l) batch F h past rs fl) r
  | enter {f : Nat} {args : List Value} {F1 : Fr} {h h1 : AH} {e : SExit} {vs : List Value} : args.length = (G f).nargs → Run G (.code (G f).body (Fr.from 0 args) h) (.code e F1 h1) →
      (e = .normal ∨ e = .ret) → resultsOf F1 h1 (G f).results = some vs → Run G (.call f args h) (.val (oneOf vs) h1)
  | native {f k : Nat} {args : List Value} {h : AH} {v : Value} : (G f).body = .native k → natOf k h args = some v → Run G (.call f args h) (.val v h)
  | nativeA {f k : Nat} {args : List Value} {h h1 : AH} {v : Value} : (G f).body = .native k → natHeap k h args = some (v, h1) → Run G (.call f args h) (.val v h1)
theorem still_out {op : SOp} {ρ : SOpd → Option Value} {h : AH} {o : Out} (hs : op.still = true) (H : sop op ρ h = some o) : ∃ v, o = .val v h := by
  cases op <;> simp [SOp.still, SOp.quiet] at hs <;> simp only [sop] at H <;> (repeat' split at H) <;> first | (simp only [Option.some.injEq] at H; exact ⟨_, H.symm⟩) | simp at H
theorem float_out {op : SOp} {ρ : SOpd → Option Value} {h : AH} {o : Out} (hs : op.float = true) (H : sop op ρ h = some o) : ∃ v blk, o = .val v (h.alloc blk) := by
  cases op <;> simp [SOp.float] at hs <;> simp only [sop] at H <;> (repeat' split at H) <;> first | (simp only [Option.some.injEq] at H; exact ⟨_, _, H.symm⟩) | simp at H
def zk (n : Nat) : List Nat := List.replicate n 0
def zi (n : Nat) : List Value := List.replicate n (.int .i64 0)
end Go.Jq
namespace Go.Jq
abbrev o_ (d : Nat) (x : SOp) : SOper := ⟨some d, x, none, [], 0, [], 0, 0, []⟩
abbrev n_ (x : SOp) : SOper := ⟨none, x, none, [], 0, [], 0, 0, []⟩
abbrev g_ (d t : Nat) (w : Bool) (x : SOp) : SOper := ⟨some d, x, some (t, w), [], 0, [], 0, 0, []⟩
abbrev t_ (n : Nat) : SOpd := .tmp n
abbrev k_ (n : Int) : SOpd := .const (.int .i64 n)
def zu (n : Nat) : List Value := List.replicate n (.int .u64 0)
def zrel : List Value := .int .i64 0 :: zu 64
end Go.Jq
