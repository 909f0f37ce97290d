/- From the model's code to the small code. -/
import Derived.Test.YtmaemogjdnlcoaaDoorM0
set_option linter.unusedSimpArgs false
set_option linter.unusedVariables false
namespace Go.Jq

def plain1 : Value → Bool
  | .bool _ | .int .. | .string _ | .pointer none | .slice none 0 0 | .map none | .nilFunc => true
  | _ => false
def plainV : Value → Bool
  | .agg cs => cs.toList.all plain1
  | v => plain1 v

def aggD : TypeDesc → Bool
  | .struct _ | .array .. => true
  | _ => false

section
variable (P : Program) (ψ : FuncId → Option Nat)

def cOpd : Operand → Option SOpd
  | .tmp t => some (.tmp t)
  | .const v => if plainV v then some (.const v) else none
  | .func f => (ψ f).map .func
  | .global _ => none
def cOpds : List Operand → Option (List SOpd)
  | [] => some []
  | x :: r => match cOpd ψ x, cOpds r with
    | some a, some l => some (a :: l)
    | _, _ => none
def cOpt : Option Operand → Option (Option SOpd)
  | none => some none
  | some x => (cOpd ψ x).map some

def tsize (t : TypeId) : Option Nat := (P.info? t).map (·.size)
def tbytes (t : TypeId) : Option Nat := (P.info? t).map (·.bytes)
/-- The zero value's cells: plain ones. -/
def tzero (t : TypeId) : Option (List Value) :=
  match P.info? t with
  | some i => match i.zero with
    | some z => match vcells z with
      | some cs => if cs.all plain1 && cs.length == i.size then some cs else none
      | none => none
    | none => none
  | none => none

/-- The kinds of the cells of a type whose values are compared cell by cell. -/
def kindsF (f : TypeId → Option (List Nat)) : List Field → Nat → Option (List Nat)
  | [], _ => some []
  | g :: l, off => match f g.type with
    | some ks => if g.name != "_" && g.offset == off then (kindsF f l (off + ks.length)).map (ks ++ ·) else none
    | none => none
def kindsT : Nat → TypeId → Option (List Nat)
  | 0, _ => none
  | d + 1, t => match P.underlying t, tsize P t with
    | some (.int _), some 1 => some [0]
    | some .bool, some 1 => some [1]
    | some .string, some 1 => some [2]
    | some (.struct fs), some s => if P.stoodInHeld t then none else match kindsF (kindsT d) fs.toList 0 with
      | some ks => if ks.length = s then some ks else none
      | none => none
    | some (.array n e), some s => match kindsT d e with
      | some ks => if s = n * ks.length ∧ tsize P e = some ks.length then some (List.replicate n ks).flatten else none
      | none => none
    | _, _ => none

def cParts (place : Nat → Option (Nat × Nat)) : List (Nat × Operand) → Option (List (Nat × Nat × SOpd))
  | [] => some []
  | (i, x) :: r => match place i, cOpd ψ x, cParts place r with
    | some (o, n), some a, some l => some ((o, n, a) :: l)
    | _, _, _ => none

def isNil (k : Nat) (x : Operand) : Bool :=
  match k, x with
  | 0, .const (.pointer none) | 1, .const (.slice none _ _) | 2, .const (.map none) | 3, .const .nilFunc => true
  | _, _ => false
def nilKind : TypeDesc → Option Nat
  | .pointer _ => some 0
  | .slice _ => some 1
  | .map .. => some 2
  | .func .. => some 3
  | _ => none

def isNeq : BinOp → Bool
  | .neq => true
  | _ => false

def cBin (op : BinOp) (t : TypeId) (x y : Operand) : Option SOp := do
  let a ← cOpd ψ x
  let b ← cOpd ψ y
  match op with
  | .eql | .neq =>
    match P.underlying t with
    | some (.int _) | some .string => some (.bin op a b)
    | some .bool => some (.eqB (isNeq op) a b)
    | some (.struct _) | some (.array ..) =>
      match kindsT P 20 t with
      | some ks => if P.eqGuardType P.depth t then none else some (.eqN (isNeq op) ks a b)
      | none => none
    | some d => match nilKind d with
      | some k => if isNil k y then some (.isnil k (isNeq op) a) else if isNil k x then some (.isnil k (isNeq op) b) else none
      | none => none
    | none => none
  | _ => match P.underlying t with
    | some (.int _) | some .string => some (.bin op a b)
    | _ => none

def cOp (o : Oper) : Option SOp :=
  match o.op with
  | .move x | .assign x => (cOpd ψ x).map .mov
  | .pick c a b => do some (.pick (← cOpd ψ c) (← cOpd ψ a) (← cOpd ψ b))
  | .alloc t => (tzero P t).map .alloc
  | .box _ x => (cOpd ψ x).map .box
  | .build t ps => do
    let zs ← tzero P t
    match P.underlying t with
    | some (.struct fs) => do
      let l ← cParts ψ (fun i => (fs[i]?).bind fun f => (tsize P f.type).map fun n => (f.offset, n)) ps.toList
      if fs.toList.all (fun f => (tsize P f.type).isSome) then some (.build zs l) else none
    | some (.array _ e) => do
      let n ← tsize P e
      let l ← cParts ψ (fun i => some (i * n, n)) ps.toList
      some (.build zs l)
    | _ => none
  | .buildSlice t len ps =>
    match P.underlying t with
    | some (.slice e) => do
      let n ← tsize P e
      let zs ← tzero P e
      let l ← cParts ψ (fun i => some (i * n, n)) ps.toList
      if len * n ≤ 4096 ∧ n ≠ 0 then some (.mkslice len (List.replicate len zs).flatten l) else none
    | _ => none
  | .load t a => do
    let d ← P.underlying t
    let n ← tsize P t
    let a ← cOpd ψ a
    if aggD d then some (.loadN n a) else some (.load1 a)
  | .store t a x => do
    let n ← tsize P t
    let a ← cOpd ψ a
    let x ← cOpd ψ x
    if n = 1 then some (.store1 a x) else some (.storeN n a x)
  | .nilCheck x => (cOpd ψ x).map .nilchk
  | .binOp op t x y _ => cBin P ψ op t x y
  | .unOp op _ x => (cOpd ψ x).map (.un op)
  | .convert s t x =>
    match P.underlying s, P.underlying t with
    | some (.int _), some (.int k) => (cOpd ψ x).map (.conv k)
    | some (.int _), some .string => (cOpd ψ x).map .tostr
    | some (.slice _), some (.slice e) => match P.underlying e with
      | some (.int .u8) => if s = t then (cOpd ψ x).map .mark else none
      | _ => none
    | _, _ => none
  | .makeFunc (.func f) first caps => do some (.mkfunc (← ψ f) (← cOpds ψ first.toList) (← cOpds ψ caps.toList))
  | .makeMap _ none => some .mkmap
  | .makeSlice t l c =>
    match P.underlying t with
    | some (.slice e) => do
      let n ← tsize P e
      let b ← tbytes P e
      let zs ← tzero P e
      if n ≠ 0 then some (.mkrow n b zs (← cOpd ψ l) (← cOpd ψ c)) else none
    | _ => none
  | .slice t x lo hi mx => do
    let d ← P.underlying t
    let x ← cOpd ψ x
    let lo ← cOpt ψ lo
    let hi ← cOpt ψ hi
    let mx ← cOpt ψ mx
    match d with
    | .string => if mx.isNone then some (.slstr x lo hi) else none
    | .slice e => do some (.slsl (← tsize P e) x lo hi mx)
    | .array n e => do some (.slarr n (← tsize P e) x lo hi mx)
    | _ => none
  | .fieldAddr s x i =>
    match P.underlying s with
    | some (.struct fs) => do
      let f ← fs[i]?
      let n ← tsize P f.type
      if n ≠ 0 then some (.fld f.offset (← cOpd ψ x)) else none
    | _ => none
  | .field s x i =>
    match P.underlying s with
    | some (.struct fs) => do
      let f ← fs[i]?
      let n ← tsize P f.type
      let d ← P.underlying f.type
      if aggD d then some (.partN f.offset n (← cOpd ψ x)) else some (.part1 f.offset (← cOpd ψ x))
    | _ => none
  | .indexAddr t x i =>
    match P.underlying t with
    | some (.slice e) => do some (.idxS (← tsize P e) (← cOpd ψ x) (← cOpd ψ i))
    | some (.array n e) => do some (.idxA n (← tsize P e) (← cOpd ψ x) (← cOpd ψ i))
    | _ => none
  | .index t x i =>
    match P.underlying t with
    | some .string => do some (.idxT (← cOpd ψ x) (← cOpd ψ i))
    | some (.array n e) => do
      let s ← tsize P e
      let d ← P.underlying e
      if aggD d then some (.idxVN n s (← cOpd ψ x) (← cOpd ψ i)) else if s = 1 then some (.idxV1 n (← cOpd ψ x) (← cOpd ψ i)) else none
    | _ => none
  | .extract x i => do some (.extr (← cOpd ψ x) i)
  | .call c =>
    match c.callee with
    | .value (.func f) => do some (.call (← ψ f) (← cOpds ψ c.args.toList))
    | .value f => do some (.callv (← cOpd ψ f) (← cOpds ψ c.args.toList))
    | .builtin .append =>
      match c.argTypes.toList, c.args.toList with
      | [t, u], [x, y] =>
        match P.underlying t, P.underlying u with
        | some (.slice e), some (.slice _) | some (.slice e), some .string => do
          let n ← tsize P e
          let b ← tbytes P e
          let z ← tzero P e
          if n ≠ 0 ∧ b ≠ 0 ∧ b ≤ 65536 ∧ z.length = n then some (.append n b (← cOpd ψ x) (← cOpd ψ y)) else none
        | _, _ => none
      | _, _ => none
    | .builtin .copy =>
      match c.argTypes.toList, c.args.toList with
      | [t, _], [x, y] =>
        match P.underlying t with
        | some (.slice e) => do some (.copy (← tsize P e) (← cOpd ψ x) (← cOpd ψ y))
        | _ => none
      | _, _ => none
    | .builtin .len =>
      match c.argTypes.toList, c.args.toList with
      | [t], [x] =>
        match P.underlying t with
        | some .string => (cOpd ψ x).map .lenT
        | some (.slice _) => (cOpd ψ x).map .lenS
        | some (.map ..) => (cOpd ψ x).map .lenM
        | _ => none
      | _, _ => none
    | .builtin .clear =>
      match c.argTypes.toList, c.args.toList with
      | [t], [x] =>
        match P.underlying t with
        | some (.slice e) => do some (.clear (← tzero P e) (← cOpd ψ x))
        | _ => none
      | _, _ => none
    | .builtin .min => do some (.mm false (← cOpds ψ c.args.toList))
    | .builtin .max => do some (.mm true (← cOpds ψ c.args.toList))
    | _ => none
  | _ => none

def opdSlots : SOpd → List Nat
  | .tmp t => [t]
  | _ => []

def cGuard (ops : Array Oper) : Option (Nat × Bool) → Option (Option (Nat × Bool))
  | none => some none
  | some (j, want) => match (ops[j]?).bind (·.dst) with
    | some d => some (some (d, want))
    | none => none

def isStore : SOp → Bool
  | .store1 .. | .storeN .. => true
  | _ => false
def cOper (N : Nat) (ops : Array Oper) (o : Oper) : Option SOper :=
  match cGuard ops o.guard with
  | none => none
  | some g =>
    if o.dst.toList.all (· < N) = true ∧ (!isStore ((cOp P ψ o).getD .bad) || o.dst.isNone) = true then some { dst := o.dst, op := (cOp P ψ o).getD .bad, guard := g } else none
def cOpers (N : Nat) (ops : Array Oper) : List Oper → Option (List SOper)
  | [] => some []
  | o :: r => match cOper P ψ N ops o, cOpers N ops r with
    | some a, some l => some (a :: l)
    | _, _ => none

def operSlots (o : Oper) : List Nat := o.op.operands.toList.filterMap fun | .tmp t => some t | _ => none
def dOper (o : Oper) (s : SOper) (i : Nat) : SOper :=
  { s with uses := operSlots o ++ (s.guard.toList.map (·.1)), id := i, pre := (o.after.toList.filter (Region.binds .any)).map (·.on) }
/-- those that are ready, by their own rank: first what looks at memory or leaves it alone or makes a block, then what turns it -/
def dSort (rank : SOper → Nat) : Nat → List SOper → List Nat → List SOper
  | 0, _, _ => []
  | n + 1, l, seen =>
    let ready := l.filter fun o => o.pre.all seen.contains
    match (ready.find? fun o => rank o == 0).orElse fun _ => (ready.find? fun o => rank o == 1).orElse fun _ => ready.head? with
    | some o => o :: dSort rank n (l.filter fun p => p.id != o.id) (o.id :: seen)
    | none => []
/-- the stores behind which nothing stands that looks at memory, turns it, or makes a block -/
def isLast (A : List (Nat × Nat)) (l : List SOper) (o : SOper) : Bool := isStore o.op && o.guard.isNone && l.all fun p => isStore p.op || p.op.quiet || !ahead A p.id o.id
def dBounds (l batch : List SOper) : List SOper × List SOper :=
  let A := ancs (byId (l ++ batch))
  let fs := (l.filter (·.op.float)).map (·.id)
  let rs := (l.filter fun o => o.op.float || (o.op.still && !o.op.quiet)).map (·.id)
  (l.map fun o => if o.moves then { o with dep := fs.filter (ahead A o.id ·) } else if o.op.quiet || o.op.float then o else { o with lo := loOf l A o.id, hi := hiOf l A o.id },
   batch.map fun o => { o with dep := rs.filter (ahead A o.id ·) })
def dSplit (ops : Array Oper) (l : List SOper) : SCode :=
  let l := ((ops.toList.zip l).zipIdx).map fun ((o, s), i) => dOper o s i
  if l.all (fun o => o.op.still) then .qreg [] l else
  let A := ancs l
  let b := l.filter (isLast A l)
  let l := dSort (fun o => if o.moves then 1 else 0) l.length (l.filter fun o => !isLast A l o) (b.map (·.id))
  let (l, b) := dBounds l b
  .dreg [] l b
/-- the row of places is one of all places, each once -/
def placesOk (n : Nat) (l : List SOper) : Bool := l.length == n && (List.range n).all fun i => l.any (·.id == i)

def cCode (N : Nat) : Code → List (List Nat) → Option (SCode × List (List Nat))
  | .skip, ls | .label _, ls => some (.skip, ls)
  | .region _ ops draw, lv :: ls =>
    match cOpers P ψ N ops ops.toList with
    | some l =>
      if draw then
        if !P.follows .mixedOrders then none else
        match dSplit ops l with
        | .qreg _ l' => if dcheck l' [] && placesOk ops.size l' && l'.all (·.op.still) then some (.qreg lv l', ls) else none
        | .dreg _ l' b => if dcheck l' b && placesOk ops.size (l' ++ b) then some (.dreg lv l' b, ls) else none
        | _ => none
      else some (.reg lv l, ls)
    | none => none
  | .seq a b, ls => match cCode N a ls with
    | some (x, ls) => match cCode N b ls with
      | some (y, ls) => some (.seq x y, ls)
      | none => none
    | none => none
  | .cond c a b, ls => match cOpd ψ c, cCode N a ls with
    | some c, some (x, ls) => match cCode N b ls with
      | some (y, ls) => some (.cond c x y, ls)
      | none => none
    | _, _ => none
  | .block id a, ls => match cCode N a ls with
    | some (x, ls) => some (.block id x, ls)
    | none => none
  | .loop a, l :: ls => match cCode N a ls with
    | some (x, ls) => some (.loop l x, ls)
    | none => none
  | .exit id, ls => some (.exit id, ls)

  | .ret, ls => some (.ret, ls)
  | _, _ => none

def cRes (N : Nat) : List ResultVar → Option (List SRes)
  | [] => some []
  | .tmp t :: r => match cRes N r with
    | some l => if t < N then some (.tmp t :: l) else none
    | none => none
  | .cell a t :: r => match P.underlying t, tsize P t, cRes N r with
    | some d, some n, some l => some ((if aggD d then .cellN a n else .cell1 a) :: l)
    | _, _, _ => none

def cFunc (fn : Func) (ls : List (List Nat)) : Option SFunc :=
  match fn.body with
  | some c =>
    match cCode P ψ fn.ntmps c ls, cRes P fn.ntmps fn.results.toList with
    | some (s, []), some rs => if fn.params.size + fn.nfree ≤ fn.ntmps then some { nargs := fn.params.size + fn.nfree, ntmps := fn.ntmps, body := s, results := rs } else none
    | _, _ => none
  | none => none
end

end Go.Jq
