/- The machine, made of recursors: the same answers, in fewer steps. -/
import Derived.Test.YtnojkhkbnjcghaaGreatDoorE4
set_option linter.unusedSimpArgs false
set_option linter.unusedVariables false
namespace Go.Jq
def eX_bad (ρ:EVal) (T:TH):Option EOut:=none
def eX_mov (x:SOpd) (ρ:EVal) (T:TH):Option EOut:=match ρ x with
  | some v=>some (.val v T)
  | none=>none
def eX_pick (c:SOpd) (a:SOpd) (b:SOpd) (ρ:EVal) (T:TH):Option EOut:=match ρ c with
  | some (.raw (.bool true)) => match ρ a with
    | some x=>some (.val x T)
    | none=>none
  | some (.raw (.bool false)) => match ρ b with
    | some x=>some (.val x T)
    | none=>none
  | _=>none
def eX_alloc (zs:List Value) (ρ:EVal) (T:TH):Option EOut:=some (.val (.ptr T.next 0) (T.alloc (.cells (zs.map cv) false false)))
def eX_box (x:SOpd) (ρ:EVal) (T:TH):Option EOut:=match ρ x with
  | some v => match ecells v with
    | some cs=>some (.val (.ptr T.next 0) (T.alloc (.cells cs false false)))
    | none=>none
  | none=>none
def eX_build (zs:List Value) (ps:List (Nat×Nat×SOpd)) (ρ:EVal) (T:TH):Option EOut:=match evparts ρ ps with
  | some l => match esfill l (zs.map cv) with
    | some cs=>some (.val (.agg cs) T)
    | none=>none
  | none=>none
def eX_mkslice (n:Nat) (zs:List Value) (ps:List (Nat×Nat×SOpd)) (ρ:EVal) (T:TH):Option EOut:=match evparts ρ ps with
  | some l => match esfill l (zs.map cv) with
    | some cs=>some (.val (.slc T.next 0 none n n) (T.alloc (.cells cs false false)))
    | none=>none
  | none=>none
def eX_load1 (a:SOpd) (ρ:EVal) (T:TH):Option EOut:=match ρ a with
  | some (.ptr b o) => match T.load1 b o with
    | some v=>some (.val v T)
    | none=>none
  | _=>none
def eX_loadN (n:Nat) (a:SOpd) (ρ:EVal) (T:TH):Option EOut:=match ρ a with
  | some (.ptr b o) => match T.load b o n with
    | some cs=>some (.val (.agg cs) T)
    | none=>none
  | _=>none
def eX_store1 (a:SOpd) (x:SOpd) (ρ:EVal) (T:TH):Option EOut:=match ρ a,ρ x with
  | some (.ptr b o), some v => match ecells v with
    | some [u] => match T.store1 b o u with
      | some T'=>some (.skip T')
      | none=>none
    | _=>none
  | _,_=>none
def eX_storeN (n:Nat) (a:SOpd) (x:SOpd) (ρ:EVal) (T:TH):Option EOut:=match ρ a,ρ x with
  | some (.ptr b o), some v => match ecells v with
    | some cs => if cs.length = n then match T.store b o cs with
      | some T'=>some (.skip T')
      | none=>none
      else none
    | none=>none
  | _,_=>none
def eX_nilchk (x:SOpd) (ρ:EVal) (T:TH):Option EOut:=match ρ x with
  | some (.ptr b o)=>some (.val (.ptr b o) T)
  | _=>none
def eX_bin (op:BinOp) (x:SOpd) (y:SOpd) (ρ:EVal) (T:TH):Option EOut:=match ρ x,ρ y with
  | some (.raw a), some (.raw b) => match sbin op a b with
    | some v=>some (.val (.raw v) T)
    | none=>none
  | _,_=>none
def eX_eqB (neg:Bool) (x:SOpd) (y:SOpd) (ρ:EVal) (T:TH):Option EOut:=match ρ x,ρ y with
  | some (.raw (.bool a)),some (.raw (.bool b))=>some (.val (.raw (.bool (if neg then !(a == b) else (a == b)))) T)
  | _,_=>none
def eX_eqN (neg:Bool) (ks:List Nat) (x:SOpd) (y:SOpd) (ρ:EVal) (T:TH):Option EOut:=match ρ x,ρ y with
  | some (.agg a), some (.agg b) => match ecellsEq ks a b with
    | some t=>some (.val (.raw (.bool (if neg then !t else t))) T)
    | none=>none
  | _,_=>none
def eX_isnil (k:Nat) (neg:Bool) (x:SOpd) (ρ:EVal) (T:TH):Option EOut:=match ρ x with
  | some v => match eisnil k v with
    | some t=>some (.val (.raw (.bool (if neg then !t else t))) T)
    | none=>none
  | none=>none
def eX_un (op:UnOp) (x:SOpd) (ρ:EVal) (T:TH):Option EOut:=match ρ x with
  | some (.raw a) => match sun op a with
    | some v=>some (.val (.raw v) T)
    | none=>none
  | _=>none
def eX_conv (k:IntKind) (x:SOpd) (ρ:EVal) (T:TH):Option EOut:=match ρ x with
  | some (.raw (.int _ n))=>some (.val (.raw (.int k (k.wrap n))) T)
  | _=>none
def eX_mkfunc (f:Nat) (first:List SOpd) (caps:List SOpd) (ρ:EVal) (T:TH):Option EOut:=match evals ρ first,evals ρ caps with
  | some a,some b=>some (.val (.fn f a b) T)
  | _,_=>none
def eX_mkmap (ρ:EVal) (T:TH):Option EOut:=some (.val (.mp T.next) (T.alloc (.map [] 0)))
def eX_mkrow (size:Nat) (bytes:Nat) (zs:List Value) (l:SOpd) (c:SOpd) (ρ:EVal) (T:TH):Option EOut:=match ρ l,ρ c with
  | some (.raw (.int _ l)), some (.raw (.int _ c)) =>
    if 0≤l∧l≤c∧c * bytes≤70368744177664∧c≤70368744177664∧zs.length=size then
      some (.val (.slc T.next 0 none l.toNat c.toNat) (T.alloc (.cells (List.replicate c.toNat (zs.map cv)).flatten false false)))
    else none
  | _,_=>none
def eX_slstr (x:SOpd) (lo:Option SOpd) (hi:Option SOpd) (ρ:EVal) (T:TH):Option EOut:=match ρ x,eopt ρ lo,eopt ρ hi with
  | some (.raw (.string s)), some lo, some hi => match sbounds s.size s.size lo hi none with
    | some (l,h',_)=>some (.val (.raw (.string (s.extract l h'))) T)
    | none=>none
  | _,_,_=>none
def eX_slsl (size:Nat) (x:SOpd) (lo:Option SOpd) (hi:Option SOpd) (mx:Option SOpd) (ρ:EVal) (T:TH):Option EOut:=match eopt ρ lo,eopt ρ hi,eopt ρ mx with
  | some lo, some hi, some mx => match ρ x with
    | some (.raw (.slice none len cap)) => match sslice size none len cap lo hi mx with
      | some v=>some (.val (.raw v) T)
      | none=>none
    | some (.slc b o sp len cap) => match eslice size b o sp len cap lo hi mx with
      | some v=>some (.val v T)
      | none=>none
    | _=>none
  | _,_,_=>none
def eX_slarr (n:Nat) (size:Nat) (a:SOpd) (lo:Option SOpd) (hi:Option SOpd) (mx:Option SOpd) (ρ:EVal) (T:TH):Option EOut:=match eopt ρ lo,eopt ρ hi,eopt ρ mx with
  | some lo, some hi, some mx => match ρ a with
    | some (.ptr b o) => match eslice size b o none n n lo hi mx with
      | some v=>some (.val v T)
      | none=>none
    | _=>none
  | _,_,_=>none
def eX_fld (off:Nat) (a:SOpd) (ρ:EVal) (T:TH):Option EOut:=match ρ a with
  | some (.ptr b o)=>some (.val (.ptr b (o+off)) T)
  | _=>none
def eX_idxS (size:Nat) (x:SOpd) (i:SOpd) (ρ:EVal) (T:TH):Option EOut:=match ρ x,ρ i with
  | some (.slc b o _ len _),some (.raw (.int _ i))=>if 0≤i∧i < len then some (.val (.ptr b (o+i.toNat * size)) T) else none
  | _,_=>none
def eX_idxA (n:Nat) (size:Nat) (a:SOpd) (i:SOpd) (ρ:EVal) (T:TH):Option EOut:=match ρ a,ρ i with
  | some (.ptr b o),some (.raw (.int _ i))=>if 0≤i∧i < n then some (.val (.ptr b (o+i.toNat * size)) T) else none
  | _,_=>none
def eX_idxV1 (n:Nat) (x:SOpd) (i:SOpd) (ρ:EVal) (T:TH):Option EOut:=match ρ x,ρ i with
  | some (.agg cs), some (.raw (.int _ i)) => if 0 ≤ i ∧ i < n then match cs[i.toNat]? with
    | some v=>some (.val v T)
    | none=>none
    else none
  | _,_=>none
def eX_idxVN (n:Nat) (size:Nat) (x:SOpd) (i:SOpd) (ρ:EVal) (T:TH):Option EOut:=match ρ x,ρ i with
  | some (.agg cs),some (.raw (.int _ i))=>if 0≤i∧i < n then some (.val (.agg ((cs.drop (i.toNat * size)).take size)) T) else none
  | _,_=>none
def eX_idxT (x:SOpd) (i:SOpd) (ρ:EVal) (T:TH):Option EOut:=match ρ x,ρ i with
  | some (.raw (.string s)), some (.raw (.int _ i)) => if 0 ≤ i then match s.data.toList[i.toNat]? with
    | some b=>some (.val (.raw (.int .u8 b.toNat)) T)
    | none=>none
    else none
  | _,_=>none
def eX_part1 (off:Nat) (x:SOpd) (ρ:EVal) (T:TH):Option EOut:=match ρ x with
  | some (.agg cs) => match cs[off]? with
    | some v=>some (.val v T)
    | none=>none
  | _=>none
def eX_partN (off:Nat) (n:Nat) (x:SOpd) (ρ:EVal) (T:TH):Option EOut:=match ρ x with
  | some (.agg cs)=>some (.val (.agg ((cs.drop off).take n)) T)
  | _=>none
def eX_extr (x:SOpd) (i:Nat) (ρ:EVal) (T:TH):Option EOut:=match ρ x with
  | some (.tup vs) => match vs[i]? with
    | some v=>some (.val v T)
    | none=>none
  | _=>none
def eX_call (f:Nat) (args:List SOpd) (ρ:EVal) (T:TH):Option EOut:=match evals ρ args with
  | some l=>some (.call f l)
  | none=>none
def eX_callv (f:SOpd) (args:List SOpd) (ρ:EVal) (T:TH):Option EOut:=match ρ f,evals ρ args with
  | some (.fn f first caps),some l=>some (.call f (first++(l++caps)))
  | _,_=>none
def eX_append (size:Nat) (bytes:Nat) (x:SOpd) (y:SOpd) (ρ:EVal) (T:TH):Option EOut:=match ρ x,ρ y with
  | some a, some b => match eappend T size bytes a b with
    | some (v,T')=>some (.val v T')
    | none=>none
  | _,_=>none
def eX_copy (size:Nat) (x:SOpd) (y:SOpd) (ρ:EVal) (T:TH):Option EOut:=match ρ x,ρ y with
  | some a, some b => match ecopy T size a b with
    | some (v,T')=>some (.val v T')
    | none=>none
  | _,_=>none
def eX_lenS (x:SOpd) (ρ:EVal) (T:TH):Option EOut:=match ρ x with
  | some (.raw (.slice none n _))=>some (.val (.raw (.int .i64 n)) T)
  | some (.slc _ _ _ n _)=>some (.val (.raw (.int .i64 n)) T)
  | _=>none
def eX_lenT (x:SOpd) (ρ:EVal) (T:TH):Option EOut:=match ρ x with
  | some (.raw (.string s))=>some (.val (.raw (.int .i64 s.size)) T)
  | _=>none
def eX_lenM (x:SOpd) (ρ:EVal) (T:TH):Option EOut:=match ρ x with
  | some (.raw (.map none))=>some (.val (.raw (.int .i64 0)) T)
  | some (.mp r) => match T.get r with
    | .map es _=>some (.val (.raw (.int .i64 es.length)) T)
    | _=>none
  | _=>none
def eX_mm (mx:Bool) (xs:List SOpd) (ρ:EVal) (T:TH):Option EOut:=match evals ρ xs with
  | some l => match erows l with
    | some (x :: r) => match smm mx x r with
      | some v=>some (.val (.raw v) T)
      | none=>none
    | _=>none
  | _=>none
def eX_mark (x:SOpd) (ρ:EVal) (T:TH):Option EOut:=match ρ x with
  | some (.slc b o sp n c) => match T.get b with
    | .cells _ _ false=>some (.val (.slc b o sp n c) T)
    | _=>none
  | _=>none
def eX_tostr (x:SOpd) (ρ:EVal) (T:TH):Option EOut:=match ρ x with
  | some (.raw (.int _ n))=>some (.val (.raw (.string (Utf8.encode n))) T)
  | _=>none
def eX_clear (zs:List Value) (x:SOpd) (ρ:EVal) (T:TH):Option EOut:=match ρ x with
  | some (.slc b o _ n _) => if n = 0 then none else match T.store b o ((Builtin.zeroCells zs.toArray n).toList.map cv) with
    | some T'=>some (.val (.tup []) T')
    | none=>none
  | _=>none
def eX_bstr (_x0:SOpd) (ρ:EVal) (T:TH):Option EOut:=none
noncomputable def esF (op:SOp):EVal→TH→Option EOut:=SOp.rec (motive:=fun _=>EVal→TH→Option EOut) eX_bad eX_mov eX_pick eX_alloc eX_box eX_build eX_mkslice eX_load1 eX_loadN eX_store1 eX_storeN eX_nilchk eX_bin eX_eqB eX_eqN eX_isnil eX_un eX_conv eX_mkfunc eX_mkmap eX_mkrow eX_slstr eX_slsl eX_slarr eX_fld eX_idxS eX_idxA eX_idxV1 eX_idxVN eX_idxT eX_part1 eX_partN eX_extr eX_call eX_callv eX_append eX_copy eX_lenS eX_lenT eX_lenM eX_mm eX_mark eX_tostr eX_clear eX_bstr op
theorem esF_eq:esF=esop:=by
  funext op ρ T
  cases op <;> rfl
noncomputable def cF {β:Type} (c:Bool) (a b:β):β:=Bool.rec (motive:=fun _=>β) b a c
theorem cF_eq {β:Type} {c:Bool} {a b:β}:cF c a b=cond c a b:=by cases c <;> rfl
noncomputable def getF (F:EFr) (t:Nat):Option EV:=List.rec (motive:=fun _=>Option EV) none (fun x _ ih=>cF (Nat.beq t x.1) (some x.2) ih) F
theorem getF_eq:getF=EFr.get:=by
  funext F t
  induction F with
  | nil=>rfl
  | cons x r ih =>
    rw [EFr.get,← ih,← cF_eq];rfl
noncomputable def setF {β:Type} (F:EFr) (t:Nat) (v:EV):(EFr→β)→β:=List.rec (motive:=fun _=>(EFr→β)→β) (fun k=>k [(t,v)]) (fun x r ih k=>cF (Nat.beq t x.1) (k ((t,v)::r)) (cF (Nat.blt t x.1) (k ((t,v)::x::r)) (ih fun r=>k (x::r)))) F
theorem setF_eq {β:Type} {F:EFr} {t:Nat} {v:EV} {k:EFr→β}:setF F t v k=F.setK t v k:=by
  induction F generalizing k with
  | nil=>rfl
  | cons x r ih=>rw [EFr.setK,← ih,← cF_eq,← cF_eq];rfl
noncomputable def memF (l:List Nat) (k:Nat):Bool:=List.rec (motive:=fun _=>Bool) false (fun a _ ih=>cF (Nat.beq k a) true ih) l
theorem memF_eq {l:List Nat} {k:Nat}:memF l k=memB l k:=by
  induction l with
  | nil=>rfl
  | cons x r ih=>rw [memB,← ih,← cF_eq];rfl
noncomputable def keepF {β:Type} (F:EFr) (l:List Nat):(EFr→β)→β:=List.rec (motive:=fun _=>(EFr→β)→β) (fun k=>k []) (fun x r ih k=>cF (memF l x.1) (ih fun r=>k (x::r)) (ih k)) F
theorem keepF_eq {β:Type} {F:EFr} {l:List Nat} {k:EFr→β}:keepF F l k=F.keepK l k:=by
  induction F generalizing k with
  | nil=>rfl
  | cons x r ih=>rw [EFr.keepK,← ih,← ih,← memF_eq,← cF_eq];rfl
noncomputable def valF (F:EFr) (x:SOpd):Option EV:=SOpd.rec (motive:=fun _=>Option EV) (fun t=>getF F t) (fun v=>some (cv v)) (fun f=>some (.fn f [] [])) x
theorem valF_eq:valF=EFr.val:=by
  funext F x
  cases x
  · show getF F _=_;rw [getF_eq];rfl
  · rfl
  · rfl
noncomputable def puttF {β:Type} (F:EFr) (d:Option Nat) (v:EV) (k:EFr→β):β:=Option.rec (motive:=fun _=>β) (k F) (fun t=>setF F t v k) d
theorem puttF_eq {β:Type} {F:EFr} {d:Option Nat} {v:EV} {k:EFr→β}:puttF F d v k=F.putK d v k:=by
  cases d
  · rfl
  · exact setF_eq
noncomputable def guardG (F:EFr) (x:Nat×Bool):Option EV→Option Bool
  | some (.raw (.bool b))=>some (b == x.2)
  | some (.tup _)=>some false
  | _=>none
noncomputable def guardF (F:EFr) (g:Option (Nat×Bool)):Option Bool:=Option.rec (motive:=fun _=>Option Bool) (some true) (fun x=>guardG F x (getF F x.1)) g
theorem guardF_eq:guardF=eguard:=by
  funext F g
  cases g with
  | none=>rfl
  | some x=>show guardG F x (getF F x.1)=_;rw [getF_eq];rfl
abbrev FK:=EFr→TH→Option (EFr×TH)
noncomputable def oOut (call:ECall) (o:SOper) (ih:FK) (F:EFr) (T0:TH) (x:Option EOut):Option (EFr×TH) :=
  Option.rec (motive:=fun _=>Option (EFr×TH)) none (fun y=>EOut.rec (motive:=fun _=>Option (EFr×TH)) (fun v T=>forceV v fun v=>puttF F o.dst v fun F=>forceT T fun T=>ih F T) (fun T=>forceT T fun T=>ih (F.unput o.dst) T)
    (fun f args=>Option.rec (motive:=fun _=>Option (EFr×TH)) none (fun z=>forceV z.1 fun v=>puttF F o.dst v fun F=>forceT z.2 fun T=>ih F T) (call f args T0)) y) x
noncomputable def oGo (call:ECall) (o:SOper) (ih:FK) (F:EFr) (T:TH) (b:Bool):Option (EFr×TH):=cF b (oOut call o ih F T (esF o.op (valF F) T)) (F.undoK o.dst fun F=>ih F T)
noncomputable def oStep (call:ECall) (o:SOper) (ih:FK) (F:EFr) (T:TH):Option (EFr×TH):=Option.rec (motive:=fun _=>Option (EFr×TH)) none (oGo call o ih F T) (guardF F o.guard)
noncomputable def opsF (call:ECall) (l:List SOper):FK:=List.rec (motive:=fun _=>FK) (fun F T=>some (F,T)) (fun o _ ih=>oStep call o ih) l
theorem opsF_eq {call:ECall} {l:List SOper}:opsF call l=opsE call l:=by
  induction l with
  | nil=>funext F T;rfl
  | cons o l ih =>
    funext F T
    show oStep call o (opsF call l) F T=_
    rw [ih]
    unfold oStep oGo oOut
    rw [guardF_eq,esF_eq,valF_eq]
    simp only [puttF_eq]
    conv=>rhs;unfold opsE
    cases eguard F o.guard with
    | none=>rfl
    | some b => cases b with
      | false=>rfl
      | true =>
        simp only [cF]
        cases esop o.op F.val T with
        | none=>rfl
        | some y => cases y with
          | val v T1=>rfl
          | skip T1=>rfl
          | call f args =>
            simp only
            cases call f args T <;> rfl
noncomputable def qOut (o:SOper) (ih:FK) (F:EFr) (T0:TH) (x:Option EOut):Option (EFr×TH) :=
  Option.rec (motive:=fun _=>Option (EFr×TH)) none (fun y=>EOut.rec (motive:=fun _=>Option (EFr×TH)) (fun v _=>forceV v fun v=>puttF F o.dst v fun F=>ih F T0) (fun _=>none) (fun _ _=>none) y) x
noncomputable def qGo (o:SOper) (ih:FK) (F:EFr) (T:TH) (b:Bool):Option (EFr×TH):=cF b (cF o.op.still (qOut o ih F T (esF o.op (valF (F.keep o.uses)) T)) none) (ih (F.unput o.dst) T)
noncomputable def qStep (o:SOper) (ih:FK) (F:EFr) (T:TH):Option (EFr×TH):=Option.rec (motive:=fun _=>Option (EFr×TH)) none (qGo o ih F T) (guardF (F.keep o.uses) o.guard)
noncomputable def qopsF (l:List SOper):FK:=List.rec (motive:=fun _=>FK) (fun F T=>some (F,T)) (fun o _ ih=>qStep o ih) l
theorem qopsF_eq {l:List SOper}:qopsF l=qopsE l:=by
  induction l with
  | nil=>funext F T;rfl
  | cons o l ih =>
    funext F T
    show qStep o (qopsF l) F T=_
    rw [ih]
    unfold qStep qGo qOut
    rw [guardF_eq,esF_eq,valF_eq]
    simp only [puttF_eq,cF_eq]
    conv=>rhs;unfold qopsE
    cases eguard (F.keep o.uses) o.guard with
    | none=>rfl
    | some b => cases b with
      | false=>rfl
      | true =>
        cases o.op.still with
        | false=>rfl
        | true =>
          simp only [cond_true]
          cases esop o.op (F.keep o.uses).val T with
          | none=>rfl
          | some y=>cases y <;> rfl
abbrev CK:=EFr→TH→Option (SExit×EFr×TH)
noncomputable def kReg (live:List Nat) (x:Option (EFr×TH)):Option (SExit×EFr×TH):=Option.rec (motive:=fun _=>Option (SExit×EFr×TH)) none (fun y=>keepF y.1 live fun F=>some (.normal,F,y.2)) x
def kSeq (b:CK):Option (SExit×EFr×TH)→Option (SExit×EFr×TH)
  | some (.normal,F,T)=>b F T
  | r=>r
def kCond (a b:CK) (F:EFr) (T:TH):Option EV→Option (SExit×EFr×TH)
  | some (.raw (.bool true))=>a F T
  | some (.raw (.bool false))=>b F T
  | _=>none
def kBlock (id:Nat):Option (SExit×EFr×TH)→Option (SExit×EFr×TH)
  | some (.exit i,F,T)=>cond (Nat.beq i id) (some (.normal,F,T)) (some (.exit i,F,T))
  | r=>r
noncomputable def codeF (call:ECall) (loop:ELoop) (c:SCode):CK:=SCode.rec (motive:=fun _=>CK)
  (fun F T=>some (.normal,F,T)) (fun live l F T=>kReg live (opsF call l F T)) (fun live l F T=>kReg live (qopsF l F T)) (fun live l batch F T=>kReg live (dopsE call batch l F T [] [] []))
  (fun _ _ a b F T=>kSeq b (a F T)) (fun c _ _ a b F T=>kCond a b F T (valF F c)) (fun id _ a F T=>kBlock id (a F T)) (fun live a _ F T=>loop live a F T) (fun id F T=>some (.exit id,F,T)) (fun F T=>some (.ret,F,T)) (fun _ _ _=>none) c
theorem kReg_eq {live:List Nat} {x:Option (EFr×TH)}:kReg live x=match x with
    | some (F,T)=>F.keepK live fun F=>some (.normal,F,T)
    | none=>none:=by
  cases x with
  | none=>rfl
  | some y=>exact keepF_eq
theorem codeF_eq {call:ECall} {loop:ELoop} {c:SCode}:codeF call loop c=codeE call loop c:=by
  induction c with
  | reg live l=>funext F T;show kReg live (opsF call l F T)=_;rw [opsF_eq,kReg_eq];rfl
  | qreg live l=>funext F T;show kReg live (qopsF l F T)=_;rw [qopsF_eq,kReg_eq];rfl
  | dreg live l batch=>funext F T;show kReg live _=_;rw [kReg_eq];rfl
  | seq a b iha ihb =>
    funext F T;show kSeq (codeF call loop b) (codeF call loop a F T)=_
    rw [iha,ihb]
    conv=>rhs;unfold codeE
    unfold kSeq
    rfl
  | cond c a b iha ihb =>
    funext F T;show kCond (codeF call loop a) (codeF call loop b) F T (valF F c)=_
    rw [iha,ihb,valF_eq]
    conv=>rhs;unfold codeE
    unfold kCond
    rfl
  | block id a iha =>
    funext F T;show kBlock id (codeF call loop a F T)=_
    rw [iha]
    conv=>rhs;unfold codeE
    unfold kBlock
    rfl
  | _=>funext F T;rfl
noncomputable def mOut (s:SFunc):Option (SExit×EFr×TH)→Option (EV×TH)
  | some (.normal, F, T) => match eresultsOf F T s.results with
    | some vs=>some (eoneOf vs,T)
    | none=>none
  | some (.ret, F, T) => match eresultsOf F T s.results with
    | some vs=>some (eoneOf vs,T)
    | none=>none
  | _=>none
noncomputable def mFun (m:Mach) (s:SFunc) (args:List EV) (T:TH):Option (EV×TH):=match natOf? s.body with
  | some k=>enat k args T
  | none=>cond (Nat.beq args.length s.nargs) (EFr.fromK 0 args fun F=>mOut s (codeF m.call m.loop s.body F T)) none
noncomputable def mOrc (m:Mach) (Gt:Tri SFunc) (f:Nat) (args:List EV) (T:TH):Option EV→Option (EV×TH)
  | some v=>forceV v fun v=>some (v,T)
  | none => match Gt.get f with
    | some s=>mFun m s args T
    | none=>none
noncomputable def mLoop (m:Mach) (live:List Nat) (a:SCode) (F:EFr) (T:TH):Option (SExit×EFr×TH):=keepF F live fun F=>kSeq (m.loop live a) (codeF m.call m.loop a F T)
noncomputable def machF (orc:EOrc) (Gt:Tri SFunc) (n:Nat):Mach:=Nat.rec (motive:=fun _=>Mach) ⟨fun _ _ _=>none,fun _ _ _ _=>none⟩ (fun _ m=>⟨fun f args T=>mOrc m Gt f args T (orc f args T),mLoop m⟩) n
theorem machF_eq {orc:EOrc} {Gt:Tri SFunc} {n:Nat}:machF orc Gt n=machO orc Gt n:=by
  induction n with
  | zero=>rfl
  | succ n ih =>
    show Mach.mk (fun f args T=>mOrc (machF orc Gt n) Gt f args T (orc f args T)) (mLoop (machF orc Gt n))=_
    rw [ih,machO]
    congr 1
    · funext f args T
      unfold mOrc mFun
      simp only [codeF_eq]
      cases orc f args T with
      | some v=>rfl
      | none =>
        simp only
        cases Gt.get f with
        | none=>rfl
        | some s =>
          simp only
          cases natOf? s.body with
          | some k=>rfl
          | none=>unfold mOut;rfl
    · funext live a F T
      unfold mLoop
      rw [keepF_eq]
      simp only [codeF_eq]
      unfold kSeq
      rfl
end Go.Jq
