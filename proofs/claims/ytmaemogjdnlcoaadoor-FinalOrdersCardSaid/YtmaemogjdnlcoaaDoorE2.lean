/- The abstract machine, carried out: regions, codes, calls. -/
import Derived.Test.YtmaemogjdnlcoaaDoorE1
set_option linter.unusedSimpArgs false
set_option linter.unusedVariables false
namespace Go.Jq

/-! 'k' gets the thing, laid out. -/
def forceN {β : Type} : Nat → (Nat → β) → β
  | 0, k => k 0
  | n + 1, k => k (n + 1)
def forceI {β : Type} : Int → (Int → β) → β
  | .ofNat n, k => forceN n fun n => k (.ofNat n)
  | .negSucc n, k => forceN n fun n => k (.negSucc n)
def forceR {β : Type} : Value → (Value → β) → β
  | .int i n, k => forceI n fun n => k (.int i n)
  | .bool b, k => cond b (k (.bool true)) (k (.bool false))
  | .slice a n c, k => forceN n fun n => forceN c fun c => k (.slice a n c)
  | v, k => k v
def forceV {β : Type} : EV → (EV → β) → β
  | .raw v, k => forceR v fun v => k (.raw v)
  | .ptr b o, k => forceN b fun b => forceN o fun o => k (.ptr b o)
  | .slc b o sp n c, k => forceN b fun b => forceN o fun o => forceN n fun n => forceN c fun c => k (.slc b o sp n c)
  | .mp b, k => forceN b fun b => k (.mp b)
  | .fn f a b, k => forceL a fun a => forceL b fun b => k (.fn f a b)
  | .agg l, k => forceL l fun l => k (.agg l)
  | .tup l, k => forceL l fun l => k (.tup l)
def forceT {β : Type} : TH → (TH → β) → β
  | ⟨n, .leaf⟩, k => forceN n fun n => k ⟨n, .leaf⟩
  | ⟨n, .node o l r⟩, k => forceN n fun n => k ⟨n, .node o l r⟩
section
variable {β : Type}
theorem forceN_eq {n : Nat} {k : Nat → β} : forceN n k = k n := by cases n <;> rfl
theorem forceI_eq {n : Int} {k : Int → β} : forceI n k = k n := by cases n <;> simp only [forceI, forceN_eq]
theorem forceR_eq {v : Value} {k : Value → β} : forceR v k = k v := by
  cases v <;> simp only [forceR, forceI_eq, forceN_eq]
  rename_i b; cases b <;> rfl
theorem forceV_eq {v : EV} {k : EV → β} : forceV v k = k v := by
  cases v <;> simp only [forceV, forceR_eq, forceN_eq, forceL_eq]
theorem forceT_eq {T : TH} {k : TH → β} : forceT T k = k T := by
  obtain ⟨n, t⟩ := T
  cases t <;> simp only [forceT, forceN_eq]
end
def EFr.setK {β : Type} : EFr → Nat → EV → (EFr → β) → β
  | [], t, v, k => k [(t, v)]
  | (a, x) :: r, t, v, k => cond (Nat.beq t a) (k ((t, v) :: r)) (cond (Nat.blt t a) (k ((t, v) :: (a, x) :: r)) (EFr.setK r t v fun r => k ((a, x) :: r)))
theorem EFr.setK_eq {β : Type} {F : EFr} {t : Nat} {v : EV} {k : EFr → β} : F.setK t v k = k (F.set t v) := by
  induction F generalizing k with
  | nil => rfl
  | cons x r ih =>
    obtain ⟨a, x⟩ := x
    simp only [EFr.setK, EFr.set, ih]
    cases Nat.beq t a <;> cases Nat.blt t a <;> rfl
def EFr.keepK {β : Type} : EFr → List Nat → (EFr → β) → β
  | [], _, k => k []
  | (a, x) :: r, l, k => cond (memB l a) (EFr.keepK r l fun r => k ((a, x) :: r)) (EFr.keepK r l k)
theorem EFr.keepK_eq {β : Type} {F : EFr} {l : List Nat} {k : EFr → β} : F.keepK l k = k (F.keep l) := by
  induction F generalizing k with
  | nil => rfl
  | cons x r ih =>
    obtain ⟨a, x⟩ := x
    simp only [EFr.keepK, EFr.keep, ih]
    cases memB l a <;> rfl
def EFr.putK {β : Type} (F : EFr) : Option Nat → EV → (EFr → β) → β
  | some t, v, k => F.setK t v k
  | none, _, k => k F
theorem EFr.putK_eq {β : Type} {F : EFr} {d : Option Nat} {v : EV} {k : EFr → β} : F.putK d v k = k (F.put d v) := by
  cases d with
  | none => rfl
  | some t => exact EFr.setK_eq
def EFr.undoK {β : Type} (F : EFr) : Option Nat → (EFr → β) → β
  | some t, k => F.setK t (.tup []) k
  | none, k => k F
theorem EFr.undoK_eq {β : Type} {F : EFr} {d : Option Nat} {k : EFr → β} : F.undoK d k = k (F.undo d) := by
  cases d with
  | none => rfl
  | some t => exact EFr.setK_eq
def EFr.fromK {β : Type} : Nat → List EV → (EFr → β) → β
  | _, [], k => k []
  | i, v :: r, k => forceN i fun i => EFr.fromK (i + 1) r fun F => k ((i, v) :: F)
theorem EFr.fromK_eq {β : Type} {l : List EV} {i : Nat} {k : EFr → β} : EFr.fromK i l k = k (EFr.from i l) := by
  induction l generalizing i k with
  | nil => rfl
  | cons v l ih => simp only [EFr.fromK, forceN_eq, ih, EFr.from]

/-- a guard: 0 it is left out, 1 it is done, 2 neither -/
def eguard (F : EFr) : Option (Nat × Bool) → Option Bool
  | none => some true
  | some (t, want) => match F.get t with
    | some (.raw (.bool b)) => some (b == want)
    | some (.tup _) => some false
    | _ => none
theorem eguard_ok {n0 : Nat} {F : EFr} {g : Option (Nat × Bool)} {b : Bool} (H : eguard F g = some b) : gok (denF n0 F) g = some b := by
  cases g with
  | none => exact H
  | some x =>
    obtain ⟨t, w⟩ := x
    simp only [eguard] at H
    simp only [gok, denF_get]
    split at H
    · rename_i h1; rw [h1]; simpa [den] using H
    · rename_i h1; rw [h1]; simpa [den] using H
    · simp at H

/-! Are two things the same? -/
def rawEq : Value → Value → Bool
  | .int k a, .int k' b => decide (k = k') && decide (a = b)
  | .bool a, .bool b => a == b
  | .string a, .string b => decide (a.data = b.data)
  | .pointer none, .pointer none => true
  | .slice none n c, .slice none n' c' => Nat.beq n n' && Nat.beq c c'
  | .map none, .map none => true
  | .nilFunc, .nilFunc => true
  | _, _ => false
def sameF : EV → EV → Bool
  | .raw a, .raw b => rawEq a b
  | .ptr b o, .ptr b' o' => Nat.beq b b' && Nat.beq o o'
  | .slc b o sp n c, .slc b' o' sp' n' c' => Nat.beq b b' && (Nat.beq o o' && (decide (sp = sp') && (Nat.beq n n' && Nat.beq c c')))
  | .mp b, .mp b' => Nat.beq b b'
  | _, _ => false
def sameL : List EV → List EV → Bool
  | [], [] => true
  | a :: l, b :: l' => sameF a b && sameL l l'
  | _, _ => false
def sameG : EV → EV → Bool
  | .agg l, .agg l' => sameL l l'
  | a, b => sameF a b
def sameM : List EV → List EV → Bool
  | [], [] => true
  | a :: l, b :: l' => sameG a b && sameM l l'
  | _, _ => false
def sameV : EV → EV → Bool
  | .agg l, .agg l' => sameL l l'
  | .tup l, .tup l' => sameL l l'
  | .fn f a b, .fn f' a' b' => Nat.beq f f' && (sameM a a' && sameM b b')
  | a, b => sameF a b
def sameB : EBlk → EBlk → Bool
  | .cells c g ro, .cells c' g' ro' => sameL c c' && (g == g' && ro == ro')
  | .map [] c, .map [] c' => Nat.beq c c'
  | _, _ => false
theorem rawEq_ok {a b : Value} (h : rawEq a b = true) : a = b := by
  unfold rawEq at h
  split at h <;> simp_all [beqN]
  rename_i a b
  cases a; cases b; simp_all
theorem sameF_ok {a b : EV} (h : sameF a b = true) : a = b := by
  unfold sameF at h
  split at h <;> simp_all [beqN]
  exact rawEq_ok h
theorem sameL_ok : ∀ {a b : List EV}, sameL a b = true → a = b
  | [], [], _ => rfl
  | [], b :: l', h => by simp [sameL] at h
  | a :: l, [], h => by simp [sameL] at h
  | a :: l, b :: l', h => by
    simp only [sameL, Bool.and_eq_true] at h
    rw [sameF_ok h.1, sameL_ok h.2]
theorem sameG_ok {a b : EV} (h : sameG a b = true) : a = b := by
  unfold sameG at h
  split at h
  · rw [sameL_ok h]
  · exact sameF_ok h
theorem sameM_ok : ∀ {a b : List EV}, sameM a b = true → a = b
  | [], [], _ => rfl
  | [], b :: l', h => by simp [sameM] at h
  | a :: l, [], h => by simp [sameM] at h
  | a :: l, b :: l', h => by
    simp only [sameM, Bool.and_eq_true] at h
    rw [sameG_ok h.1, sameM_ok h.2]
theorem sameV_ok {a b : EV} (h : sameV a b = true) : a = b := by
  unfold sameV at h
  split at h
  · rw [sameL_ok h]
  · rw [sameL_ok h]
  · simp only [Bool.and_eq_true, beqN, decide_eq_true_eq] at h
    rw [h.1, sameM_ok h.2.1, sameM_ok h.2.2]
  · exact sameF_ok h
theorem sameB_ok {a b : EBlk} (h : sameB a b = true) : a = b := by
  unfold sameB at h
  split at h
  · simp only [Bool.and_eq_true, beq_iff_eq] at h
    rw [sameL_ok h.1, h.2.1, h.2.2]
  · simp only [beqN, decide_eq_true_eq] at h
    rw [h]
  · simp at h
theorem sameB_dead {a b : EBlk} (h : sameB a b = true) : b ≠ .dead := by
  rintro rfl
  cases a <;> simp [sameB] at h

structure ERec where
  id : Nat
  op : SOp
  F : EFr
  v : EV
  hi : Nat
def denR (n0 : Nat) (r : ERec) : Rec := ⟨r.id, r.op, denF n0 r.F, den n0 r.v, r.hi⟩
def ERec.same (r : ERec) (T : TH) : Bool := match esop r.op r.F.val T with
  | some (.val v _) => sameV v r.v
  | _ => false
theorem ERec.same_ok {h : AH} {T : TH} {r : ERec} (hs : r.op.still = true) (H : r.same T = true) : (denR h.next r).same (denH h T) := by
  unfold ERec.same at H
  split at H
  · rename_i v T' e
    have e2 := esop_ok (h := h) (ρ := (denF h.next r.F).val) (fun x => denF_val) e
    obtain ⟨u, e3⟩ := still_out hs e2
    rw [e3] at e2
    simp only [denO, Out.val.injEq] at e3
    unfold Rec.same
    refine e2.trans ?_
    rw [← e3.1, sameV_ok H]
    rfl
  · simp at H

structure ESt where
  b : Nat
  off : Nat
  cs : List EV
def denS (n0 : Nat) (s : ESt) : St := ⟨n0 + s.b, s.off, s.cs.map (den n0)⟩
def ESt.fits (s : ESt) (T : TH) : Bool :=
  match T.get s.b with
  | .cells c _ ro => !ro && Nat.ble (s.off + s.cs.length) c.length
  | _ => false
def ESt.put (T : TH) (s : ESt) : TH :=
  match T.get s.b with
  | .cells c g ro => cond (Nat.ble (s.off + s.cs.length) c.length) (T.put s.b (.cells (esplice c s.off s.cs) g ro)) T
  | _ => T
def eapart (b o n : Nat) (t : ESt) : Bool := !Nat.beq b t.b || (Nat.ble (o + n) t.off || Nat.ble (t.off + t.cs.length) o)
def estOf (o : SOper) (F : EFr) : Option ESt :=
  match o.op with
  | .store1 a x => match (F.keep o.uses).val a, (F.keep o.uses).val x with
    | some (.ptr b off), some v => match ecells v with
      | some [u] => some ⟨b, off, [u]⟩
      | _ => none
    | _, _ => none
  | .storeN n a x => match (F.keep o.uses).val a, (F.keep o.uses).val x with
    | some (.ptr b off), some v => match ecells v with
      | some cs => if cs.length = n then some ⟨b, off, cs⟩ else none
      | none => none
    | _, _ => none
  | _ => none
def estsOf (F : EFr) : List SOper → Option (List ESt)
  | [] => some []
  | o :: l => match estOf o F, estsOf F l with
    | some s, some r => some (s :: r)
    | _, _ => none
def estsOk (T : TH) : List ESt → Bool
  | [] => true
  | s :: l => s.fits T && (l.all (eapart s.b s.off s.cs.length) && estsOk T l)
def ERec.apart (r : ERec) (s : ESt) : Bool :=
  match r.op with
  | .load1 a => match r.F.val a with
    | some (.ptr b o) => eapart b o 1 s
    | _ => false
  | .loadN n a => match r.F.val a with
    | some (.ptr b o) => eapart b o n s
    | _ => false
  | .lenM _ => true
  | _ => false
def ecrossOk (rs : List ERec) (fl : List (Nat × Nat × EBlk)) : List SOper → List ESt → Bool
  | o :: l, s :: ss => (rs.all fun r => o.dep.contains r.id || r.apart s) && ((fl.all fun x => o.dep.contains x.1 || !Nat.beq s.b x.2.1) && ecrossOk rs fl l ss)
  | _, _ => true
def recsE (n : Nat) (T : TH) (rs : List ERec) : Bool := rs.all fun x => !Nat.ble n x.hi || x.same T
def flE (dep : List Nat) (T : TH) (fl : List (Nat × Nat × EBlk)) : Bool := fl.all fun x => dep.contains x.1 || sameB (T.get x.2.1) x.2.2

abbrev ECall := Nat → List EV → TH → Option (EV × TH)
abbrev ELoop := List Nat → SCode → EFr → TH → Option (SExit × EFr × TH)

def opsE (call : ECall) : List SOper → EFr → TH → Option (EFr × TH)
  | [], F, T => some (F, T)
  | o :: l, F, T => match eguard F o.guard with
    | some false => F.undoK o.dst fun F => opsE call l F T
    | some true => match esop o.op F.val T with
      | some (.val v T) => forceV v fun v => F.putK o.dst v fun F => forceT T fun T => opsE call l F T
      | some (.skip T) => forceT T fun T => opsE call l (F.unput o.dst) T
      | some (.call f args) => match call f args T with
        | some (v, T) => forceV v fun v => F.putK o.dst v fun F => forceT T fun T => opsE call l F T
        | none => none
      | none => none
    | none => none
def qopsE : List SOper → EFr → TH → Option (EFr × TH)
  | [], F, T => some (F, T)
  | o :: l, F, T => match eguard (F.keep o.uses) o.guard with
    | some false => qopsE l (F.unput o.dst) T
    | some true => cond o.op.still (match esop o.op (F.keep o.uses).val T with
      | some (.val v _) => forceV v fun v => F.putK o.dst v fun F => qopsE l F T
      | _ => none) none
    | none => none
def dopsE (call : ECall) (batch : List SOper) : List SOper → EFr → TH → List TH → List ERec → List (Nat × Nat × EBlk) → Option (EFr × TH)
  | [], F, T, past, rs, fl => cond (recsE past.length T rs) (match estsOf F batch with
    | some ss => cond (estsOk T ss && ecrossOk rs fl batch ss) (some (F, ss.foldl ESt.put T)) none
    | none => none) none
  | o :: l, F, T, past, rs, fl => cond o.moves
    (cond (recsE past.length T rs) (match eguard (F.keep o.uses) o.guard with
     | some false => cond (flE o.dep T fl) (dopsE call batch l (F.unput o.dst) T (T :: past) rs fl) none
     | none => none
     | some true => match esop o.op (F.keep o.uses).val T with
      | some (.val v T1) => cond (flE o.dep T1 fl) (forceV v fun v => F.putK o.dst v fun F => forceT T1 fun T1 => dopsE call batch l F T1 (T :: past) rs fl) none
      | some (.skip T1) => cond (flE o.dep T1 fl) (forceT T1 fun T1 => dopsE call batch l (F.unput o.dst) T1 (T :: past) rs fl) none
      | some (.call f args) => match call f args T with
        | some (v, T1) => cond (flE o.dep T1 fl) (forceV v fun v => F.putK o.dst v fun F => forceT T1 fun T1 => dopsE call batch l F T1 (T :: past) rs fl) none
        | none => none
      | none => none) none)
    (match eguard (F.keep o.uses) o.guard with
      | some false => dopsE call batch l (F.unput o.dst) T past rs fl
      | some true => match esop o.op (F.keep o.uses).val T with
        | some (.val v T1) => cond o.op.float
          (forceV v fun v => F.putK o.dst v fun F => forceT T1 fun T1 => dopsE call batch l F T1 past rs ((o.id, T.next, T1.get T.next) :: fl))
          (cond o.op.quiet (forceV v fun v => F.putK o.dst v fun F => dopsE call batch l F T past rs fl)
            (cond (o.op.still && (past.take (past.length - o.lo)).all (ERec.same ⟨o.id, o.op, F.keep o.uses, v, o.hi⟩))
              (forceV v fun v => F.putK o.dst v fun F' => dopsE call batch l F' T past (⟨o.id, o.op, F.keep o.uses, v, o.hi⟩ :: rs) fl) none))
        | _ => none
      | none => none)

def codeE (call : ECall) (loop : ELoop) : SCode → EFr → TH → Option (SExit × EFr × TH)
  | .skip, F, T => some (.normal, F, T)
  | .reg live l, F, T => match opsE call l F T with
    | some (F, T) => F.keepK live fun F => some (.normal, F, T)
    | none => none
  | .qreg live l, F, T => match qopsE l F T with
    | some (F, T) => F.keepK live fun F => some (.normal, F, T)
    | none => none
  | .dreg live l batch, F, T => match dopsE call batch l F T [] [] [] with
    | some (F, T) => F.keepK live fun F => some (.normal, F, T)
    | none => none
  | .seq a b, F, T => match codeE call loop a F T with
    | some (.normal, F, T) => codeE call loop b F T
    | r => r
  | .cond c a b, F, T => match F.val c with
    | some (.raw (.bool true)) => codeE call loop a F T
    | some (.raw (.bool false)) => codeE call loop b F T
    | _ => none
  | .block id a, F, T => match codeE call loop a F T with
    | some (.exit i, F, T) => cond (Nat.beq i id) (some (.normal, F, T)) (some (.exit i, F, T))
    | r => r
  | .loop live a, F, T => loop live a F T
  | .exit id, F, T => some (.exit id, F, T)
  | .ret, F, T => some (.ret, F, T)
  | .native _, _, _ => none

def eresultOf (F : EFr) (T : TH) : SRes → Option EV
  | .tmp t => F.get t
  | .cell1 t => match F.get t with
    | some (.ptr b o) => T.load1 b o
    | _ => none
  | .cellN t n => match F.get t with
    | some (.ptr b o) => match T.load b o n with
      | some cs => some (.agg cs)
      | none => none
    | _ => none
def eresultsOf (F : EFr) (T : TH) : List SRes → Option (List EV)
  | [] => some []
  | r :: l => match eresultOf F T r, eresultsOf F T l with
    | some v, some vs => some (v :: vs)
    | _, _ => none
def eoneOf : List EV → EV
  | [v] => v
  | vs => .tup vs

def enat2 (T : TH) : List EV → Option Value
  | [.slc b o _ n c, .raw (.string sep)] => match T.load b o n with
    | some cs => match erows cs with
      | some vs => match strsOf vs with
        | some xs => if n ≤ c ∧ n ≤ 1000000 ∧ 0 < n ∧ (joinOf xs sep).length ≤ 1000000 then some (.string ⟨(joinOf xs sep).toArray⟩) else none
        | none => none
      | none => none
    | none => none
  | _ => none
def enat (k : Nat) (args : List EV) (T : TH) : Option (EV × TH) :=
  if k = 2 then match enat2 T args with
    | some v => some (.raw v, T)
    | none => none
  else match erows args with
  | some vs => match natOf k ⟨0, fun _ => .dead⟩ vs with
    | some v => forceR v fun v => some (.raw v, T)
    | none => none
  | none => none
def natOf? : SCode → Option Nat
  | .native k => some k
  | _ => none

structure Mach where
  call : ECall
  loop : ELoop
def mach (Gt : Tri SFunc) : Nat → Mach
  | 0 => ⟨fun _ _ _ => none, fun _ _ _ _ => none⟩
  | n + 1 => ⟨fun f args T => match Gt.get f with
      | some s => match natOf? s.body with
       | some k => enat k args T
       | none => cond (Nat.beq args.length s.nargs) (EFr.fromK 0 args fun F => match codeE (mach Gt n).call (mach Gt n).loop s.body F T with
        | some (.normal, F, T) => match eresultsOf F T s.results with
          | some vs => some (eoneOf vs, T)
          | none => none
        | some (.ret, F, T) => match eresultsOf F T s.results with
          | some vs => some (eoneOf vs, T)
          | none => none
        | _ => none) none
      | none => none,
    fun live a F T => F.keepK live fun F => match codeE (mach Gt n).call (mach Gt n).loop a F T with
      | some (.normal, F, T) => (mach Gt n).loop live a F T
      | r => r⟩
end Go.Jq
