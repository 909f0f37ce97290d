/- The abstract machine, carried out: values and memory as data that a kernel can reckon with. -/
import Derived.Test.YtmaemogjdnlcoaaDoorM21
set_option linter.unusedSimpArgs false
set_option linter.unusedVariables false
namespace Go.Jq

/-- A row of numbered things. -/
inductive Tri (α : Type) where
  | leaf
  | node (o : Option α) (l r : Tri α)
def Tri.get {α : Type} : Tri α → Nat → Option α
  | .leaf, _ => none
  | .node o _ _, 0 => o
  | .node _ l r, m + 1 => cond (Nat.beq (m % 2) 1) (r.get (m / 2)) (l.get (m / 2))
/-- 'k' gets the row with 'b' at 'n' -/
def Tri.setK {α β : Type} (b : α) : Nat → Tri α → Nat → (Tri α → β) → β
  | 0, t, _, k => k t
  | _ + 1, .leaf, 0, k => k (.node (some b) .leaf .leaf)
  | f + 1, .leaf, m + 1, k => cond (Nat.beq (m % 2) 1) (Tri.setK b f .leaf (m / 2) fun t => k (.node none .leaf t)) (Tri.setK b f .leaf (m / 2) fun t => k (.node none t .leaf))
  | _ + 1, .node _ l r, 0, k => k (.node (some b) l r)
  | f + 1, .node o l r, m + 1, k => cond (Nat.beq (m % 2) 1) (Tri.setK b f r (m / 2) fun t => k (.node o l t)) (Tri.setK b f l (m / 2) fun t => k (.node o t r))
def Tri.set {α : Type} (t : Tri α) (n : Nat) (b : α) : Tri α := Tri.setK b (n + 1) t n id

theorem Tri.setK_eq {α : Type} {b : α} {f : Nat} : ∀ {β : Type} {t : Tri α} {n : Nat} {k : Tri α → β}, Tri.setK b f t n k = k (Tri.setK b f t n id) := by
  induction f with
  | zero => intro β t n k; simp only [Tri.setK]; rfl
  | succ f ih =>
    intro β t n k
    cases t <;> cases n with
    | zero => simp only [Tri.setK, id]
    | succ m =>
      simp only [Tri.setK]
      cases Nat.beq (m % 2) 1 <;> simp only [cond_true, cond_false] <;> (rw [ih]; conv => rhs; arg 1; rw [ih]) <;> rfl
theorem Tri.get_zero {α : Type} {o : Option α} {l r : Tri α} : (Tri.node o l r).get 0 = o := by rw [Tri.get]
theorem Tri.get_succ {α : Type} {o : Option α} {l r : Tri α} {m : Nat} : (Tri.node o l r).get (m + 1) = if m % 2 = 1 then r.get (m / 2) else l.get (m / 2) := by
  have : Nat.beq (m % 2) 1 = decide (m % 2 = 1) := by
    by_cases h : m % 2 = 1
    · rw [h]; rfl
    · have : m % 2 = 0 := by omega
      rw [this]; rfl
  rw [Tri.get, this]
  by_cases h : m % 2 = 1 <;> simp [h]
theorem Tri.leaf_get {α : Type} {n : Nat} : (Tri.leaf : Tri α).get n = none := by rw [Tri.get]
theorem Tri.setK_get {α : Type} {b : α} {f : Nat} : ∀ {t : Tri α} {n m : Nat}, n < f → (Tri.setK b f t n id).get m = if m = n then some b else t.get m := by
  induction f with
  | zero => intro t n m h; omega
  | succ f ih =>
    intro t n m h
    have hb : ∀ m, Nat.beq (m % 2) 1 = decide (m % 2 = 1) := fun m => by
      by_cases h : m % 2 = 1
      · rw [h]; rfl
      · have : m % 2 = 0 := by omega
        rw [this]; rfl
    have key : ∀ (o : Option α) (l r : Tri α) (n : Nat), n < f → (cond (Nat.beq (n % 2) 1) (Tri.setK b f r (n / 2) fun t => Tri.node o l t) (Tri.setK b f l (n / 2) fun t => Tri.node o t r)).get m = if m = n + 1 then some b else (Tri.node o l r).get m := by
      intro o l r n hn
      rw [hb]
      cases m with
      | zero =>
        by_cases h1 : n % 2 = 1
        · simp only [h1, decide_true, cond_true]
          rw [Tri.setK_eq]
          simp [Tri.get_zero]
        · simp only [h1, decide_false, cond_false]
          rw [Tri.setK_eq]
          simp [Tri.get_zero]
      | succ m =>
        by_cases h1 : n % 2 = 1
        · simp only [h1, decide_true, cond_true]
          rw [Tri.setK_eq, Tri.get_succ, Tri.get_succ, ih (by omega)]
          by_cases h2 : m % 2 = 1
          · rw [if_pos h2, if_pos h2]
            by_cases h3 : m = n
            · simp [h3]
            · rw [if_neg (by omega), if_neg (by omega)]
          · rw [if_neg h2, if_neg h2, if_neg (by rintro h; omega)]
        · simp only [h1, decide_false, cond_false]
          rw [Tri.setK_eq, Tri.get_succ, Tri.get_succ, ih (by omega)]
          by_cases h2 : m % 2 = 1
          · rw [if_pos h2, if_pos h2, if_neg (by rintro h; omega)]
          · rw [if_neg h2, if_neg h2]
            by_cases h3 : m = n
            · simp [h3]
            · rw [if_neg (by omega), if_neg (by omega)]
    cases t with
    | leaf =>
      cases n with
      | zero => cases m with
        | zero => simp [Tri.setK, Tri.get_zero]
        | succ m => simp [Tri.setK, Tri.get_succ, Tri.leaf_get]
      | succ n =>
        have := key none .leaf .leaf n (by omega)
        simp only [Tri.setK]
        refine Eq.trans this ?_
        congr 1
        cases m with
        | zero => rfl
        | succ m => rw [Tri.get_succ]; simp [Tri.leaf_get]
    | node o l r =>
      cases n with
      | zero => cases m with
        | zero => simp [Tri.setK, Tri.get_zero]
        | succ m => simp [Tri.setK, Tri.get_succ]
      | succ n => exact key o l r n (by omega)
theorem Tri.set_get {α : Type} {b : α} {t : Tri α} {n m : Nat} : (t.set n b).get m = if m = n then some b else t.get m := Tri.setK_get (Nat.lt_succ_self n)

/-- A value as data. 'raw': one that points into no memory of one's own. -/
inductive EV where
  | raw (v : Value)
  | ptr (b o : Nat)
  | slc (b o : Nat) (sp : Option Nat) (len cap : Nat)
  | mp (b : Nat)
  | fn (f : Nat) (first caps : List EV)
  | agg (l : List EV)
  | tup (l : List EV)
  deriving Inhabited

mutual
def den (n0 : Nat) : EV → Value
  | .raw v => v
  | .ptr b o => .pointer (some ⟨n0 + b, o, none⟩)
  | .slc b o sp len cap => .slice (some ⟨n0 + b, o, sp⟩) len cap
  | .mp b => .map (some (n0 + b))
  | .fn f first caps => .func (.func f) (denL n0 first).toArray (denL n0 caps).toArray
  | .agg l => .agg (denL n0 l).toArray
  | .tup l => .tuple (denL n0 l).toArray
def denL (n0 : Nat) : List EV → List Value
  | [] => []
  | v :: l => den n0 v :: denL n0 l
end
theorem denL_map {n0 : Nat} {l : List EV} : denL n0 l = l.map (den n0) := by
  induction l with
  | nil => rfl
  | cons v l ih => rw [denL, ih]; rfl

inductive EBlk where
  | cells (c : List EV) (grow ro : Bool)
  | map (es : List (EV × EV × Nat)) (clock : Nat)
  | dead
def denB (n0 : Nat) : EBlk → ABlk
  | .cells c g ro => .cells (c.map (den n0)) g ro
  | .map es clock => .map (es.map fun x => (den n0 x.1, den n0 x.2.1, x.2.2)) clock
  | .dead => .dead

structure TH where
  next : Nat
  tri : Tri EBlk
def denH (h : AH) (T : TH) : AH := ⟨h.next + T.next, fun i => if i < h.next then h.get i else match T.tri.get (i - h.next) with | some b => denB h.next b | none => h.get i⟩
def TH.get (T : TH) (b : Nat) : EBlk := match T.tri.get b with | some b => b | none => .dead
def TH.put (T : TH) (b : Nat) (o : EBlk) : TH := ⟨T.next, T.tri.set b o⟩
def TH.alloc (T : TH) (o : EBlk) : TH := ⟨T.next + 1, T.tri.set T.next o⟩
theorem denH_next {h : AH} {T : TH} : (denH h T).next = h.next + T.next := rfl
theorem denH_get {h : AH} {T : TH} {b : Nat} {x : EBlk} (H : T.get b = x) (hx : x ≠ .dead) : (denH h T).get (h.next + b) = denB h.next x := by
  simp only [denH, TH.get] at *
  rw [if_neg (by omega), show h.next + b - h.next = b by omega]
  cases e : T.tri.get b with
  | none => rw [e] at H; exact absurd H.symm hx
  | some y => rw [e] at H; subst H; rfl
theorem denH_nil {h : AH} : denH h ⟨0, .leaf⟩ = h := by
  cases h with
  | mk n g =>
    simp only [denH, Tri.leaf_get, Nat.add_zero, AH.mk.injEq, true_and]
    funext i
    split <;> rfl
theorem denH_ext {h : AH} {T : TH} {i : Nat} (hi : i < h.next) : (denH h T).get i = h.get i := by
  simp only [denH]; rw [if_pos hi]
theorem AH.ext'' {a b : AH} (h1 : a.next = b.next) (h2 : ∀ i, a.get i = b.get i) : a = b := by
  cases a; cases b; simp only [AH.mk.injEq]; exact ⟨h1, funext h2⟩
theorem denH_put {h : AH} {T : TH} {b : Nat} {o : EBlk} : denH h (T.put b o) = (denH h T).put (h.next + b) (denB h.next o) := by
  refine AH.ext'' rfl fun i => ?_
  simp only [denH, TH.put, AH.put, Tri.set_get]
  by_cases h1 : i < h.next
  · rw [if_pos h1, if_neg (by omega), if_pos h1]
  · rw [if_neg h1]
    by_cases h2 : i = h.next + b
    · rw [if_pos h2, if_pos (by omega)]
    · rw [if_neg h2, if_neg (by omega), if_neg h1]
theorem denH_alloc {h : AH} {T : TH} {o : EBlk} : denH h (T.alloc o) = (denH h T).alloc (denB h.next o) := by
  refine AH.ext'' (by simp [denH, TH.alloc, AH.alloc, Nat.add_assoc]) fun i => ?_
  show _ = if i = h.next + T.next then denB h.next o else (denH h T).get i
  simp only [denH, TH.alloc, Tri.set_get]
  by_cases h1 : i < h.next
  · rw [if_pos h1, if_neg (by omega), if_pos h1]
  · rw [if_neg h1]
    by_cases h2 : i = h.next + T.next
    · rw [if_pos h2, if_pos (by omega)]
    · rw [if_neg h2, if_neg (by omega), if_neg h1]

def TH.load1 (T : TH) (b off : Nat) : Option EV :=
  match T.get b with
  | .cells c _ _ => c[off]?
  | _ => none
def TH.load (T : TH) (b off n : Nat) : Option (List EV) :=
  match T.get b with
  | .cells c _ _ => if off + n ≤ c.length then some ((c.drop off).take n) else none
  | _ => none
def esplice (c : List EV) (off : Nat) (vs : List EV) : List EV := c.take off ++ (vs ++ c.drop (off + vs.length))
/-- 'k' gets the row, laid out -/
def forceL {α β : Type} : List α → (List α → β) → β
  | [], k => k []
  | a :: l, k => forceL l fun l => k (a :: l)
theorem forceL_eq {α β : Type} {l : List α} {k : List α → β} : forceL l k = k l := by
  induction l generalizing k with
  | nil => rfl
  | cons a l ih => rw [forceL, ih]
def TH.store1 (T : TH) (b off : Nat) (v : EV) : Option TH :=
  match T.get b with
  | .cells c g false => if off < c.length then forceL (c.set off v) fun c => some (T.put b (.cells c g false)) else none
  | _ => none
def TH.store (T : TH) (b off : Nat) (vs : List EV) : Option TH :=
  match T.get b with
  | .cells c g false => if off + vs.length ≤ c.length then forceL (esplice c off vs) fun c => some (T.put b (.cells c g false)) else none
  | _ => none

theorem den_load1 {h : AH} {T : TH} {b off : Nat} {v : EV} (H : T.load1 b off = some v) : (denH h T).load1 (h.next + b) off = some (den h.next v) := by
  unfold TH.load1 at H
  unfold AH.load1
  split at H
  · rename_i e
    rw [denH_get e (by simp)]
    simp only [denB, List.getElem?_map, H, Option.map_some]
  · simp at H
theorem den_load {h : AH} {T : TH} {b off n : Nat} {l : List EV} (H : T.load b off n = some l) : (denH h T).load (h.next + b) off n = some (l.map (den h.next)) := by
  unfold TH.load at H
  unfold AH.load
  split at H
  · rename_i e
    rw [denH_get e (by simp)]
    simp only [denB, List.length_map]
    split at H
    · rename_i hl
      simp only [Option.some.injEq] at H; subst H
      rw [if_pos hl, List.map_take, List.map_drop]
    · simp at H
  · simp at H
theorem den_splice {n0 : Nat} {c vs : List EV} {off : Nat} : (esplice c off vs).map (den n0) = splice (c.map (den n0)) off (vs.map (den n0)) := by
  simp [esplice, splice, List.map_take, List.map_drop]
theorem den_store1 {h : AH} {T T' : TH} {b off : Nat} {v : EV} (H : T.store1 b off v = some T') : (denH h T).store1 (h.next + b) off (den h.next v) = some (denH h T') := by
  unfold TH.store1 at H
  unfold AH.store1
  split at H
  · rename_i e
    rw [denH_get e (by simp)]
    simp only [denB, List.length_map]
    split at H
    · rename_i hl
      rw [forceL_eq] at H
      simp only [Option.some.injEq] at H; subst H
      rw [if_pos hl, denH_put, denB, List.map_set]
    · simp at H
  · simp at H
theorem den_store {h : AH} {T T' : TH} {b off : Nat} {vs : List EV} (H : T.store b off vs = some T') : (denH h T).store (h.next + b) off (vs.map (den h.next)) = some (denH h T') := by
  unfold TH.store at H
  unfold AH.store
  split at H
  · rename_i e
    rw [denH_get e (by simp)]
    simp only [denB, List.length_map]
    split at H
    · rename_i hl
      rw [forceL_eq] at H
      simp only [Option.some.injEq] at H; subst H
      rw [if_pos hl, denH_put, denB, den_splice]
    · simp at H
  · simp at H

/-- a constant of the text -/
def cv : Value → EV
  | .agg cs => .agg (cs.toList.map .raw)
  | .tuple cs => .tup (cs.toList.map .raw)
  | v => .raw v
theorem den_raws {n0 : Nat} {l : List Value} : (l.map EV.raw).map (den n0) = l := by
  rw [List.map_map]
  conv => rhs; rw [← List.map_id l]
  congr 1
theorem den_cv {n0 : Nat} {v : Value} : den n0 (cv v) = v := by
  cases v <;> simp only [cv, den] <;> simp [denL_map, den_raws, -List.map_map]
theorem den_cvs {n0 : Nat} {l : List Value} : (l.map cv).map (den n0) = l := by
  rw [List.map_map]
  conv => rhs; rw [← List.map_id l]
  congr 1
  funext v
  exact den_cv

abbrev EFr := List (Nat × EV)
def EFr.get : EFr → Nat → Option EV
  | [], _ => none
  | (k, v) :: r, t => cond (Nat.beq t k) (some v) (EFr.get r t)
def EFr.set : EFr → Nat → EV → EFr
  | [], t, v => [(t, v)]
  | (k, x) :: r, t, v => cond (Nat.beq t k) ((t, v) :: r) (cond (Nat.blt t k) ((t, v) :: (k, x) :: r) ((k, x) :: EFr.set r t v))
def EFr.del : EFr → Nat → EFr
  | [], _ => []
  | (k, x) :: r, t => cond (Nat.beq t k) (EFr.del r t) ((k, x) :: EFr.del r t)
def memB : List Nat → Nat → Bool
  | [], _ => false
  | a :: l, k => cond (Nat.beq k a) true (memB l k)
def EFr.keep : EFr → List Nat → EFr
  | [], _ => []
  | (k, x) :: r, l => cond (memB l k) ((k, x) :: EFr.keep r l) (EFr.keep r l)
def EFr.put (F : EFr) : Option Nat → EV → EFr
  | some t, v => F.set t v
  | none, _ => F
def EFr.unput (F : EFr) : Option Nat → EFr
  | some t => F.del t
  | none => F
def EFr.undo (F : EFr) : Option Nat → EFr
  | some t => F.set t (.tup [])
  | none => F
def EFr.val (F : EFr) : SOpd → Option EV
  | .tmp t => F.get t
  | .const v => some (cv v)
  | .func f => some (.fn f [] [])
def EFr.from : Nat → List EV → EFr
  | _, [] => []
  | i, v :: r => (i, v) :: EFr.from (i + 1) r
def denF (n0 : Nat) (F : EFr) : Fr := F.map fun x => (x.1, den n0 x.2)

theorem beqN {a b : Nat} : Nat.beq a b = decide (a = b) := by
  by_cases h : a = b
  · rw [h, Nat.beq_refl]; simp
  · rw [decide_eq_false h]
    cases e : Nat.beq a b with
    | false => rfl
    | true => exact absurd (Nat.eq_of_beq_eq_true e) h
theorem bltN {a b : Nat} : Nat.blt a b = decide (a < b) := by
  show Nat.ble (a + 1) b = _
  cases e : Nat.ble (a + 1) b with
  | true => rw [decide_eq_true]; exact Nat.le_of_ble_eq_true e
  | false => rw [decide_eq_false]; exact fun hh => by rw [Nat.ble_eq_true_of_le hh] at e; simp at e
theorem brec {α : Type} {a b : α} {p : Prop} [Decidable p] : cond (decide p) b a = if p then b else a := by
  by_cases h : p <;> simp [h]
theorem memB_eq {l : List Nat} {k : Nat} : memB l k = l.contains k := by
  induction l with
  | nil => rfl
  | cons a l ih =>
    simp only [memB, beqN, brec, List.contains_cons, ih]
    by_cases h : k = a <;> simp [h]

variable {n0 : Nat} {F : EFr}
theorem denF_get {t : Nat} : (denF n0 F).get t = (F.get t).map (den n0) := by
  induction F with
  | nil => rfl
  | cons x r ih =>
    obtain ⟨k, v⟩ := x
    simp only [EFr.get, beqN, brec]
    show Fr.get ((k, den n0 v) :: denF n0 r) t = _
    rw [Fr.get, ih]
    split <;> rfl
theorem denF_set {t : Nat} {v : EV} : denF n0 (F.set t v) = (denF n0 F).set t (den n0 v) := by
  induction F with
  | nil => rfl
  | cons x r ih =>
    obtain ⟨k, u⟩ := x
    show _ = Fr.set ((k, den n0 u) :: denF n0 r) t (den n0 v)
    simp only [EFr.set, beqN, bltN, brec, Fr.set]
    split
    · rfl
    · split
      · rfl
      · rw [← ih]; rfl
theorem denF_del {t : Nat} : denF n0 (F.del t) = (denF n0 F).del t := by
  induction F with
  | nil => rfl
  | cons x r ih =>
    obtain ⟨k, u⟩ := x
    show _ = Fr.del ((k, den n0 u) :: denF n0 r) t
    simp only [EFr.del, beqN, brec, Fr.del]
    split
    · exact ih
    · rw [← ih]; rfl
theorem denF_keep {l : List Nat} : denF n0 (F.keep l) = (denF n0 F).keep l := by
  induction F with
  | nil => rfl
  | cons x r ih =>
    obtain ⟨k, u⟩ := x
    show _ = Fr.keep ((k, den n0 u) :: denF n0 r) l
    simp only [EFr.keep, memB_eq, Fr.keep]
    cases l.contains k
    · exact ih
    · simp only [if_true]; rw [← ih]; rfl
theorem denF_put {d : Option Nat} {v : EV} : denF n0 (F.put d v) = (denF n0 F).put d (den n0 v) := by
  cases d with
  | none => rfl
  | some t => exact denF_set
theorem denF_unput {d : Option Nat} : denF n0 (F.unput d) = (denF n0 F).unput d := by
  cases d with
  | none => rfl
  | some t => exact denF_del
theorem denF_undo {d : Option Nat} : denF n0 (F.undo d) = (denF n0 F).undo d := by
  cases d with
  | none => rfl
  | some t => exact denF_set
theorem denF_val {x : SOpd} : (denF n0 F).val x = (F.val x).map (den n0) := by
  cases x with
  | tmp t => exact denF_get
  | const v => simp [Fr.val, EFr.val, den_cv]
  | func f => simp [Fr.val, EFr.val, den, denL]
theorem denF_from {l : List EV} {i : Nat} : denF n0 (EFr.from i l) = Fr.from i (l.map (den n0)) := by
  induction l generalizing i with
  | nil => rfl
  | cons v l ih =>
    show (i, den n0 v) :: denF n0 (EFr.from (i + 1) l) = _
    rw [ih]; rfl
end Go.Jq
