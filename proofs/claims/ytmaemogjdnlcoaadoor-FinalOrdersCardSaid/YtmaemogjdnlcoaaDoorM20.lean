/- Runs, told backwards: what must hold ahead for something to hold behind. -/
import Derived.Test.YtmaemogjdnlcoaaDoorM19
set_option linter.unusedSimpArgs false
set_option linter.unusedVariables false
namespace Go.Jq

def getv (o : Option Value) (h : AH) (K : Value → AH → Prop) : Prop := match o with | some v => K v h | none => False
def geth (o : Option AH) (K : AH → Prop) : Prop := match o with | some h => K h | none => False
def getvh (o : Option (Value × AH)) (K : Value → AH → Prop) : Prop := match o with | some x => K x.1 x.2 | none => False
def getc (o : Option (Nat × List Value)) (K : Nat → List Value → Prop) : Prop := match o with | some x => K x.1 x.2 | none => False

section
variable {h h1 : AH} {K : Value → AH → Prop} {v : Value} {c : Prop} [Decidable c]
@[simp] theorem getv_some : getv (some v) h K = K v h := rfl
@[simp] theorem getv_none : getv none h K = False := rfl
@[simp] theorem getv_ite {o : Option Value} : getv (if c then o else none) h K = (c ∧ getv o h K) := by
  by_cases hc : c <;> simp [hc]
@[simp] theorem getv_ite' {o : Option Value} : getv (if c then none else o) h K = (¬ c ∧ getv o h K) := by
  by_cases hc : c <;> simp [hc]
@[simp] theorem geth_some {K : AH → Prop} : geth (some h) K = K h := rfl
@[simp] theorem geth_none {K : AH → Prop} : geth none K = False := rfl
@[simp] theorem geth_ite {K : AH → Prop} {o : Option AH} : geth (if c then o else none) K = (c ∧ geth o K) := by
  by_cases hc : c <;> simp [hc]
@[simp] theorem getvh_some : getvh (some (v, h)) K = K v h := rfl
@[simp] theorem getvh_none : getvh none K = False := rfl
@[simp] theorem getvh_ite {o : Option (Value × AH)} : getvh (if c then o else none) K = (c ∧ getvh o K) := by
  by_cases hc : c <;> simp [hc]
@[simp] theorem getvh_ite' {o : Option (Value × AH)} : getvh (if c then none else o) K = (¬ c ∧ getvh o K) := by
  by_cases hc : c <;> simp [hc]
@[simp] theorem getc_some {K : Nat → List Value → Prop} {f : Nat} {l : List Value} : getc (some (f, l)) K = K f l := rfl
@[simp] theorem getc_none {K : Nat → List Value → Prop} : getc none K = False := rfl
theorem bind_ite {α β : Type} {x : Option α} {f : α → Option β} : (if c then x else none).bind f = if c then x.bind f else none := by
  by_cases hc : c <;> simp [hc]
theorem bind_ite' {α β : Type} {x : Option α} {f : α → Option β} : (if c then none else x).bind f = if c then none else x.bind f := by
  by_cases hc : c <;> simp [hc]
theorem map_ite {α β : Type} {x : Option α} {f : α → β} : (if c then x else none).map f = if c then x.map f else none := by
  by_cases hc : c <;> simp [hc]
end

def pickB : Option Value → Option Value → Option Value → Option Value
  | some (.bool t), some x, some y => some (if t then x else y)
  | some (.bool true), some x, none => some x
  | some (.bool false), none, some y => some y
  | _, _, _ => none
def boxB (h : AH) (x : Option Value) : Option (Value × AH) := (x.bind vcells).map fun cs => (.pointer (some ⟨h.next, 0, none⟩), h.alloc (.cells cs false false))
def buildB (zs : List Value) (ps : Option (List (Nat × Nat × Value))) : Option Value := (ps.bind fun l => sfill l zs).map fun cs => .agg cs.toArray
def mksliceB (h : AH) (n : Nat) (zs : List Value) (ps : Option (List (Nat × Nat × Value))) : Option (Value × AH) :=
  (ps.bind fun l => sfill l zs).map fun cs => (.slice (some ⟨h.next, 0, none⟩) n n, h.alloc (.cells cs false false))
def load1B (h : AH) (a : Option Value) : Option Value := (a.bind ptr).bind fun p => h.load1 p.1 p.2
def loadNB (h : AH) (n : Nat) (a : Option Value) : Option Value := (a.bind ptr).bind fun p => (h.load p.1 p.2 n).map fun cs => .agg cs.toArray
def one1 : List Value → Option Value
  | [u] => some u
  | _ => none
def store1B (h : AH) (a x : Option Value) : Option AH := (a.bind ptr).bind fun p => ((x.bind vcells).bind one1).bind fun u => h.store1 p.1 p.2 u
def storeNB (h : AH) (n : Nat) (a x : Option Value) : Option AH := (a.bind ptr).bind fun p => (x.bind vcells).bind fun cs => if cs.length = n then h.store p.1 p.2 cs else none
def nilchkB : Option Value → Option Value
  | some (.pointer (some a)) => some (.pointer (some a))
  | _ => none
def binB (op : BinOp) : Option Value → Option Value → Option Value
  | some a, some b => sbin op a b
  | _, _ => none
def eqBB (neg : Bool) : Option Value → Option Value → Option Value
  | some (.bool a), some (.bool b) => some (.bool (if neg then !(a == b) else (a == b)))
  | _, _ => none
def eqNB (neg : Bool) (ks : List Nat) : Option Value → Option Value → Option Value
  | some (.agg a), some (.agg b) => (cellsEq ks a.toList b.toList).map fun t => .bool (if neg then !t else t)
  | _, _ => none
def isnilB (k : Nat) (neg : Bool) (x : Option Value) : Option Value := (x.bind (snil k)).map fun t => .bool (if neg then !t else t)
def unB (op : UnOp) : Option Value → Option Value
  | some a => sun op a
  | none => none
def convB (k : IntKind) : Option Value → Option Value
  | some (.int _ n) => some (.int k (k.wrap n))
  | _ => none
def mkfuncB (f : Nat) : Option (List Value) → Option (List Value) → Option Value
  | some a, some b => some (.func (.func f) a.toArray b.toArray)
  | _, _ => none
def mkrowB (h : AH) (size bytes : Nat) (zs : List Value) : Option Value → Option Value → Option (Value × AH)
  | some (.int _ l), some (.int _ c) =>
      if 0 ≤ l ∧ l ≤ c ∧ c * bytes ≤ 70368744177664 ∧ c ≤ 70368744177664 ∧ zs.length = size then
        some (.slice (some ⟨h.next, 0, none⟩) l.toNat c.toNat, h.alloc (.cells (List.replicate c.toNat zs).flatten false false))
      else none
  | _, _ => none
def slstrB : Option Value → Option (Option Value) → Option (Option Value) → Option Value
  | some (.string s), some lo, some hi => (sbounds s.size s.size lo hi none).map fun x => .string (s.extract x.1 x.2.1)
  | _, _, _ => none
def slslB (size : Nat) : Option Value → Option (Option Value) → Option (Option Value) → Option (Option Value) → Option Value
  | some (.slice a len cap), some lo, some hi, some mx => sslice size a len cap lo hi mx
  | _, _, _, _ => none
def slarrB (n size : Nat) : Option (Nat × Nat) → Option (Option Value) → Option (Option Value) → Option (Option Value) → Option Value
  | some (b, o), some lo, some hi, some mx => sslice size (some ⟨b, o, none⟩) n n lo hi mx
  | _, _, _, _ => none
def fldB (off : Nat) : Option (Nat × Nat) → Option Value
  | some (b, o) => some (.pointer (some ⟨b, o + off, none⟩))
  | none => none
def idxSB (size : Nat) : Option Value → Option Value → Option Value
  | some (.slice (some a) len _), some (.int _ i) => if 0 ≤ i ∧ i < len then some (.pointer (some ⟨a.block, a.off + i.toNat * size, none⟩)) else none
  | _, _ => none
def idxAB (n size : Nat) : Option (Nat × Nat) → Option Value → Option Value
  | some (b, o), some (.int _ i) => if 0 ≤ i ∧ i < n then some (.pointer (some ⟨b, o + i.toNat * size, none⟩)) else none
  | _, _ => none
def idxV1B (n : Nat) : Option Value → Option Value → Option Value
  | some (.agg cs), some (.int _ i) => if 0 ≤ i ∧ i < n then cs.toList[i.toNat]? else none
  | _, _ => none
def idxVNB (n size : Nat) : Option Value → Option Value → Option Value
  | some (.agg cs), some (.int _ i) => if 0 ≤ i ∧ i < n then some (.agg ((cs.toList.drop (i.toNat * size)).take size).toArray) else none
  | _, _ => none
def idxTB : Option Value → Option Value → Option Value
  | some (.string s), some (.int _ i) => if 0 ≤ i then (s.data.toList[i.toNat]?).map fun b => .int .u8 b.toNat else none
  | _, _ => none
def part1B (off : Nat) : Option Value → Option Value
  | some (.agg cs) => cs.toList[off]?
  | _ => none
def partNB (off n : Nat) : Option Value → Option Value
  | some (.agg cs) => some (.agg ((cs.toList.drop off).take n).toArray)
  | _ => none
def extrB (i : Nat) : Option Value → Option Value
  | some (.tuple vs) => vs.toList[i]?
  | _ => none
def callvB : Option Value → Option (List Value) → Option (Nat × List Value)
  | some (.func (.func f) first caps), some l => some (f, first.toList ++ (l ++ caps.toList))
  | _, _ => none
def appendB (h : AH) (size bytes : Nat) : Option Value → Option Value → Option (Value × AH)
  | some a, some b => sappend h size bytes a b
  | _, _ => none
def copyB (h : AH) (size : Nat) : Option Value → Option Value → Option (Value × AH)
  | some a, some b => scopy h size a b
  | _, _ => none
def lenSB : Option Value → Option Value
  | some (.slice _ n _) => some (.int .i64 n)
  | _ => none
def lenTB : Option Value → Option Value
  | some (.string s) => some (.int .i64 s.size)
  | _ => none
def lenMB (h : AH) : Option Value → Option Value
  | some (.map none) => some (.int .i64 0)
  | some (.map (some r)) => match h.get r with
      | .map es _ => some (.int .i64 es.length)
      | _ => none
  | _ => none
def markB (h : AH) : Option Value → Option Value
  | some (.slice (some a) n c) => match h.get a.block with
    | .cells _ _ false => some (.slice (some a) n c)
    | _ => none
  | _ => none
def tostrB : Option Value → Option Value
  | some (.int _ n) => some (.string (Utf8.encode n))
  | _ => none
def clearB (h : AH) (zs : List Value) : Option Value → Option (Value × AH)
  | some (.slice (some a) n _) => if n = 0 then none else match h.store a.block a.off (Builtin.zeroCells zs.toArray n).toList with
    | some h' => some (.tuple #[], h')
    | none => none
  | _ => none
def mmB (mx : Bool) : Option (List Value) → Option Value
  | some (x :: r) => smm mx x r
  | _ => none

def wop (op : SOp) (ρ : SOpd → Option Value) (h : AH) (kv : Value → AH → Prop) (ks : AH → Prop) (kc : Nat → List Value → Prop) : Prop :=
  match op with
  | .bad => False
  | .mov x => getv (ρ x) h kv
  | .pick c a b => getv (pickB (ρ c) (ρ a) (ρ b)) h kv
  | .alloc zs => kv (.pointer (some ⟨h.next, 0, none⟩)) (h.alloc (.cells zs false false))
  | .box x => getvh (boxB h (ρ x)) kv
  | .build zs ps => getv (buildB zs (vparts ρ ps)) h kv
  | .mkslice n zs ps => getvh (mksliceB h n zs (vparts ρ ps)) kv
  | .load1 a => getv (load1B h (ρ a)) h kv
  | .loadN n a => getv (loadNB h n (ρ a)) h kv
  | .store1 a x => geth (store1B h (ρ a) (ρ x)) ks
  | .storeN n a x => geth (storeNB h n (ρ a) (ρ x)) ks
  | .nilchk x => getv (nilchkB (ρ x)) h kv
  | .bin op x y => getv (binB op (ρ x) (ρ y)) h kv
  | .eqB neg x y => getv (eqBB neg (ρ x) (ρ y)) h kv
  | .eqN neg ks' x y => getv (eqNB neg ks' (ρ x) (ρ y)) h kv
  | .isnil k neg x => getv (isnilB k neg (ρ x)) h kv
  | .un op x => getv (unB op (ρ x)) h kv
  | .conv k x => getv (convB k (ρ x)) h kv
  | .mkfunc f a b => getv (mkfuncB f (vals ρ a) (vals ρ b)) h kv
  | .mkmap => kv (.map (some h.next)) (h.alloc (.map [] 0))
  | .mkrow size bytes zs l c => getvh (mkrowB h size bytes zs (ρ l) (ρ c)) kv
  | .slstr x lo hi => getv (slstrB (ρ x) (optVal ρ lo) (optVal ρ hi)) h kv
  | .slsl size x lo hi mx => getv (slslB size (ρ x) (optVal ρ lo) (optVal ρ hi) (optVal ρ mx)) h kv
  | .slarr n size a lo hi mx => getv (slarrB n size ((ρ a).bind ptr) (optVal ρ lo) (optVal ρ hi) (optVal ρ mx)) h kv
  | .fld off a => getv (fldB off ((ρ a).bind ptr)) h kv
  | .idxS size x i => getv (idxSB size (ρ x) (ρ i)) h kv
  | .idxA n size a i => getv (idxAB n size ((ρ a).bind ptr) (ρ i)) h kv
  | .idxV1 n x i => getv (idxV1B n (ρ x) (ρ i)) h kv
  | .idxVN n size x i => getv (idxVNB n size (ρ x) (ρ i)) h kv
  | .idxT x i => getv (idxTB (ρ x) (ρ i)) h kv
  | .part1 off x => getv (part1B off (ρ x)) h kv
  | .partN off n x => getv (partNB off n (ρ x)) h kv
  | .extr x i => getv (extrB i (ρ x)) h kv
  | .call f args => getc ((vals ρ args).map (f, ·)) kc
  | .callv f args => getc (callvB (ρ f) (vals ρ args)) kc
  | .append size bytes x y => getvh (appendB h size bytes (ρ x) (ρ y)) kv
  | .copy size x y => getvh (copyB h size (ρ x) (ρ y)) kv
  | .lenS x => getv (lenSB (ρ x)) h kv
  | .lenT x => getv (lenTB (ρ x)) h kv
  | .lenM x => getv (lenMB h (ρ x)) h kv
  | .mm mx xs => getv (mmB mx (vals ρ xs)) h kv
  | .mark x => getv (markB h (ρ x)) h kv
  | .clear zs x => getvh (clearB h zs (ρ x)) kv
  | .tostr x => getv (tostrB (ρ x)) h kv

def outK (kv : Value → AH → Prop) (ks : AH → Prop) (kc : Nat → List Value → Prop) : Out → Prop
  | .val v h => kv v h
  | .skip h => ks h
  | .call f args => kc f args

theorem getv_inv {o : Option Value} {h : AH} {K : Value → AH → Prop} (H : getv o h K) : ∃ v, o = some v ∧ K v h := by
  cases o with
  | none => exact H.elim
  | some v => exact ⟨v, rfl, H⟩
theorem geth_inv {o : Option AH} {K : AH → Prop} (H : geth o K) : ∃ h, o = some h ∧ K h := by
  cases o with
  | none => exact H.elim
  | some v => exact ⟨v, rfl, H⟩
theorem getvh_inv {o : Option (Value × AH)} {K : Value → AH → Prop} (H : getvh o K) : ∃ v h, o = some (v, h) ∧ K v h := by
  cases o with
  | none => exact H.elim
  | some v => exact ⟨v.1, v.2, rfl, H⟩
theorem getc_inv {o : Option (Nat × List Value)} {K : Nat → List Value → Prop} (H : getc o K) : ∃ f l, o = some (f, l) ∧ K f l := by
  cases o with
  | none => exact H.elim
  | some v => exact ⟨v.1, v.2, rfl, H⟩

theorem wop_sop {op : SOp} {ρ : SOpd → Option Value} {h : AH} {kv : Value → AH → Prop} {ks : AH → Prop} {kc : Nat → List Value → Prop} (H : wop op ρ h kv ks kc) :
    ∃ o, sop op ρ h = some o ∧ outK kv ks kc o := by
  cases op <;> simp only [wop] at H <;> try (exact H.elim)
  case alloc => exact ⟨_, rfl, H⟩
  case mkmap => exact ⟨_, rfl, H⟩
  case store1 a x =>
    obtain ⟨h', e, H⟩ := geth_inv H
    refine ⟨.skip h', ?_, H⟩
    simp only [store1B, Option.bind_eq_some_iff] at e
    obtain ⟨⟨b, o⟩, ⟨p, e1, e2⟩, u, ⟨cs, ⟨y, e3, e4⟩, e5⟩, e6⟩ := e
    simp only [sop, e1, e3, Option.bind_some, e2, e4]
    match cs, e5 with
    | [u'], e5 => simp only [one1, Option.some.injEq] at e5; subst e5; simp only [e6]
  case storeN n a x =>
    obtain ⟨h', e, H⟩ := geth_inv H
    refine ⟨.skip h', ?_, H⟩
    simp only [storeNB, Option.bind_eq_some_iff] at e
    obtain ⟨⟨b, o⟩, ⟨p, e1, e2⟩, cs, ⟨y, e3, e4⟩, e5⟩ := e
    simp only [sop, e1, e3, Option.bind_some, e2, e4]
    split at e5
    · rename_i hl; rw [if_pos hl, e5]
    · simp at e5
  case call f args =>
    obtain ⟨f', l, e, H⟩ := getc_inv H
    refine ⟨.call f' l, ?_, H⟩
    simp only [Option.map_eq_some_iff, Prod.mk.injEq] at e
    obtain ⟨l', e1, rfl, rfl⟩ := e
    simp only [sop, e1]
  case callv f args =>
    obtain ⟨f', l, e, H⟩ := getc_inv H
    refine ⟨.call f' l, ?_, H⟩
    simp only [sop]
    revert e
    cases ρ f with
    | none => simp [callvB]
    | some v =>
      cases vals ρ args with
      | none => cases v <;> simp [callvB]
      | some a =>
        unfold callvB
        split
        · rename_i f2 first caps l2 h1 h2
          simp only [Option.some.injEq, Prod.mk.injEq] at h1 h2 ⊢
          subst h1; subst h2
          rintro ⟨rfl, rfl⟩
          rfl
        · simp
  case box x =>
    obtain ⟨v, h1, e, H⟩ := getvh_inv H
    refine ⟨.val v h1, ?_, H⟩
    simp only [sop]
    simp only [boxB, Option.map_eq_some_iff, Option.bind_eq_some_iff, Prod.mk.injEq] at e
    obtain ⟨cs, ⟨y, e1, e2⟩, rfl, rfl⟩ := e
    simp only [e1, e2]
  case mkslice n zs ps =>
    obtain ⟨v, h1, e, H⟩ := getvh_inv H
    refine ⟨.val v h1, ?_, H⟩
    simp only [sop]
    simp only [mksliceB, Option.map_eq_some_iff, Option.bind_eq_some_iff, Prod.mk.injEq] at e
    obtain ⟨cs, ⟨y, e1, e2⟩, rfl, rfl⟩ := e
    simp only [e1, e2]
  case mkrow size bytes zs l c =>
    obtain ⟨v, h1, e, H⟩ := getvh_inv H
    refine ⟨.val v h1, ?_, H⟩
    simp only [sop]
    revert e; unfold mkrowB; split
    · rename_i e1 e2; intro e; rw [e1, e2]; simp only; split at e
      · rename_i hc; rw [if_pos hc]; simp only [Option.some.injEq, Prod.mk.injEq] at e; obtain ⟨rfl, rfl⟩ := e; rfl
      · simp at e
    · simp
  case append size bytes x y =>
    obtain ⟨v, h1, e, H⟩ := getvh_inv H
    refine ⟨.val v h1, ?_, H⟩
    simp only [sop]
    revert e; unfold appendB; split
    · rename_i e1 e2; intro e; rw [e1, e2]; simp only [e]
    · simp
  case clear zs x =>
    obtain ⟨v, h1, e, H⟩ := getvh_inv H
    refine ⟨.val v h1, ?_, H⟩
    simp only [sop]
    revert e; unfold clearB; split
    · rename_i e1; rw [e1]; simp only; split
      · simp
      · split
        · rename_i e2; intro e; simp only [Option.some.injEq, Prod.mk.injEq] at e; obtain ⟨rfl, rfl⟩ := e; simp only [e2]
        · simp
    · simp
  case copy size x y =>
    obtain ⟨v, h1, e, H⟩ := getvh_inv H
    refine ⟨.val v h1, ?_, H⟩
    simp only [sop]
    revert e; unfold copyB; split
    · rename_i e1 e2; intro e; rw [e1, e2]; simp only [e]
    · simp
  all_goals
    obtain ⟨v, e, H⟩ := getv_inv H
    refine ⟨.val v h, ?_, H⟩
    clear H
    simp only [sop]
  case mov => rw [e]
  case pick c a b =>
    revert e; cases ρ c with
    | none => simp [pickB]
    | some x => cases ρ a with
      | none => cases ρ b with
        | none => cases x <;> simp [pickB]
        | some z => cases x <;> simp [pickB]; rename_i t; cases t <;> simp [pickB]
      | some y => cases ρ b with
        | none => cases x <;> simp [pickB]; rename_i t; cases t <;> simp [pickB]
        | some z => cases x <;> simp [pickB]
  case build zs ps =>
    simp only [buildB, Option.map_eq_some_iff, Option.bind_eq_some_iff] at e
    obtain ⟨cs, ⟨y, e1, e2⟩, rfl⟩ := e
    simp only [e1, e2]
  case load1 a =>
    simp only [load1B, Option.bind_eq_some_iff] at e
    obtain ⟨⟨b, o⟩, ⟨p, e1, e2⟩, e3⟩ := e
    simp only [e1, e2, e3, Option.bind_some]
  case loadN n a =>
    simp only [loadNB, Option.bind_eq_some_iff, Option.map_eq_some_iff] at e
    obtain ⟨⟨b, o⟩, ⟨p, e1, e2⟩, cs, e3, rfl⟩ := e
    simp only [e1, e2, e3, Option.bind_some]
  case nilchk x =>
    revert e; unfold nilchkB; split
    · rename_i e1; intro e; rw [e1]; simp at e; subst e; rfl
    · simp
  case bin op x y =>
    revert e; unfold binB; split
    · rename_i e1 e2; intro e; rw [e1, e2]; simp only [e]
    · simp
  case eqB neg x y =>
    revert e; unfold eqBB; split
    · rename_i e1 e2; intro e; rw [e1, e2]; simp only [Option.some.injEq] at e; subst e; rfl
    · simp
  case eqN neg ks x y =>
    revert e; unfold eqNB; split
    · rename_i e1 e2; intro e; rw [e1, e2]; simp only [Option.map_eq_some_iff] at e; obtain ⟨t, e3, rfl⟩ := e; simp only [e3]
    · simp
  case isnil k neg x =>
    simp only [isnilB, Option.map_eq_some_iff] at e
    obtain ⟨t, e1, rfl⟩ := e
    simp only [e1]
  case un op x =>
    revert e; unfold unB; split
    · rename_i e1; intro e; rw [e1]; simp only [e]
    · simp
  case conv k x =>
    revert e; unfold convB; split
    · rename_i e1; intro e; rw [e1]; simp only [Option.some.injEq] at e; subst e; rfl
    · simp
  case mkfunc f a b =>
    revert e; unfold mkfuncB; split
    · rename_i e1 e2; intro e; rw [e1, e2]; simp only [Option.some.injEq] at e; subst e; rfl
    · simp
  case slstr x lo hi =>
    revert e; unfold slstrB; split
    · rename_i e1 e2 e3; intro e; rw [e1, e2, e3]; simp only [Option.map_eq_some_iff] at e; obtain ⟨⟨l, h', m⟩, e4, rfl⟩ := e; simp only [e4]
    · simp
  case slsl size x lo hi mx =>
    revert e; unfold slslB; split
    · rename_i e1 e2 e3 e4; intro e; rw [e1, e2, e3, e4]; simp only [e]
    · simp
  case slarr n size a lo hi mx =>
    revert e; unfold slarrB; split
    · rename_i e1 e2 e3 e4; intro e; rw [e1, e2, e3, e4]; simp only [e]
    · simp
  case fld off a =>
    revert e; unfold fldB; split
    · rename_i e1; intro e; rw [e1]; simp only [Option.some.injEq] at e; subst e; rfl
    · simp
  case idxS size x i =>
    revert e; unfold idxSB; split
    · rename_i e1 e2; intro e; rw [e1, e2]; simp only; split at e
      · rename_i hc; rw [if_pos hc]; simp only [Option.some.injEq] at e; subst e; rfl
      · simp at e
    · simp
  case idxA n size a i =>
    revert e; unfold idxAB; split
    · rename_i e1 e2; intro e; rw [e1, e2]; simp only; split at e
      · rename_i hc; rw [if_pos hc]; simp only [Option.some.injEq] at e; subst e; rfl
      · simp at e
    · simp
  case idxV1 n x i =>
    revert e; unfold idxV1B; split
    · rename_i e1 e2; intro e; rw [e1, e2]; simp only; split at e
      · rename_i hc; rw [if_pos hc]; simp only [e]
      · simp at e
    · simp
  case idxVN n size x i =>
    revert e; unfold idxVNB; split
    · rename_i e1 e2; intro e; rw [e1, e2]; simp only; split at e
      · rename_i hc; rw [if_pos hc]; simp only [Option.some.injEq] at e; subst e; rfl
      · simp at e
    · simp
  case idxT x i =>
    revert e; unfold idxTB; split
    · rename_i e1 e2; intro e; rw [e1, e2]; simp only; split at e
      · rename_i hc; rw [if_pos hc]; simp only [Option.map_eq_some_iff] at e; obtain ⟨b, e3, rfl⟩ := e; simp only [e3]
      · simp at e
    · simp
  case part1 off x =>
    revert e; unfold part1B; split
    · rename_i e1; intro e; rw [e1]; simp only [e]
    · simp
  case partN off n x =>
    revert e; unfold partNB; split
    · rename_i e1; intro e; rw [e1]; simp only [Option.some.injEq] at e; subst e; rfl
    · simp
  case extr x i =>
    revert e; unfold extrB; split
    · rename_i e1; intro e; rw [e1]; simp only [e]
    · simp
  case lenS x =>
    revert e; unfold lenSB; split
    · rename_i e1; intro e; rw [e1]; simp only [Option.some.injEq] at e; subst e; rfl
    · simp
  case lenT x =>
    revert e; unfold lenTB; split
    · rename_i e1; intro e; rw [e1]; simp only [Option.some.injEq] at e; subst e; rfl
    · simp
  case lenM x =>
    revert e; unfold lenMB; split
    · rename_i e1; intro e; rw [e1]; simp only [Option.some.injEq] at e; subst e; rfl
    · rename_i r e1; rw [e1]; simp only; split
      · rename_i e2; intro e; simp only [Option.some.injEq] at e; subst e; simp only [*]
      · simp
    · simp
  case mm mx xs =>
    revert e; unfold mmB; split
    · rename_i e1; intro e; rw [e1]; simp only [e]
    · simp
  case tostr x =>
    revert e; unfold tostrB; split
    · rename_i e1; intro e; rw [e1]; simp only [Option.some.injEq] at e; subst e; rfl
    · simp
  case mark x =>
    revert e; unfold markB; split
    · rename_i e1; rw [e1]; simp only; split
      · rename_i e2; intro e; simp only [Option.some.injEq] at e; subst e; simp only [*]
      · simp
    · simp

end Go.Jq
