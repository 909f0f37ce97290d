/- How the abstract memory stands to the true one. -/
import Derived.Test.YtmaemogjdnlcoaaDoorM1
import Derived.Below
import Derived.Laws.Cells
set_option linter.unusedSimpArgs false
set_option linter.unusedVariables false
namespace Go.Jq
open Go.RowKit

/-- Two rows, related one by one. -/
inductive FA2 {α β : Type} (R : α → β → Prop) : List α → List β → Prop
  | nil : FA2 R [] []
  | cons {a : α} {b : β} {l : List α} {m : List β} : R a b → FA2 R l m → FA2 R (a :: l) (b :: m)

/-- abstract block ↦ true block, where it begins in it, how many cells that has -/
abbrev Gm := Nat → Option (Nat × Nat × Nat)

structure Ctx where
  P : Program
  φ : Nat → FuncId
  ψ : FuncId → Option Nat
  L : Nat → Bool
  base : Nat
  w0 : World
  back : ∀ f g, ψ f = some g → φ g = f ∧ L g = true
  calls : ∀ f, L f = true → ∀ (args : Array Value) (w : World), (callFunc (φ f) args).run P w = .ok (.enter (φ f) args) w

inductive VR (C : Ctx) (γ : Gm) : Value → Value → Prop
  | bool {b : Bool} : VR C γ (.bool b) (.bool b)
  | int {k : IntKind} {n : Int} : VR C γ (.int k n) (.int k n)
  | str {s : ByteArray} : VR C γ (.string s) (.string s)
  | ptr0 : VR C γ (.pointer none) (.pointer none)
  | ptr {b o B s N : Nat} : γ b = some (B, s, N) → VR C γ (.pointer (some ⟨b, o, none⟩)) (.pointer (some ⟨B, s + o, none⟩))
  | sl0 {l c : Nat} : VR C γ (.slice none l c) (.slice none l c)
  | slX {b o B s N l c : Nat} : γ b = some (B, s, N) → VR C γ (.slice (some ⟨b, o, none⟩) l c) (.slice (some ⟨B, s + o, none⟩) l c)
  | slI {b o B s N k l c c' : Nat} : γ b = some (B, s, N) → l ≤ c → c ≤ c' → s + o + c' * k ≤ N → VR C γ (.slice (some ⟨b, o, some k⟩) l c) (.slice (some ⟨B, s + o, none⟩) l c')
  | slE {b o B s N k o' : Nat} : γ b = some (B, s, N) → VR C γ (.slice (some ⟨b, o, some k⟩) 0 0) (.slice (some ⟨B, o', none⟩) 0 0)
  | map0 : VR C γ (.map none) (.map none)
  | map {b B N : Nat} : γ b = some (B, 0, N) → VR C γ (.map (some b)) (.map (some B))
  | func0 : VR C γ .nilFunc .nilFunc
  | func {f : Nat} {a b a' b' : Array Value} : C.L f = true → FA2 (VR C γ) a.toList a'.toList → FA2 (VR C γ) b.toList b'.toList →
      VR C γ (.func (.func f) a b) (.func (.func (C.φ f)) a' b')
  | agg {a b : Array Value} : FA2 (VR C γ) a.toList b.toList → (∀ x ∈ a.toList, x.oneCell' = true) → VR C γ (.agg a) (.agg b)
  | tuple {a b : Array Value} : FA2 (VR C γ) a.toList b.toList → VR C γ (.tuple a) (.tuple b)

def Sub (γ γ' : Gm) : Prop := ∀ b x, γ b = some x → γ' b = some x
theorem Sub.refl (γ : Gm) : Sub γ γ := fun _ _ h => h
theorem Sub.trans {a b c : Gm} (h : Sub a b) (k : Sub b c) : Sub a c := fun _ _ x => k _ _ (h _ _ x)

theorem AH.put_get (h : AH) (b : Nat) (o : ABlk) (i : Nat) : (h.put b o).get i = if i = b then o else h.get i := rfl
theorem AH.put_next (h : AH) (b : Nat) (o : ABlk) : (h.put b o).next = h.next := rfl
theorem AH.alloc_get (h : AH) (o : ABlk) (i : Nat) : (h.alloc o).get i = if i = h.next then o else h.get i := rfl
theorem AH.alloc_next (h : AH) (o : ABlk) : (h.alloc o).next = h.next + 1 := rfl

section FA2
variable {α β : Type} {R : α → β → Prop}
theorem FA2.length {l : List α} {m : List β} (h : FA2 R l m) : l.length = m.length := by
  induction h with
  | nil => rfl
  | cons _ _ ih => simp [ih]
theorem FA2.get {l : List α} {m : List β} (h : FA2 R l m) : ∀ {i : Nat} {a : α}, l[i]? = some a → ∃ b, m[i]? = some b ∧ R a b := by
  induction h with
  | nil => intro i a h; simp at h
  | cons r _ ih =>
    intro i a h
    cases i with
    | zero => simp at h; subst h; exact ⟨_, rfl, r⟩
    | succ i => simp at h; obtain ⟨b, hb, hr⟩ := ih h; exact ⟨b, by simpa using hb, hr⟩
theorem FA2.mono {S : α → β → Prop} {l : List α} {m : List β} (h : FA2 R l m) (hs : ∀ a b, R a b → S a b) : FA2 S l m := by
  induction h with
  | nil => exact .nil
  | cons r _ ih => exact .cons (hs _ _ r) ih
theorem FA2.append {l l' : List α} {m m' : List β} (h : FA2 R l m) (h' : FA2 R l' m') : FA2 R (l ++ l') (m ++ m') := by
  induction h with
  | nil => exact h'
  | cons r _ ih => exact .cons r ih
theorem FA2.take {l : List α} {m : List β} (h : FA2 R l m) : ∀ n, FA2 R (l.take n) (m.take n) := by
  induction h with
  | nil => intro n; simp; exact .nil
  | cons r _ ih => intro n; cases n with
    | zero => simp; exact .nil
    | succ n => simp; exact .cons r (ih n)
theorem FA2.drop {l : List α} {m : List β} (h : FA2 R l m) : ∀ n, FA2 R (l.drop n) (m.drop n) := by
  induction h with
  | nil => intro n; simp; exact .nil
  | cons r h ih => intro n; cases n with
    | zero => simp; exact .cons r h
    | succ n => simp; exact ih n
theorem FA2.of_get {l : List α} {m : List β} (hl : l.length = m.length) (h : ∀ (i : Nat) (a : α) (b : β), l[i]? = some a → m[i]? = some b → R a b) : FA2 R l m := by
  induction l generalizing m with
  | nil => cases m with
    | nil => exact .nil
    | cons _ _ => simp at hl
  | cons a l ih => cases m with
    | nil => simp at hl
    | cons b m =>
      refine .cons (h 0 a b rfl rfl) (ih (by simpa using hl) fun i x y hx hy => h (i + 1) x y (by simpa using hx) (by simpa using hy))
theorem FA2.set {l : List α} {m : List β} (h : FA2 R l m) {a : α} {b : β} (r : R a b) (n : Nat) : FA2 R (l.set n a) (m.set n b) := by
  induction h generalizing n with
  | nil => exact .nil
  | cons r' h ih => cases n with
    | zero => exact .cons r h
    | succ n => exact .cons r' (ih n)
theorem FA2.one {a : α} {b : β} (r : R a b) : FA2 R [a] [b] := .cons r .nil
theorem FA2.replicate {a : α} {b : β} (r : R a b) (n : Nat) : FA2 R (List.replicate n a) (List.replicate n b) := by
  induction n with
  | zero => exact .nil
  | succ n ih => exact .cons r ih
end FA2

section VR
variable {C : Ctx} {γ γ' : Gm}
mutual
theorem VR.mono' (hs : Sub γ γ') : ∀ {v v' : Value}, VR C γ v v' → VR C γ' v v'
  | _, _, .bool => .bool
  | _, _, .int => .int
  | _, _, .str => .str
  | _, _, .ptr0 => .ptr0
  | _, _, .ptr h => .ptr (hs _ _ h)
  | _, _, .sl0 => .sl0
  | _, _, .slX h => .slX (hs _ _ h)
  | _, _, .slI h a b c => .slI (hs _ _ h) a b c
  | _, _, .slE h => .slE (hs _ _ h)
  | _, _, .map0 => .map0
  | _, _, .map h => .map (hs _ _ h)
  | _, _, .func0 => .func0
  | _, _, .func hl h k => .func hl (VR.monoL hs h) (VR.monoL hs k)
  | _, _, .agg h k => .agg (VR.monoL hs h) k
  | _, _, .tuple h => .tuple (VR.monoL hs h)
theorem VR.monoL (hs : Sub γ γ') : ∀ {l m : List Value}, FA2 (VR C γ) l m → FA2 (VR C γ') l m
  | _, _, .nil => .nil
  | _, _, .cons h k => .cons (VR.mono' hs h) (VR.monoL hs k)
end
theorem VR.mono (hs : Sub γ γ') {v v' : Value} (h : VR C γ v v') : VR C γ' v v' := VR.mono' hs h

theorem VR.one {v v' : Value} (h : VR C γ v v') : v'.oneCell' = v.oneCell' := by cases h <;> rfl
theorem plain1_VR {v : Value} (h : plain1 v = true) : VR C γ v v := by
  unfold plain1 at h
  split at h <;> first | exact .bool | exact .int | exact .str | exact .ptr0 | exact .sl0 | exact .map0 | exact .func0 | simp at h
theorem plain1_one {v : Value} (h : plain1 v = true) : v.oneCell' = true := by
  unfold plain1 at h
  split at h <;> first | rfl | simp at h
theorem plains_VR {l : List Value} (h : l.all plain1 = true) : FA2 (VR C γ) l l := by
  induction l with
  | nil => exact .nil
  | cons a l ih => simp at h; exact .cons (plain1_VR h.1) (ih (by simpa using h.2))
theorem plainV_VR {v : Value} (h : plainV v = true) : VR C γ v v := by
  unfold plainV at h
  split at h
  · exact .agg (plains_VR h) fun x hx => plain1_one (List.all_eq_true.1 h x hx)
  · exact plain1_VR h
theorem VR.cells {v v' : Value} (h : VR C γ v v') {l : List Value} (hl : vcells v = some l) :
    FA2 (VR C γ) l v'.cells.toList ∧ ∀ x ∈ l, x.oneCell' = true := by
  cases h <;> simp [vcells] at hl <;> subst hl
  case agg h k => exact ⟨h, k⟩
  all_goals exact ⟨.one (by first | exact .bool | exact .int | exact .str | exact .ptr0 | exact .sl0 | exact .map0 | exact .func0 | (constructor <;> assumption)), by simp [Value.oneCell']⟩
theorem VR.ptr_inv {v v' : Value} (h : VR C γ v v') {b o : Nat} (hp : Go.Jq.ptr v = some (b, o)) :
    ∃ B s N, γ b = some (B, s, N) ∧ v' = .pointer (some ⟨B, s + o, none⟩) := by
  cases h <;> simp [Go.Jq.ptr] at hp
  case ptr h => obtain ⟨rfl, rfl⟩ := hp; exact ⟨_, _, _, h, rfl⟩
theorem VR.bool_inv {b : Bool} {v : Value} (h : VR C γ (.bool b) v) : v = .bool b := by cases h; rfl
theorem VR.int_inv {k : IntKind} {n : Int} {v : Value} (h : VR C γ (.int k n) v) : v = .int k n := by cases h; rfl
theorem VR.str_inv {s : ByteArray} {v : Value} (h : VR C γ (.string s) v) : v = .string s := by cases h; rfl
theorem VR.agg_inv {s : Array Value} {v : Value} (h : VR C γ (.agg s) v) : ∃ t, v = .agg t ∧ FA2 (VR C γ) s.toList t.toList ∧ ∀ x ∈ s.toList, x.oneCell' = true := by cases h; exact ⟨_, rfl, by assumption, by assumption⟩
theorem VR.tuple_inv {s : Array Value} {v : Value} (h : VR C γ (.tuple s) v) : ∃ t, v = .tuple t ∧ FA2 (VR C γ) s.toList t.toList := by cases h; exact ⟨_, rfl, by assumption⟩
theorem VR.func_inv {f : Nat} {a b : Array Value} {v : Value} (h : VR C γ (.func (.func f) a b) v) : ∃ a' b', v = .func (.func (C.φ f)) a' b' ∧ C.L f = true ∧ FA2 (VR C γ) a.toList a'.toList ∧ FA2 (VR C γ) b.toList b'.toList := by
  cases h; exact ⟨_, _, rfl, by assumption, by assumption, by assumption⟩
theorem VR.map_inv {b : Nat} {v : Value} (h : VR C γ (.map (some b)) v) : ∃ B N, v = .map (some B) ∧ γ b = some (B, 0, N) := by cases h; exact ⟨_, _, rfl, by assumption⟩
theorem VR.map0_inv {v : Value} (h : VR C γ (.map none) v) : v = .map none := by cases h; rfl
end VR

/-- May a block be written? -/
def ABlk.wr : ABlk → Bool
  | .cells _ _ ro => !ro
  | .map .. => true
  | .dead => false

def ER (C : Ctx) (γ : Gm) (e : Value × Value × Nat) (m : MapEntry) : Prop := VR C γ e.1 m.key ∧ VR C γ e.2.1 m.val ∧ e.2.2 = m.born

/-- A block of either memory. -/
def BR (C : Ctx) (γ : Gm) (o : ABlk) (t : Option Obj) (B s N : Nat) : Prop :=
  match o with
  | .cells c _ ro => ∃ D E lo hi, t = some (.cells D E (lo, hi)) ∧ D.size = N ∧ s + c.length ≤ N ∧ FA2 (VR C γ) c ((D.toList.drop s).take c.length) ∧ (∀ x ∈ c, x.oneCell' = true) ∧
      (ro = true → B < C.base) ∧ (ro = false → C.base ≤ B ∧ (hi = lo ∨ N ≤ lo))
  | .map es clk => ∃ es', t = some (.map es' clk) ∧ s = 0 ∧ C.base ≤ B ∧ FA2 (ER C γ) es es'.toList
  | .dead => True

structure HR (C : Ctx) (γ : Gm) (h : AH) (w : World) : Prop where
  below : Below C.base C.w0 w
  low : C.base ≤ C.w0.heap.size
  blk : ∀ b B s N, γ b = some (B, s, N) → BR C γ (h.get b) (w.heap[B]?) B s N
  inj : ∀ b b' B s N s' N', γ b = some (B, s, N) → γ b' = some (B, s', N') → (h.get b).wr = true → (h.get b').wr = true → b = b'
  dom : ∀ b, h.next ≤ b → γ b = none

section HR
variable {C : Ctx} {γ : Gm} {h : AH} {w : World}

theorem HR.drew (H : HR C γ h w) (n : Nat) : HR C γ h { w with drawn := n } := ⟨⟨H.below.os, H.below.tape, H.below.output, H.below.size, H.below.block⟩, H.low, H.blk, H.inj, H.dom⟩

theorem HR.size (H : HR C γ h w) : C.base ≤ w.heap.size := Nat.le_trans H.low H.below.size

theorem BR.mono {γ γ' : Gm} (hs : Sub γ γ') {o : ABlk} {t : Option Obj} {B s N : Nat} (k : BR C γ o t B s N) : BR C γ' o t B s N := by
  cases o with
  | cells c g ro =>
    obtain ⟨D, E, lo, hi, h1, h2, h3, h4, h5, h6⟩ := k
    exact ⟨D, E, lo, hi, h1, h2, h3, VR.monoL hs h4, h5, h6⟩
  | map es clk =>
    obtain ⟨es', h1, h2, h3, h4⟩ := k
    exact ⟨es', h1, h2, h3, h4.mono fun a b ⟨x, y, z⟩ => ⟨x.mono hs, y.mono hs, z⟩⟩
  | dead => trivial

/-- What stands in a block, read. -/
theorem HR.cells (H : HR C γ h w) {b B s N : Nat} (hb : γ b = some (B, s, N)) {c : List Value} {g ro : Bool} (hc : h.get b = .cells c g ro) :
    ∃ D E lo hi, w.heap[B]? = some (.cells D E (lo, hi)) ∧ D.size = N ∧ s + c.length ≤ N ∧ FA2 (VR C γ) c ((D.toList.drop s).take c.length) ∧ (∀ x ∈ c, x.oneCell' = true) ∧
      (ro = true → B < C.base) ∧ (ro = false → C.base ≤ B ∧ (hi = lo ∨ N ≤ lo)) := by
  have := H.blk b B s N hb
  rw [hc] at this
  exact this

theorem cell_of {w : World} {B o : Nat} {D : Array Value} {E : TypeId} {f : Nat × Nat} (hw : w.heap[B]? = some (.cells D E f)) : w.cell? ⟨B, o, none⟩ = D[o]? := by
  simp [World.cell?, hw]

/-- A row of cells, loaded. -/
theorem HR.load (H : HR C γ h w) {b o n B s N : Nat} {l : List Value} (hb : γ b = some (B, s, N)) (hl : h.load b o n = some l) :
    ∃ l', (loadCells ⟨B, s + o, none⟩ n).run C.P w = .ok l' w ∧ FA2 (VR C γ) l l'.toList ∧ l.length = n ∧ (∀ x ∈ l, x.oneCell' = true) ∧ s + o + n ≤ N := by
  unfold AH.load at hl
  split at hl
  · rename_i c g ro hc
    split at hl
    · rename_i hlen
      simp at hl
      subst hl
      obtain ⟨D, E, lo, hi, h1, h2, h3, h4, h5, _⟩ := H.cells hb hc
      have hD : FA2 (VR C γ) ((c.drop o).take n) ((D.toList.drop (s + o)).take n) := by
        have := (h4.drop o).take n
        rw [List.drop_take, List.take_take, List.drop_drop, Nat.min_eq_left (by omega)] at this
        exact this
      have hlen' : ((D.toList.drop (s + o)).take n).length = n := by simp; omega
      refine ⟨((D.toList.drop (s + o)).take n).toArray, ?_, by simpa using hD, by simp; omega, fun x hx => h5 x (List.mem_of_mem_drop (List.mem_of_mem_take hx)), by omega⟩
      have := run_loadCells_list (P := C.P) w ⟨B, s + o, none⟩ ((D.toList.drop (s + o)).take n) (fun j v hj => by
        have hj2 : j < n := by
          have := (List.getElem?_eq_some_iff.1 hj).1
          omega
        rw [List.getElem?_take, if_pos hj2, List.getElem?_drop] at hj
        cases j with
        | zero => simp [Addr.add, cell_of h1]; simpa using hj
        | succ j => simp [Addr.add, cell_of h1]; rw [← hj]; simp [Nat.add_assoc])
      rwa [hlen'] at this
    · simp at hl
  · simp at hl

theorem HR.load1 (H : HR C γ h w) {b o B s N : Nat} {v : Value} (hb : γ b = some (B, s, N)) (hl : h.load1 b o = some v) :
    ∃ v', w.cell? ⟨B, s + o, none⟩ = some v' ∧ VR C γ v v' ∧ v.oneCell' = true := by
  unfold AH.load1 at hl
  split at hl
  · rename_i c g ro hc
    obtain ⟨D, E, lo, hi, h1, h2, h3, h4, h5, _⟩ := H.cells hb hc
    obtain ⟨v', hv', hr⟩ := h4.get hl
    have ho : o < c.length := (List.getElem?_eq_some_iff.1 hl).1
    rw [List.getElem?_take, if_pos ho, List.getElem?_drop] at hv'
    exact ⟨v', by rw [cell_of h1]; simpa using hv', hr, h5 v (List.mem_of_getElem? hl)⟩
  · simp at hl

/-- The block, behind a write. -/
theorem Below.modify {B : Nat} {w0 w : World} (h : Below B w0 w) {k : Nat} (hk : B ≤ k) (f : Obj → Obj) : Below B w0 { w with heap := w.heap.modify k f } :=
  ⟨h.os, h.tape, h.output, by simpa using h.size, fun i hi => by
    rw [← h.block i hi]; simp only [Array.getElem?_modify]; rw [if_neg (by omega)]⟩

theorem FA2.splice {α β : Type} {R : α → β → Prop} {c : List α} {d : List β} (h : FA2 R c d) {x : List α} {y : List β} (k : FA2 R x y) (o : Nat) :
    FA2 R (c.take o ++ (x ++ c.drop (o + x.length))) (d.take o ++ (y ++ d.drop (o + y.length))) := by
  rw [k.length]
  exact (h.take o).append (k.append (h.drop _))

/-- A write of a row of cells into one block. -/
theorem HR.write (H : HR C γ h w) {b B s N : Nat} (hb : γ b = some (B, s, N)) {c : List Value} {g : Bool} (hc : h.get b = .cells c g false)
    {D : Array Value} {E : TypeId} {f : Nat × Nat} (hD : w.heap[B]? = some (.cells D E f)) {c' : List Value} {D' : Array Value} (hl : c'.length = c.length) (hs : D'.size = D.size)
    (hR : FA2 (VR C γ) c' ((D'.toList.drop s).take c'.length)) (h1 : ∀ x ∈ c', x.oneCell' = true) {w' : World} (hw : w' = { w with heap := w.heap.modify B fun _ => .cells D' E f }) :
    HR C γ (h.put b (.cells c' g false)) w' := by
  subst hw
  obtain ⟨D0, E0, lo, hi, e1, e2, e3, e4, e5, _, e6⟩ := H.cells hb hc
  rw [hD] at e1
  simp only [Option.some.injEq, Obj.cells.injEq] at e1
  obtain ⟨rfl, rfl, rfl⟩ := e1
  have e7 := e6 rfl
  refine ⟨Below.modify H.below e7.1 _, H.low, ?_, ?_, H.dom⟩
  · intro b' B' s' N' hb'
    by_cases hbb : b' = b
    · subst hbb
      rw [hb] at hb'
      simp only [Option.some.injEq, Prod.mk.injEq] at hb'
      obtain ⟨rfl, rfl, rfl⟩ := hb'
      simp only [AH.put, if_true]
      refine ⟨D', E, lo, hi, ?_, by omega, by omega, hR, h1, by simp, fun _ => e7⟩
      simp [Array.getElem?_modify, hD]
    · simp only [AH.put, if_neg hbb]
      have hk := H.blk b' B' s' N' hb'
      by_cases hBB : B' = B
      · subst hBB
        cases ho : h.get b' with
        | dead => trivial
        | map es clk =>
          rw [ho] at hk
          obtain ⟨es', k1, _⟩ := hk
          rw [hD] at k1; simp at k1
        | cells c2 g2 ro2 =>
          rw [ho] at hk
          obtain ⟨_, _, _, _, _, _, _, _, _, k6, k7⟩ := hk
          cases ro2 with
          | true => have := k6 rfl; omega
          | false =>
            exact absurd (H.inj b' b _ _ _ _ _ hb' hb (by simp [ABlk.wr, ho]) (by simp [ABlk.wr, hc])) hbb
      · have : (w.heap.modify B fun _ => Obj.cells D' E (lo, hi))[B']? = w.heap[B']? := by
          rw [Array.getElem?_modify, if_neg (by omega)]
        simpa [this] using hk
  · intro b1 b2 B' s1 N1 s2 N2 q1 q2 w1 w2
    refine H.inj b1 b2 B' s1 N1 s2 N2 q1 q2 ?_ ?_
    · by_cases hbb : b1 = b
      · subst hbb; simp [ABlk.wr, hc]
      · simpa [AH.put, hbb] using w1
    · by_cases hbb : b2 = b
      · subst hbb; simp [ABlk.wr, hc]
      · simpa [AH.put, hbb] using w2
end HR

end Go.Jq
