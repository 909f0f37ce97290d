/- From runs of the small code to calls of the program. -/
import Derived.Test.YtmaemogjdnlcoaaDoorM23
set_option linter.unusedSimpArgs false
set_option linter.unusedVariables false
namespace Go.Jq
open Go.RowKit

abbrev Names := List (Nat × Nat)
def Names.φ (t : Names) (g : Nat) : FuncId := ((t.find? (·.1 == g)).map (·.2)).getD 0
def Names.ψ (t : Names) (f : FuncId) : Option Nat := (t.find? (·.2 == f)).map (·.1)
def Names.has (t : Names) (g : Nat) : Bool := (t.find? (·.1 == g)).isSome
def Names.ok (t : Names) : Bool := t.all fun x => t.find? (·.1 == x.1) == some x

theorem Names.back {t : Names} (h : t.ok = true) {f : FuncId} {g : Nat} (e : t.ψ f = some g) : t.φ g = f ∧ t.has g = true := by
  unfold Names.ψ at e
  rw [Option.map_eq_some_iff] at e
  obtain ⟨x, h1, rfl⟩ := e
  have hm := List.mem_of_find?_eq_some h1
  have hf := List.find?_some h1
  have hk := List.all_eq_true.1 h x hm
  have hk : t.find? (fun y => y.1 == x.1) = some x := eq_of_beq hk
  refine ⟨?_, ?_⟩
  · unfold Names.φ; rw [hk]; simpa using hf
  · unfold Names.has; rw [hk]; rfl
theorem Names.mem {t : Names} {g : Nat} (h : t.has g = true) : ∃ x ∈ t, x.1 = g ∧ t.φ g = x.2 := by
  unfold Names.has at h
  rw [Option.isSome_iff_exists] at h
  obtain ⟨x, hx⟩ := h
  have := List.find?_some hx
  exact ⟨x, List.mem_of_find?_eq_some hx, by simpa using this, by unfold Names.φ; rw [hx]; rfl⟩

/-- what is asked of a program's functions, that their small code is known -/
structure Known (P : Program) (t : Names) (G : Nat → SFunc) : Prop where
  ok : t.ok = true
  calls : ∀ x ∈ t, ∀ (args : Array Value) (w : World), (callFunc x.2 args).run P w = .ok (.enter x.2 args) w
  code : ∀ x ∈ t, (∃ fn ls, P.funcs[x.2]? = some fn ∧ cFunc P t.ψ fn ls = some (G x.1)) ∨ ∃ n, (G x.1).body = .native n

def Known.ctx {P : Program} {t : Names} {G : Nat → SFunc} (k : Known P t G) (w : World) : Ctx :=
  { P, φ := t.φ, ψ := t.ψ, L := t.has, base := w.heap.size, w0 := w, back := fun _ _ e => Names.back k.ok e,
    calls := fun f hf args w => by
      obtain ⟨x, hx, _, e⟩ := Names.mem hf
      rw [e]; exact k.calls x hx args w }
theorem Known.tabN {P : Program} {t : Names} {G : Nat → SFunc} (k : Known P t G) (w : World) (hn : ∀ x ∈ t, ∀ n, (G x.1).body = .native n → NatOk (k.ctx w) n x.2) : Tab (k.ctx w) G := by
  intro f hf
  obtain ⟨x, hx, rfl, e⟩ := Names.mem (t := t) hf
  rcases k.code x hx with ⟨fn, ls, h1, h2⟩ | ⟨n, h1⟩
  · exact .inl ⟨fn, ls, by show P.funcs[t.φ x.1]? = _; rw [e]; exact h1, h2⟩
  · refine .inr ⟨n, h1, ?_⟩
    show NatOk _ _ (t.φ x.1)
    rw [e]; exact hn x hx n h1

/-- no block -/
def h00 : AH := ⟨0, fun _ => .dead⟩
theorem HR.start {C : Ctx} (hb : C.base = C.w0.heap.size) : HR C (fun _ => none) h00 C.w0 :=
  ⟨Below.refl C.base C.w0, Nat.le_of_eq hb, fun _ _ _ _ h => by simp at h, fun _ _ _ _ _ _ _ h => by simp at h, fun _ _ => rfl⟩

theorem law_true {C : Ctx} {G : Nat → SFunc} (tab : Tab C G) {f : Nat} (hL : C.L f = true) {args : List Value} {h : AH} (H : WC G f args h fun v _ => v = .bool true) {γ : Gm} {w : World} {args' : Array Value}
    (hh : HR C γ h w) (ha : FA2 (VR C γ) args args'.toList) : Calls C.P (C.φ f) args' w fun e w' => e = .returned (.bool true) ∧ Below C.base C.w0 w' := by
  obtain ⟨v, h1, r, rfl⟩ := H
  obtain ⟨_, s⟩ := sound tab r
  refine (s hL γ w args' hh ha).mono fun e w' hd => ?_
  obtain ⟨v', γ', rfl, _, z2, z3⟩ := hd
  exact ⟨by rw [z3.bool_inv], z2.below⟩

/-- the same, of a law whose arguments are numbers and truths alone -/
theorem Known.plain {P : Program} {t : Names} {G : Nat → SFunc} (k : Known P t G) {f : Nat} (w : World) (hn : ∀ x ∈ t, ∀ n, (G x.1).body = .native n → NatOk (k.ctx w) n x.2) (hf : t.has f = true) {args : List Value} (H : WC G f args h00 fun v _ => v = .bool true) (hp : args.all plain1 = true) :
    Calls P (t.φ f) args.toArray w fun e w' => e = .returned (.bool true) ∧ Below w.heap.size w w' :=
  law_true (C := k.ctx w) (k.tabN w hn) hf H (HR.start rfl) (by simpa using plains_VR hp)
end Go.Jq
