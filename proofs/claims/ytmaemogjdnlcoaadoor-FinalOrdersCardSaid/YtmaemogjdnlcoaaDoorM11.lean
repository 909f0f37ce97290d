/- Frames; the code around the regions. -/
import Derived.Test.YtmaemogjdnlcoaaDoorM10
import Derived.Orders
import Derived.Tactics
set_option linter.unusedSimpArgs false
set_option linter.unusedVariables false
namespace Go.Jq
open Go.RowKit

theorem Fr.get_set : ∀ (F : Fr) (t u : Nat) (v : Value), (F.set t v).get u = if u = t then some v else F.get u
  | [], t, u, v => by simp [Fr.set, Fr.get]
  | (k, x) :: r, t, u, v => by
    simp only [Fr.set]
    split
    · rename_i e; subst e
      simp only [Fr.get]
      split <;> rfl
    · split
      · simp only [Fr.get]
      · rename_i h1 h2
        simp only [Fr.get, Fr.get_set r t u v]
        split
        · rename_i e; rw [if_neg (by omega)]
        · rfl
theorem Fr.get_del : ∀ (F : Fr) (t u : Nat), (F.del t).get u = if u = t then none else F.get u
  | [], t, u => by simp [Fr.del, Fr.get]
  | (k, x) :: r, t, u => by
    simp only [Fr.del]
    split
    · rename_i e; subst e
      rw [Fr.get_del r t u]
      simp only [Fr.get]
      split <;> simp_all
    · simp only [Fr.get, Fr.get_del r t u]
      split
      · rename_i e; rw [if_neg (by omega)]
      · rfl
theorem Fr.get_keep : ∀ (F : Fr) (l : List Nat) (u : Nat), (F.keep l).get u = if l.contains u then F.get u else none
  | [], l, u => by simp [Fr.keep, Fr.get]
  | (k, x) :: r, l, u => by
    simp only [Fr.keep]
    split
    · rename_i e
      simp only [Fr.get, Fr.get_keep r l u]
      split
      · rename_i e2; subst e2; rw [if_pos e]
      · rfl
    · rename_i e
      rw [Fr.get_keep r l u]
      simp only [Fr.get]
      split
      · rename_i h1; rw [if_neg]; rintro rfl; exact e h1
      · rfl
theorem Fr.get_from : ∀ (l : List Value) (i u : Nat), (Fr.from i l).get u = if i ≤ u then l[u - i]? else none
  | [], i, u => by simp [Fr.from, Fr.get]
  | v :: l, i, u => by
    simp only [Fr.from, Fr.get, Fr.get_from l (i + 1) u]
    split
    · rename_i e; subst e; simp
    · by_cases h : i ≤ u
      · rw [if_pos h, if_pos (by omega)]
        obtain ⟨m, rfl⟩ : ∃ m, u = i + 1 + m := ⟨u - (i + 1), by omega⟩
        rw [show i + 1 + m - (i + 1) = m by omega, show i + 1 + m - i = m + 1 by omega]
        simp
      · rw [if_neg h, if_neg (by omega)]

structure FR (C : Ctx) (γ : Gm) (N : Nat) (F : Fr) (a : Act) : Prop where
  size : a.tmps.size = N
  defers : a.defers = []
  get : ∀ t v, F.get t = some v → ∃ v', a.tmps[t]? = some v' ∧ VR C γ v v'

section
variable {C : Ctx} {γ : Gm} {N : Nat} {F : Fr} {a : Act}

theorem FR.mono {γ' : Gm} (k : FR C γ N F a) (hs : Sub γ γ') : FR C γ' N F a :=
  ⟨k.size, k.defers, fun t v h => let ⟨v', h1, h2⟩ := k.get t v h; ⟨v', h1, h2.mono hs⟩⟩
theorem FR.keep (k : FR C γ N F a) (l : List Nat) : FR C γ N (F.keep l) a :=
  ⟨k.size, k.defers, fun t v h => by
    rw [Fr.get_keep] at h
    split at h
    · exact k.get t v h
    · simp at h⟩
theorem FR.put (k : FR C γ N F a) {d : Option Nat} (hd : d.toList.all (· < N) = true) {v v' : Value} (hv : VR C γ v v') : FR C γ N (F.put d v) (a.put d v') := by
  cases d with
  | none => exact k
  | some d =>
    have hd' : d < N := by simpa using hd
    refine ⟨by simpa [Act.put] using k.size, k.defers, fun t u h => ?_⟩
    simp only [Fr.put, Fr.get_set] at h
    have hsz := k.size
    simp only [Act.put]
    split at h
    · rename_i e; subst e
      simp only [Option.some.injEq] at h; subst h
      exact ⟨v', by rw [Array.getElem?_setIfInBounds_self_of_lt (by omega)], hv⟩
    · rename_i e
      obtain ⟨u', h1, h2⟩ := k.get t u h
      exact ⟨u', by rw [Array.getElem?_setIfInBounds_ne (by omega)]; exact h1, h2⟩
theorem FR.unput (k : FR C γ N F a) (d : Option Nat) (v' : Value) : FR C γ N (F.unput d) (a.put d v') := by
  cases d with
  | none => exact k
  | some d =>
    refine ⟨by simpa [Act.put] using k.size, k.defers, fun t u h => ?_⟩
    simp only [Fr.unput, Fr.get_del] at h
    simp only [Act.put]
    split at h
    · simp at h
    · rename_i e
      obtain ⟨u', h1, h2⟩ := k.get t u h
      exact ⟨u', by rw [Array.getElem?_setIfInBounds_ne (by omega)]; exact h1, h2⟩
theorem FR.undo (k : FR C γ N F a) {d : Option Nat} (hd : d.toList.all (· < N) = true) : FR C γ N (F.undo d) (a.put d undef) := by
  cases d with
  | none => exact k
  | some d => exact k.put (d := some d) hd (.tuple .nil)
theorem FR.or (k : FR C γ N F a) : OR C γ F.val a := by
  intro x sx v hx hv
  cases x with
  | tmp t =>
    simp only [cOpd, Option.some.injEq] at hx; subst hx
    obtain ⟨v', h1, h2⟩ := k.get t v hv
    simp [Act.eval, h1]
    exact h2
  | const u =>
    simp only [cOpd] at hx
    split at hx
    · rename_i hp
      simp only [Option.some.injEq] at hx; subst hx
      simp only [Fr.val, Option.some.injEq] at hv; subst hv
      exact plainV_VR hp
    · simp at hx
  | global g => simp [cOpd] at hx
  | func f =>
    simp only [cOpd, Option.map_eq_some_iff] at hx
    obtain ⟨g, hg, rfl⟩ := hx
    simp only [Fr.val, Option.some.injEq] at hv; subst hv
    obtain ⟨e, hL⟩ := C.back f g hg
    simp only [Act.eval, ← e]
    exact .func hL .nil .nil

theorem FR.guard {os : Array Oper} {o : Oper} {g : Option (Nat × Bool)} {b : Bool} (k : FR C γ N F a) (hg : cGuard os o.guard = some g) (hb : gok F g = some b) : Region.wanted o (yielded os a.tmps) = b := by
  unfold cGuard at hg
  split at hg
  · rename_i hn
    simp only [Option.some.injEq] at hg; subst hg
    simp only [gok, Option.some.injEq] at hb; subst hb
    simp [Region.wanted, hn]
  · rename_i j want hn
    split at hg
    · rename_i d hd
      simp only [Option.some.injEq] at hg; subst hg
      simp only [gok] at hb
      split at hb
      · rename_i t ht
        simp only [Option.some.injEq] at hb; subst hb
        obtain ⟨v', h1, h2⟩ := k.get d _ ht
        rw [h2.bool_inv] at h1
        simp only [Region.wanted, hn, yielded, hd, Option.bind_some, h1]
        cases t <;> cases want <;> rfl
      · rename_i vs ht
        simp only [Option.some.injEq] at hb; subst hb
        obtain ⟨v', h1, h2⟩ := k.get d _ ht
        obtain ⟨vs', rfl, _⟩ := h2.tuple_inv
        simp only [Region.wanted, hn, yielded, hd, Option.bind_some, h1]
        rfl
      · simp at hb
    · simp at hg
end

theorem cOper_parts {P : Program} {ψ : FuncId → Option Nat} {N : Nat} {os : Array Oper} {o : Oper} {s : SOper} (h : cOper P ψ N os o = some s) :
    s.dst = o.dst ∧ o.dst.toList.all (· < N) = true ∧ cGuard os o.guard = some s.guard ∧ (s.op = .bad ∨ cOp P ψ o = some s.op) ∧ (isStore s.op = true → o.dst = none) ∧ s.uses = [] ∧ s.id = 0 ∧ s.pre = [] ∧ s.lo = 0 ∧ s.hi = 0 ∧ s.dep = [] := by
  unfold cOper at h
  split at h
  · simp at h
  · rename_i g hg
    split at h
    · rename_i hc
      simp only [Option.some.injEq] at h
      subst h
      refine ⟨rfl, hc.1, hg, ?_, ?_, rfl, rfl, rfl, rfl, rfl, rfl⟩
      · cases cOp P ψ o with
        | none => exact .inl rfl
        | some x => exact .inr rfl
      · intro hs
        have h2 := hc.2
        simp only at hs
        rw [hs] at h2
        simpa using h2
    · simp at h

section
variable {C : Ctx} {γ : Gm} {a : Act} {ρ : SOpd → Option Value} {o : Oper} {s : SOper}
theorem good_oper {N : Nat} {os : Array Oper} (h : cOper C.P C.ψ N os o = some s) (hρ : OR C γ ρ a) : Good C γ o a ρ s.op := by
  obtain ⟨_, _, _, h1 | h1, _⟩ := cOper_parts h
  · rw [h1]; exact good_bad
  · exact good_all hρ h1
end

/-- A loop, from a round's head on. -/
def LoopWp (P : Program) (c : Code) (Q : Exit → Act → World → Prop) (a : Act) (w : World) : Prop :=
  ∀ (b : Frame) (k : List Item) (cs : List Frame), ∃ e a' w', Q e a' w' ∧ Arrives P (lone (b.at a (.code c :: .inLoop c :: k)) cs w) b k cs e a' w'

theorem LoopWp.wp {P : Program} {c : Code} {Q : Exit → Act → World → Prop} {a : Act} {w : World} (h : LoopWp P c Q a w) : (Code.loop c).wp P Q a w :=
  fun b k cs => let ⟨e, a', w', q, arr⟩ := h b k cs; ⟨e, a', w', q, .of_steps (.one step_loop) arr⟩

theorem LoopWp.round {P : Program} {c : Code} {Q : Exit → Act → World → Prop} {a : Act} {w : World} (h : c.wp P (Exit.then (LoopWp P c Q) Q) a w) : LoopWp P c Q a w := by
  intro b k cs
  obtain ⟨e, a₁, w₁, hq, harr⟩ := h b (.inLoop c :: k) cs
  cases e with
  | normal =>
    obtain ⟨e₂, a₂, w₂, hq₂, harr₂⟩ := hq b k cs
    exact ⟨e₂, a₂, w₂, hq₂, .of_steps (Steps.trans harr (.one step_inLoop)) harr₂⟩
  | exit id => exact ⟨_, a₁, w₁, hq, .pass rfl (fun _ _ => .inl (by simp)) harr⟩
  | goto l => exact ⟨_, a₁, w₁, hq, .pass rfl (fun _ _ => .inl (by simp)) harr⟩
  | ret => exact ⟨_, a₁, w₁, hq, .pass rfl (fun _ _ => .inl (by simp)) harr⟩
  | panic chain => exact ⟨_, a₁, w₁, hq, .pass rfl (fun _ _ => .inl (by simp)) harr⟩
  | outgrown => exact ⟨_, a₁, w₁, hq, .pass rfl (fun _ _ => .inl (by simp)) harr⟩

def SExit.conc : SExit → Exit
  | .normal => .normal
  | .exit id => .exit id
  | .ret => .ret

/-- What a run of the small code promises of the true one. -/
def Post (C : Ctx) (γ : Gm) (h0 : AH) (N : Nat) (e : SExit) (F : Fr) (h : AH) (e' : Exit) (a' : Act) (w' : World) : Prop :=
  e' = e.conc ∧ ∃ γ', GX h0 γ γ' h ∧ HR C γ' h w' ∧ FR C γ' N F a'

theorem Post.mono {C : Ctx} {γ γ0 : Gm} {h0 h1 : AH} (hs : GX h0 γ0 γ h1) {N : Nat} {e : SExit} {F : Fr} {h : AH} {e' : Exit} {a' : Act} {w' : World} (k : Post C γ h1 N e F h e' a' w') : Post C γ0 h0 N e F h e' a' w' :=
  let ⟨k1, γ', k2, k3, k4⟩ := k; ⟨k1, γ', hs.trans k2, k3, k4⟩

def Called (C : Ctx) (γ : Gm) (h0 : AH) (v : Value) (h : AH) (e : Ending) (w' : World) : Prop := ∃ v' γ', e = .returned v' ∧ GX h0 γ γ' h ∧ HR C γ' h w' ∧ VR C γ' v v'

end Go.Jq
