/- The other operations; all of them. -/
import Derived.Test.YtmaemogjdnlcoaaDoorM5
import Derived.Laws.StructEq
import Derived.ChangeKeysEq
set_option linter.unusedSimpArgs false
set_option linter.unusedVariables false
namespace Go.Jq
open Go.RowKit

section
variable {C : Ctx} {γ : Gm} {h : AH} {w : World} {a : Act} {ρ : SOpd → Option Value} {o : Oper}

theorem sbound_run {x v : Value} {y n : Nat} {code : BoundsCode} (hv : VR C γ x v) (hs : sbound x y = some n) (w : World) : ∀ y', y ≤ y' → (Instr.sliceBound v y' code).run C.P w = .ok n w := by
  intro y' hy
  unfold sbound at hs
  split at hs
  · rename_i k i
    split at hs
    · rename_i hi
      simp at hs
      rw [hv.int_inv]
      simp only [Instr.sliceBound, asIntOf, Sem.run_bind, Sem.run_pure, Result.andThen_ok]
      rw [if_pos (by omega), hs]; rfl
    · simp at hs
  · simp at hs

def OVR (C : Ctx) (γ : Gm) : Option Value → Option Value → Prop
  | none, none => True
  | some v, some v' => VR C γ v v'
  | _, _ => False

theorem OR.opt (hρ : OR C γ ρ a) {x : Option Operand} {sx : Option SOpd} {v : Option Value} (hx : cOpt C.ψ x = some sx) (hv : optVal ρ sx = some v) : OVR C γ v (x.map a.eval) := by
  cases x with
  | none => simp [cOpt] at hx; subst hx; simp [optVal] at hv; subst hv; trivial
  | some x =>
    simp only [cOpt, Option.map_eq_some_iff] at hx
    obtain ⟨y, hy, rfl⟩ := hx
    simp only [optVal] at hv
    split at hv
    · rename_i u hu; simp at hv; subst hv; exact hρ x y u hy hu
    · simp at hv

/-- The bounds; where no 'max' is given the true capacity may be greater. -/
theorem sbounds_run {len cap cap' : Nat} {lo hi mx lo' hi' mx' : Option Value} {l u m : Nat} (b : Bool) (h1 : OVR C γ lo lo') (h2 : OVR C γ hi hi') (h3 : OVR C γ mx mx') (hs : sbounds len cap lo hi mx = some (l, u, m)) (hc : cap ≤ cap') (w : World) :
    (Instr.sliceBounds b len cap' lo' hi' mx').run C.P w = .ok (l, u, if mx.isSome then m else cap') w ∧ (mx = none → m = cap) ∧ u ≤ max m len ∧ l ≤ u ∧ m ≤ cap ∧ (hi.isSome = true → u ≤ m) := by
  unfold sbounds at hs
  split at hs
  · simp at hs
  · rename_i m0 hm
    split at hs
    · simp at hs
    · rename_i u0 hu
      split at hs
      · simp at hs
      · rename_i l0 hl
        simp only [Option.some.injEq, Prod.mk.injEq] at hs
        obtain ⟨rfl, rfl, rfl⟩ := hs
        have lb : ∀ {x : Value} {y n : Nat}, sbound x y = some n → n ≤ y := by
          intro x y n hx
          unfold sbound at hx
          split at hx
          · split at hx
            · rename_i hi; simp at hx; omega
            · simp at hx
          · simp at hx
        cases mx with
        | none =>
          cases mx' with
          | some _ => exact h3.elim
          | none =>
            simp at hm; subst hm
            have hL : ∀ y, (match lo' with | some v => Instr.sliceBound v y .sliceB | none => pure 0 : Sem Nat).run C.P w = .ok l0 w ∨ y ≠ u0 := by
              intro y
              by_cases hy : y = u0
              · subst hy
                left
                cases lo with
                | none => cases lo' with
                  | some _ => exact h1.elim
                  | none => simp at hl; subst hl; rfl
                | some v => cases lo' with
                  | none => exact h1.elim
                  | some v' => exact sbound_run h1 hl w _ (Nat.le_refl _)
              · exact .inr hy
            have hL' := (hL u0).resolve_right (by simp)
            have hll : l0 ≤ u0 := by
              cases lo with
              | none => simp at hl; omega
              | some v => exact lb hl
            cases hi with
            | none => cases hi' with
              | some _ => exact h2.elim
              | none =>
                simp at hu; subst hu
                refine ⟨?_, fun _ => rfl, by omega, hll, Nat.le_refl _, by simp⟩
                simp only [Instr.sliceBounds, Sem.run_bind, Sem.run_pure, Result.andThen_ok]
                cases lo' <;> simp_all
            | some v => cases hi' with
              | none => exact h2.elim
              | some v' =>
                simp only at hu
                have := lb hu
                refine ⟨?_, fun _ => rfl, by omega, hll, Nat.le_refl _, fun _ => this⟩
                simp only [Instr.sliceBounds, Sem.run_bind, Sem.run_pure, Result.andThen_ok, sbound_run h2 hu w cap' hc]
                cases lo' <;> simp_all
        | some vm =>
          cases mx' with
          | none => exact h3.elim
          | some vm' =>
            simp only at hm
            have hmc := lb hm
            cases hi with
            | none => simp at hu
            | some v => cases hi' with
              | none => exact h2.elim
              | some v' =>
                simp only at hu
                have hum := lb hu
                refine ⟨?_, by simp, by omega, ?_, hmc, fun _ => hum⟩
                · simp only [Instr.sliceBounds, Sem.run_bind, Sem.run_pure, Result.andThen_ok, sbound_run h3 hm w cap' hc, sbound_run h2 hu w _ (Nat.le_refl _)]
                  cases lo with
                  | none => cases lo' with
                    | some _ => exact h1.elim
                    | none => simp at hl; subst hl; simp
                  | some x => cases lo' with
                    | none => exact h1.elim
                    | some x' =>
                      simp only [Option.isSome_some]
                      have := sbound_run (code := .slice3C) h1 hl w _ (Nat.le_refl _)
                      simp [this]
                · cases lo with
                  | none => simp at hl; omega
                  | some x => exact lb hl

theorem sslice_sound {size len cap cap' : Nat} {ad : Option Addr} {ad' : Option Addr} {lo hi mx lo' hi' mx' : Option Value} {v : Value} (hv : VR C γ (.slice ad len cap) (.slice ad' len cap'))
    (h1 : OVR C γ lo lo') (h2 : OVR C γ hi hi') (h3 : OVR C γ mx mx') (hs : sslice size ad len cap lo hi mx = some v) (b : Bool) (w : World) :
    ∃ l u m, (Instr.sliceBounds b len cap' lo' hi' mx').run C.P w = .ok (l, u, m) w ∧ VR C γ v (.slice (if m = l then ad' else ad'.map (·.add (l * size))) (u - l) (m - l)) := by
  unfold sslice at hs
  split at hs
  · simp at hs
  · rename_i l u m hb
    cases hv with
    | sl0 =>
      obtain ⟨k1, k2, k3, k4, k5, k6⟩ := sbounds_run b h1 h2 h3 hb (Nat.le_refl cap) w
      simp at hs; subst hs
      refine ⟨l, u, _, k1, ?_⟩
      have : (if mx.isSome = true then m else cap) = m := by
        cases mx with
        | none => simp [k2 rfl]
        | some _ => rfl
      rw [this]
      simp
      exact .sl0
    | slX hg =>
      rename_i bb o B s N
      obtain ⟨k1, k2, k3, k4, k5, k6⟩ := sbounds_run b h1 h2 h3 hb (Nat.le_refl cap) w
      have : (if mx.isSome = true then m else cap) = m := by
        cases mx with
        | none => simp [k2 rfl]
        | some _ => rfl
      rw [this] at k1
      simp at hs; subst hs
      refine ⟨l, u, m, k1, ?_⟩
      by_cases e : m = l
      · rw [if_pos e, if_pos e]; exact .slX hg
      · rw [if_neg e, if_neg e]
        simp only [Option.map_some, addr_add, addrAdd, Nat.add_assoc]
        exact .slX hg
    | slI hg hl hc hN =>
      rename_i bb o B s N k
      obtain ⟨k1, k2, k3, k4, k5, k6⟩ := sbounds_run b h1 h2 h3 hb hc w
      simp only at hs
      split at hs
      · rename_i hk
        subst hk
        refine ⟨l, u, _, k1, ?_⟩
        cases mx with
        | none =>
          have e2 := k2 rfl
          subst e2
          simp only [Option.isSome_none, Bool.false_eq_true, false_and, if_false, Option.some.injEq] at hs ⊢
          subst hs
          have hu : u ≤ m := by omega
          by_cases e : cap' = l
          · rw [if_pos e]
            have e3 : u - l = 0 := by omega
            have e4 : m - l = 0 := by omega
            have e5 : cap' - l = 0 := by omega
            rw [e3, e4, e5]
            exact .slE hg
          · rw [if_neg e]
            simp only [Option.map_some, addr_add, addrAdd, Nat.add_assoc]
            refine .slI hg (by omega) (by omega) ?_
            have : l * k + (cap' - l) * k = cap' * k := by rw [← Nat.add_mul]; congr 1; omega
            omega
        | some x =>
          simp only [Option.isSome_some, true_and, if_true] at hs ⊢
          split at hs
          · simp only [Option.some.injEq] at hs
            subst hs
            by_cases e : m = l
            · rw [if_pos e, if_pos e]; exact .slX hg
            · rw [if_neg e, if_neg e]
              simp only [Option.map_some, addr_add, Nat.add_assoc]
              exact .slX hg
          · simp only [Option.some.injEq] at hs
            subst hs
            have hc0 : cap = 0 := by omega
            have e1 : l = 0 := by omega
            have e2 : u = 0 := by omega
            have e3 : m = 0 := by omega
            subst e1 e2 e3
            simp
            exact .slE hg
      · simp at hs
    | slE hg =>
      rename_i bb o B s N k o'
      obtain ⟨k1, k2, k3, k4, k5, k6⟩ := sbounds_run b h1 h2 h3 hb (Nat.le_refl 0) w
      have e3 : m = 0 := by omega
      have e2 : u = 0 := by omega
      have e1 : l = 0 := by omega
      subst e1 e2 e3
      simp only at hs
      split at hs
      · simp only [ne_eq, not_true_eq_false, and_false, if_false, Option.some.injEq] at hs
        subst hs
        refine ⟨0, 0, _, k1, ?_⟩
        simp
        exact .slE hg
      · simp at hs

theorem q_slsl (hρ : OR C γ ρ a) {t e : TypeId} {x : Operand} {lo hi mx : Option Operand} {sl sh sm : Option SOpd} {size len cap : Nat} {ad : Option Addr} {vl vh vm : Option Value} {v : Value} (ho : o.op = .slice t x lo hi mx)
    (hu : C.P.underlying t = some (.slice e)) (hk : tsize C.P e = some size) (hv : VR C γ (.slice ad len cap) (a.eval x)) (cl : cOpt C.ψ lo = some sl) (ch : cOpt C.ψ hi = some sh) (cm : cOpt C.ψ mx = some sm)
    (el : optVal ρ sl = some vl) (eh : optVal ρ sh = some vh) (em : optVal ρ sm = some vm) (hs : sslice size ad len cap vl vh vm = some v) : Qt C γ o a v := by
  intro w
  have hx : ∃ ad' cap', a.eval x = .slice ad' len cap' := by generalize a.eval x = y at hv; cases hv <;> exact ⟨_, _, rfl⟩
  obtain ⟨ad', cap', hx⟩ := hx
  rw [hx] at hv
  obtain ⟨l, u, m, k1, k2⟩ := sslice_sound hv (hρ.opt cl el) (hρ.opt ch eh) (hρ.opt cm em) hs true w
  refine ⟨_, ?_, k2⟩
  simp only [execOp, ho, hx, Instr.sliceAt, Instr.slice, Sem.run_bind, run_underlying hu, Result.andThen_ok, k1, run_size hk, Sem.run_pure]

theorem q_slarr (hρ : OR C γ ρ a) {t e : TypeId} {x : Operand} {lo hi mx : Option Operand} {sl sh sm : Option SOpd} {size n b off : Nat} {vl vh vm : Option Value} {u v : Value} (ho : o.op = .slice t x lo hi mx)
    (hu : C.P.underlying t = some (.array n e)) (hk : tsize C.P e = some size) (hv : VR C γ u (a.eval x)) (hp : ptr u = some (b, off)) (cl : cOpt C.ψ lo = some sl) (ch : cOpt C.ψ hi = some sh) (cm : cOpt C.ψ mx = some sm)
    (el : optVal ρ sl = some vl) (eh : optVal ρ sh = some vh) (em : optVal ρ sm = some vm) (hs : sslice size (some ⟨b, off, none⟩) n n vl vh vm = some v) : Qt C γ o a v := by
  intro w
  obtain ⟨B, s, N, hb, he⟩ := hv.ptr_inv hp
  obtain ⟨l, u, m, k1, k2⟩ := sslice_sound (.slX hb) (hρ.opt cl el) (hρ.opt ch eh) (hρ.opt cm em) hs false w
  refine ⟨_, ?_, k2⟩
  simp only [execOp, ho, he, Instr.sliceAt, Sem.run_bind, run_underlying hu, Result.andThen_ok, Instr.sureAddr, k1, run_size hk, Sem.run_pure]
  split <;> simp_all

theorem q_slstr (hρ : OR C γ ρ a) {t : TypeId} {x : Operand} {lo hi : Option Operand} {sl sh : Option SOpd} {s : ByteArray} {vl vh : Option Value} {l u m : Nat} (ho : o.op = .slice t x lo hi none)
    (hu : C.P.underlying t = some .string) (hv : VR C γ (.string s) (a.eval x)) (cl : cOpt C.ψ lo = some sl) (ch : cOpt C.ψ hi = some sh)
    (el : optVal ρ sl = some vl) (eh : optVal ρ sh = some vh) (hs : sbounds s.size s.size vl vh none = some (l, u, m)) : Qt C γ o a (.string (s.extract l u)) := by
  intro w
  obtain ⟨k1, _⟩ := sbounds_run (mx' := none) false (hρ.opt cl el) (hρ.opt ch eh) (by trivial) hs (Nat.le_refl _) w
  refine ⟨_, ?_, .str⟩
  simp [execOp, ho, hv.str_inv, Instr.sliceAt, Instr.slice, run_underlying hu, k1]

theorem smm_cons {mx : Bool} {x u : Value} {r : List Value} {v : Value} (h : smm mx x (u :: r) = some v) :
    ∃ k p q, x = .int k p ∧ u = .int k q ∧ smm mx (.int k (if mx then (if q > p then q else p) else (if q < p then q else p))) r = some v := by
  cases x <;> cases u <;> simp only [smm] at h <;> try (simp at h; done)
  split at h
  · rename_i e; subst e; exact ⟨_, _, _, rfl, rfl, h⟩
  · simp at h

theorem q_mm (hρ : OR C γ ρ a) {b : Builtin} (mx : Bool) (hb : b = if mx then .max else .min) {ts : Array TypeId} {xs : List Operand} {ss : List SOpd} {x : Value} {r : List Value} {v : Value} (ho : o.op = .call { callee := .builtin b, args := xs.toArray, argTypes := ts })
    (hx : cOpds C.ψ xs = some ss) (hv : vals ρ ss = some (x :: r)) (hs : smm mx x r = some v) : Qt C γ o a v := by
  intro w
  have hR := hρ.vals hx hv
  generalize hxs : xs.map a.eval = ys at hR
  cases hR with
  | cons hx1 hr1 =>
    rename_i y ys
    have key : ∀ (r : List Value) (ys : List Value) (x y v : Value) (w : World), VR C γ x y → FA2 (VR C γ) r ys → smm mx x r = some v → ∃ v', (ys.foldlM (if mx then Builtin.max2 else Builtin.min2) y).run C.P w = .ok v' w ∧ VR C γ v v' := by
      intro r
      induction r with
      | nil =>
        intro ys x y v w h1 h2 h3
        cases h2
        simp [smm] at h3; subst h3
        exact ⟨y, by simp, h1⟩
      | cons u r ih =>
        intro ys x y v w h1 h2 h3
        cases h2 with
        | cons h2 h4 =>
          obtain ⟨k, p, q, e1, e2, h5⟩ := smm_cons h3
          subst e1 e2
          obtain ⟨v', g1, g2⟩ := ih _ _ _ _ w .int h4 h5
          refine ⟨v', ?_, g2⟩
          rw [h1.int_inv, h2.int_inv]
          simp only [List.foldlM_cons, Sem.run_bind]
          cases mx
          · simp only [Bool.false_eq_true, if_false, Builtin.min2, Sem.run_pure, Result.andThen_ok] at g1 ⊢
            exact g1
          · simp only [if_true, Builtin.max2, Sem.run_pure, Result.andThen_ok] at g1 ⊢
            exact g1
    obtain ⟨v', g1, g2⟩ := key r ys x y v w hx1 hr1 hs
    refine ⟨v', ?_, g2⟩
    subst hb
    cases mx
    · simp only [execOp, ho, resolve, List.map_toArray, hxs, Sem.run_bind, Sem.run_pure, Result.andThen_ok, invoke, builtin, Bool.false_eq_true, if_false, Builtin.min_] at g1 ⊢
      simp only [g1, Result.andThen_ok]
    · simp only [execOp, ho, resolve, List.map_toArray, hxs, Sem.run_bind, Sem.run_pure, Result.andThen_ok, invoke, builtin, if_true, Builtin.max_] at g1 ⊢
      simp only [g1, Result.andThen_ok]
end

end Go.Jq
