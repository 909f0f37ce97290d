/- The small code's runs are the model's. -/
import Derived.Test.YtmaemogjdnlcoaaDoorM16
set_option linter.unusedSimpArgs false
set_option linter.unusedVariables false
namespace Go.Jq
open Go.RowKit

theorem store1_next {h h1 : AH} {b o : Nat} {v : Value} (hs : h.store1 b o v = some h1) : h1.next = h.next := by
  unfold AH.store1 at hs
  split at hs
  · split at hs
    · simp only [Option.some.injEq] at hs; subst hs; rfl
    · simp at hs
  · simp at hs

theorem sappend_next {h h1 : AH} {s b : Nat} {x y v : Value} (hs : sappend h s b x y = some (v, h1)) : h.next ≤ h1.next := by
  unfold sappend at hs
  split at hs
  · split at hs
    · simp at hs
    · split at hs
      · simp at hs
      · split at hs
        · split at hs
          · split at hs <;> simp only [Option.some.injEq, Prod.mk.injEq] at hs <;> obtain ⟨_, rfl⟩ := hs
            · exact Nat.le_refl _
            · rw [AH.alloc_next]; omega
          · simp at hs
        · split at hs
          · split at hs
            · simp only [Option.some.injEq, Prod.mk.injEq] at hs; obtain ⟨_, rfl⟩ := hs; exact Nat.le_refl _
            · split at hs
              · rename_i hst
                simp only [Option.some.injEq, Prod.mk.injEq] at hs; obtain ⟨_, rfl⟩ := hs
                rw [store_next hst]; exact Nat.le_refl _
              · simp at hs
          · split at hs
            · split at hs
              · simp only [Option.some.injEq, Prod.mk.injEq] at hs; obtain ⟨_, rfl⟩ := hs
                rw [AH.alloc_next]; omega
              · split at hs
                · simp only [Option.some.injEq, Prod.mk.injEq] at hs; obtain ⟨_, rfl⟩ := hs
                  rw [AH.alloc_next, AH.put_next]; omega
                · simp at hs
            · simp at hs
  · simp at hs

theorem scopy_next {h h1 : AH} {s : Nat} {x y v : Value} (hs : scopy h s x y = some (v, h1)) : h.next ≤ h1.next := by
  unfold scopy at hs
  split at hs
  · split at hs
    · simp at hs
    · split at hs
      · simp only [Option.some.injEq, Prod.mk.injEq] at hs; obtain ⟨_, rfl⟩ := hs; exact Nat.le_refl _
      · split at hs
        · simp only [Option.some.injEq, Prod.mk.injEq] at hs; obtain ⟨_, rfl⟩ := hs; exact Nat.le_refl _
        · split at hs
          · rename_i hst
            simp only [Option.some.injEq, Prod.mk.injEq] at hs; obtain ⟨_, rfl⟩ := hs
            rw [store_next hst]; exact Nat.le_refl _
          · simp at hs
  · simp at hs

theorem sop_next {so : SOp} {ρ : SOpd → Option Value} {h : AH} {out : Out} (hs : sop so ρ h = some out) : match out with
    | .val _ h1 => h.next ≤ h1.next
    | .skip h1 => h.next ≤ h1.next
    | .call .. => True := by
  cases so
  case append s b x y =>
    simp only [sop] at hs
    split at hs
    · split at hs
      · rename_i hv
        simp only [Option.some.injEq] at hs; subst hs
        exact sappend_next hv
      · simp at hs
    · simp at hs
  case copy s x y =>
    simp only [sop] at hs
    split at hs
    · split at hs
      · rename_i hv
        simp only [Option.some.injEq] at hs; subst hs
        exact scopy_next hv
      · simp at hs
    · simp at hs
  case store1 x y =>
    simp only [sop] at hs
    split at hs
    · split at hs
      · split at hs
        · rename_i hst
          simp only [Option.some.injEq] at hs; subst hs
          show _ ≤ _
          rw [store1_next hst]; exact Nat.le_refl _
        · simp at hs
      · simp at hs
    · simp at hs
  case clear zs x =>
    simp only [sop] at hs
    split at hs
    · split at hs
      · simp at hs
      · split at hs
        · rename_i hst
          simp only [Option.some.injEq] at hs; subst hs
          show _ ≤ _
          rw [store_next hst]; exact Nat.le_refl _
        · simp at hs
    · simp at hs
  case storeN n x y =>
    simp only [sop] at hs
    split at hs
    · split at hs
      · split at hs
        · split at hs
          · rename_i hst
            simp only [Option.some.injEq] at hs; subst hs
            show _ ≤ _
            rw [store_next hst]; exact Nat.le_refl _
          · simp at hs
        · simp at hs
      · simp at hs
    · simp at hs
  all_goals
    simp only [sop] at hs
    repeat' split at hs
    all_goals first
      | (simp at hs; done)
      | (simp only [Option.some.injEq] at hs; subst hs; first | exact Nat.le_refl _ | (show _ ≤ _; rw [AH.alloc_next]; omega) | trivial)

/-- What a run promises. -/
def Snd (C : Ctx) (_G : Nat → SFunc) : Job → Res → Prop
  | .code c F h, .code e F1 h1 => h.next ≤ h1.next ∧ ∀ (N : Nat) (cd : Code) (ls ls' : List (List Nat)), cCode C.P C.ψ N cd ls = some (c, ls') → ∀ (γ : Gm) (w : World) (a : Act), HR C γ h w → FR C γ N F a →
      cd.wp C.P (Post C γ h N e F1 h1) a w ∧ ∀ body, cd = .loop body → LoopWp C.P body (Post C γ h N e F1 h1) a w
  | .ops l F h, .ops F1 h1 => h.next ≤ h1.next ∧ ∀ (N : Nat) (os : Array Oper) (ol : List Oper), cOpers C.P C.ψ N os ol = some l → ∀ (γ : Gm) (w : World) (a : Act) (Q : Exit → Act → World → Prop), HR C γ h w → FR C γ N F a →
      (∀ γ' w' a', GX h γ γ' h1 → HR C γ' h1 w' → FR C γ' N F1 a' → Q .normal a' w') → wpList C.P os Q ol a w
  | .qops l F h, .ops F1 h1 => h1 = h ∧ (l.all (·.op.still) = true → ∀ (N : Nat) (os : Array Oper) (rs : List Rec), (∀ x ∈ rs, x.same h) → ∃ T rs', DT C N os l F h [] rs [] T F1 h [h] rs' [])
  | .dops l batch F h past rs fl, .ops F1 h1 => h.next ≤ h1.next ∧ ∀ (N : Nat) (os : Array Oper), ∃ T hK Y rs' fl' ss, DT C N os l F h past rs fl T F1 hK Y rs' fl' ∧ stsOf F1 batch = some ss ∧ stsOk hK ss ∧ crossOk rs' fl' batch ss ∧ h1 = ss.foldl St.put hK
  | .call f args h, .val v h1 => h.next ≤ h1.next ∧ (C.L f = true → ∀ (γ : Gm) (w : World) (args' : Array Value), HR C γ h w → FA2 (VR C γ) args args'.toList → Calls C.P (C.φ f) args' w (Called C γ h v h1))
  | _, _ => True

theorem exit_block {C : Ctx} {γ : Gm} {h0 : AH} {N id : Nat} {e : SExit} {F : Fr} {h : AH} {e' : Exit} {a' : Act} {w' : World} (k : Post C γ h0 N e F h e' a' w') : Exit.inBlock id (Post C γ h0 N (if e = .exit id then .normal else e) F h) e' a' w' := by
  obtain ⟨rfl, k2⟩ := k
  cases e with
  | normal => exact ⟨rfl, k2⟩
  | ret => exact ⟨rfl, k2⟩
  | exit i =>
    simp only [SExit.conc, Exit.inBlock]
    by_cases hi : i = id
    · subst hi; simp only [if_true]; exact ⟨rfl, k2⟩
    · have : ¬ (SExit.exit i = SExit.exit id) := by simp [hi]
      simp only [hi, this, if_false]; exact ⟨rfl, k2⟩

end Go.Jq
