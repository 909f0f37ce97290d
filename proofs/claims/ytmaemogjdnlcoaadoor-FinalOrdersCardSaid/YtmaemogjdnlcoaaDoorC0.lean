/- Ends stand in one order: the plain law. -/
import Derived.Test.YtmaemogjdnlcoaaDoorM0
set_option linter.unusedSimpArgs false
set_option linter.unusedVariables false
namespace Go.Jq

def cmpI (a b : Int) : Int := if a < b then -1 else if b < a then 1 else 0
def cmpL : List Int → List Int → Int
  | a :: l, b :: m => if cmpI a b ≠ 0 then cmpI a b else cmpL l m
  | _, _ => 0
theorem cmpI_zero {a b : Int} : cmpI a b = 0 ↔ a = b := by unfold cmpI; split <;> (try split) <;> omega
theorem cmpI_neg {a b : Int} : cmpI a b < 0 ↔ a < b := by unfold cmpI; split <;> (try split) <;> omega
theorem cmpI_swap {a b : Int} : cmpI b a = - cmpI a b := by unfold cmpI; split <;> (repeat' split) <;> omega
theorem cmpL_swap : ∀ {A B : List Int}, cmpL B A = - cmpL A B
  | [], [] => rfl
  | [], _ :: _ => rfl
  | _ :: _, [] => rfl
  | a :: l, b :: m => by
    simp only [cmpL]
    rw [cmpI_swap (a := a) (b := b), cmpL_swap (A := l) (B := m)]
    by_cases h : cmpI a b = 0
    · rw [if_neg (by omega), if_neg (by omega)]
    · rw [if_pos (by omega), if_pos h]
theorem cmpL_zero : ∀ {A B : List Int}, A.length = B.length → (cmpL A B = 0 ↔ A = B)
  | [], [], _ => by simp [cmpL]
  | [], _ :: _, h => by simp at h
  | _ :: _, [], h => by simp at h
  | a :: l, b :: m, h => by
    simp only [List.length_cons, Nat.add_right_cancel_iff] at h
    simp only [cmpL, List.cons.injEq]
    rw [← cmpL_zero h]
    by_cases h0 : cmpI a b = 0
    · have := cmpI_zero.1 h0
      subst this
      rw [if_neg (by omega)]; simp
    · have : ¬ a = b := fun e => h0 (cmpI_zero.2 e)
      simp [h0, this]
theorem cmpL_trans : ∀ {A B C : List Int}, A.length = B.length → B.length = C.length → cmpL A B < 0 → cmpL B C < 0 → cmpL A C < 0
  | [], _, _, _, _, h, _ => by simp [cmpL] at h
  | _ :: _, [], _, h, _, _, _ => by simp at h
  | _ :: _, _ :: _, [], _, h, _, _ => by simp at h
  | a :: l, b :: m, c :: n, h1, h2, x, y => by
    simp only [List.length_cons, Nat.add_right_cancel_iff] at h1 h2
    simp only [cmpL] at x y ⊢
    by_cases e1 : cmpI a b = 0
    · rw [if_neg (by omega)] at x
      have e1 := cmpI_zero.1 e1
      subst e1
      by_cases e2 : cmpI a c = 0
      · rw [if_neg (by omega)] at y ⊢
        exact cmpL_trans h1 h2 x y
      · rw [if_pos e2] at y ⊢
        exact y
    · rw [if_pos e1] at x
      have x := cmpI_neg.1 x
      by_cases e2 : cmpI b c = 0
      · have e2 := cmpI_zero.1 e2
        subst e2
        rw [if_pos e1]
        exact cmpI_neg.2 x
      · rw [if_pos e2] at y
        have y := cmpI_neg.1 y
        have : cmpI a c < 0 := cmpI_neg.2 (by omega)
        rw [if_pos (by omega)]
        exact this
theorem cmpL_app : ∀ {A B X Y : List Int}, A.length = B.length → cmpL (A ++ X) (B ++ Y) = if cmpL A B ≠ 0 then cmpL A B else cmpL X Y
  | [], [], _, _, _ => by simp [cmpL]
  | [], _ :: _, _, _, h => by simp at h
  | _ :: _, [], _, _, h => by simp at h
  | a :: l, b :: m, X, Y, h => by
    simp only [List.length_cons, Nat.add_right_cancel_iff] at h
    simp only [List.cons_append, cmpL, cmpL_app h]
    by_cases e : cmpI a b = 0
    · simp [e]
    · simp [e]
theorem cmpL_at {A B : List Int} {i : Nat} (ha : i < A.length) (hb : i < B.length) : cmpL (A.drop i) (B.drop i) = if cmpI A[i] B[i] ≠ 0 then cmpI A[i] B[i] else cmpL (A.drop (i + 1)) (B.drop (i + 1)) := by
  rw [List.drop_eq_getElem_cons ha, List.drop_eq_getElem_cons hb, cmpL]
theorem cmpL_row {A B : List Int} {i k : Nat} (ha : i + k ≤ A.length) (hb : i + k ≤ B.length) : cmpL (A.drop i) (B.drop i) = if cmpL ((A.drop i).take k) ((B.drop i).take k) ≠ 0 then cmpL ((A.drop i).take k) ((B.drop i).take k) else cmpL (A.drop (i + k)) (B.drop (i + k)) := by
  conv => lhs; rw [← List.take_append_drop k (A.drop i), ← List.take_append_drop k (B.drop i)]
  rw [cmpL_app (by simp; omega), List.drop_drop, List.drop_drop]
theorem cmpL_self (A : List Int) : cmpL A A = 0 := (cmpL_zero rfl).2 rfl
end Go.Jq
