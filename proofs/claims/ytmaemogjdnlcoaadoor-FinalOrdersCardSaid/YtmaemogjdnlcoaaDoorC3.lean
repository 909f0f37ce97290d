/- Ends stand in one order: the document's own answer. -/
import Derived.Test.YtmaemogjdnlcoaaDoorC2
set_option linter.unusedSimpArgs false
set_option linter.unusedVariables false
namespace Go.Jq
variable {G : Nat → SFunc} {h : AH} {R : Value → AH → Prop}

def inv260a (A B : List Int) (P : Nat) (H : AH) (n : Nat) (F : Fr) (hh : AH) : Prop :=
  ∃ t : Nat, n = 4 - t ∧ t ≤ 4 ∧ cmpL A B = cmpL (A.drop (t * 4)) (B.drop (t * 4)) ∧ hh = H ∧ F = [(2, .pointer (some ⟨P, 0, none⟩)), (3, .pointer (some ⟨P + 1, 0, none⟩)), (5, .int .i64 t)]
def inv260b (A B : List Int) (P t : Nat) (H : AH) (n : Nat) (F : Fr) (hh : AH) : Prop :=
  ∃ r : Nat, n = 4 - r ∧ r ≤ 4 ∧ cmpL A B = cmpL (A.drop (t * 4 + r)) (B.drop (t * 4 + r)) ∧ hh = H ∧ F = [(2, .pointer (some ⟨P, 0, none⟩)), (3, .pointer (some ⟨P + 1, 0, none⟩)), (5, .int .i64 t), (6, .int .i64 r)]
def inv260c (A B : List Int) (P : Nat) (H : AH) (n : Nat) (F : Fr) (hh : AH) : Prop :=
  ∃ r : Nat, n = 4 - r ∧ r ≤ 4 ∧ cmpL A B = cmpL (A.drop (16 + r)) (B.drop (16 + r)) ∧ hh = H ∧ F = [(2, .pointer (some ⟨P, 0, none⟩)), (3, .pointer (some ⟨P + 1, 0, none⟩)), (7, .int .i64 r)]

theorem finC_get {A : List Int} {i : Nat} (hi : i < A.length) : (finC A)[i]? = some (.int .i64 A[i]) := by
  rw [finC, List.getElem?_map, List.getElem?_eq_getElem hi]; rfl

theorem rLess_spec (g : FinG G) {A B : List Int} (hA : A.length = 20) (hB : B.length = 20) (k : ∀ h1, Ext h h1 → R (.bool (decide (cmpL A B < 0))) h1) : WC G 260 [.agg (finC A).toArray, .agg (finC B).toArray] h R := by
  refine WC_enter (g.at (n := 260) (s := c260) (by simp [Fin_list])) rfl ?_
  show W G c260_body _ _ (retK [.tmp 4] R)
  unfold c260_body c260_0 c260_1
  simp -implicitDefEqProofs
  have x1 : Ext h ((h.alloc (.cells (finC A) false false)).alloc (.cells (finC B) false false)) := ((Ext.refl h).alloc _).alloc _
  have e1 : ((h.alloc (.cells (finC A) false false)).alloc (.cells (finC B) false false)).get h.next = .cells (finC A) false false := by simp
  have e2 : ((h.alloc (.cells (finC A) false false)).alloc (.cells (finC B) false false)).get (h.next + 1) = .cells (finC B) false false := by simp
  generalize ((h.alloc (.cells (finC A) false false)).alloc (.cells (finC B) false false)) = H at *
  refine W_loop (inv260a A B h.next H) 4 ⟨0, by omega, by omega, by simp, rfl, rfl⟩ ?_
  rintro n F hh ⟨t, rfl, ht, hc, rfl, rfl⟩
  unfold c260_10 c260_2 c260_3 c260_9
  by_cases h1 : t < 4
  · have h2 : (t : Int) < 4 := by omega
    have hwi : IntKind.i64.wrap ((t : Int) + 1) = (t : Int) + 1 := wrap64 (by omega)
    simp -implicitDefEqProofs [h2]
    refine W_loop (inv260b A B h.next t hh) 4 ⟨0, by omega, by omega, by simpa using hc, rfl, rfl⟩ ?_
    rintro n F h' ⟨r, rfl, hr, hc, rfl, rfl⟩
    unfold c260_8 c260_4 c260_5 c260_6 c260_7
    by_cases h3 : r < 4
    · have h4 : (r : Int) < 4 := by omega
      have hwr : IntKind.i64.wrap ((r : Int) + 1) = (r : Int) + 1 := wrap64 (by omega)
      have gA := finC_get (A := A) (i := t * 4 + r) (by omega)
      have gB := finC_get (A := B) (i := t * 4 + r) (by omega)
      have hat := cmpL_at (A := A) (B := B) (i := t * 4 + r) (by omega) (by omega)
      rw [hat] at hc
      generalize A[t * 4 + r]'(by omega) = x at *
      generalize B[t * 4 + r]'(by omega) = y at *
      by_cases h5 : x = y
      · rw [if_neg (by rw [cmpI_zero.2 h5]; omega)] at hc
        simp -implicitDefEqProofs [h1, h2, h3, h4, e1, e2, gA, gB, h5, hwr]
        exact ⟨4 - (r + 1), by omega, r + 1, rfl, by omega, by rw [hc]; congr 2 <;> omega, rfl, by simp⟩
      · have h6 : cmpI x y ≠ 0 := fun e => h5 (cmpI_zero.1 e)
        rw [if_pos h6] at hc
        simp -implicitDefEqProofs [h1, h2, h3, h4, e1, e2, gA, gB, h5, hwr]
        have hd : decide (cmpL A B < 0) = decide (x < y) := by rw [hc, decide_eq_decide]; exact cmpI_neg
        rw [← hd]
        exact k _ x1
    · have : r = 4 := by omega
      subst this
      simp -implicitDefEqProofs [hwi]
      exact ⟨4 - (t + 1), by omega, t + 1, rfl, by omega, by rw [hc]; congr 2 <;> omega, rfl, by simp⟩
  · have : t = 4 := by omega
    subst this
    unfold c260_11
    simp -implicitDefEqProofs
    refine W_loop (inv260c A B h.next hh) 4 ⟨0, by omega, by omega, by simpa using hc, rfl, rfl⟩ ?_
    rintro n F h' ⟨r, rfl, hr, hc, rfl, rfl⟩
    unfold c260_16 c260_12 c260_13 c260_14 c260_15
    by_cases h3 : r < 4
    · have h4 : (r : Int) < 4 := by omega
      have hwr : IntKind.i64.wrap ((r : Int) + 1) = (r : Int) + 1 := wrap64 (by omega)
      have gA := finC_get (A := A) (i := 16 + r) (by omega)
      have gB := finC_get (A := B) (i := 16 + r) (by omega)
      have hat := cmpL_at (A := A) (B := B) (i := 16 + r) (by omega) (by omega)
      rw [hat] at hc
      generalize A[16 + r]'(by omega) = x at *
      generalize B[16 + r]'(by omega) = y at *
      by_cases h5 : x = y
      · rw [if_neg (by rw [cmpI_zero.2 h5]; omega)] at hc
        simp -implicitDefEqProofs [h3, h4, e1, e2, gA, gB, h5, hwr]
        exact ⟨4 - (r + 1), by omega, r + 1, rfl, by omega, by rw [hc]; congr 2 <;> omega, rfl, by simp⟩
      · have h6 : cmpI x y ≠ 0 := fun e => h5 (cmpI_zero.1 e)
        rw [if_pos h6] at hc
        simp -implicitDefEqProofs [h3, h4, e1, e2, gA, gB, h5, hwr]
        have hd : decide (cmpL A B < 0) = decide (x < y) := by rw [hc, decide_eq_decide]; exact cmpI_neg
        rw [← hd]
        exact k _ x1
    · have : r = 4 := by omega
      subst this
      unfold c260_17
      simp -implicitDefEqProofs
      have hz : cmpL A B = 0 := by
        rw [hc, List.drop_of_length_le (by omega), List.drop_of_length_le (by omega)]; rfl
      have hd : decide (cmpL A B < 0) = false := by rw [hz]; rfl
      have := k _ x1
      rw [hd] at this
      exact this
end Go.Jq
