/- Ends stand in one order: what the document fixes; the law. -/
import Derived.Test.YtmaemogjdnlcoaaDoorC3
import Derived.Test.YtmaemogjdnlcoaaDoorE3
import Derived.KernelRfl
set_option linter.unusedSimpArgs false
set_option linter.unusedVariables false
namespace Go.Jq
variable {G : Nat → SFunc} {h : AH} {R : Value → AH → Prop}

set_option maxRecDepth 1000000 in
theorem aw13_run : okTrue ((mach (triOf Fin_list) 100000).call 261 [] ⟨0, .leaf⟩) = true := by kernel_rfl
theorem aw13_spec (g : FinG G) (k : ∀ h1, Ext h h1 → R (.bool true) h1) : WC G 261 [] h R := carried_true g aw13_run rfl k

theorem finC_eq {A B : List Int} (hA : A.length = 20) (hB : B.length = 20) : cellsEq (zk 20) (finC A) (finC B) = some (decide (A = B)) := cellsEq_ints hA hB

set_option maxHeartbeats 2000000 in
theorem FinalOrders_spec (g : FinG G) {A B C : List Int} (hA : A.length = 20) (hB : B.length = 20) (hC : C.length = 20) : WC G 258 [.agg (finC A).toArray, .agg (finC B).toArray, .agg (finC C).toArray] h fun v _ => v = .bool true := by
  refine WC_enter (g.at (n := 258) (s := c258) (by simp [Fin_list])) rfl ?_
  show W G c258_body _ _ (retK [.tmp 6] _)
  unfold c258_body c258_0 c258_1 c258_1b
  have lA : (finC A).length = 20 := by rw [finC_length, hA]
  have lB : (finC B).length = 20 := by rw [finC_length, hB]
  have lC : (finC C).length = 20 := by rw [finC_length, hC]
  have n1 : ¬ h.next = h.next + 2 := by omega
  have n2 : ¬ h.next = h.next + 1 := by omega
  have n3 : ¬ h.next + 1 = h.next + 2 := by omega
  simp -implicitDefEqProofs [lA, lB, lC, List.take_of_length_le]
  have e1 : (((h.alloc (.cells (finC A) false false)).alloc (.cells (finC B) false false)).alloc (.cells (finC C) false false)).get h.next = .cells (finC A) false false := by simp
  have e2 : (((h.alloc (.cells (finC A) false false)).alloc (.cells (finC B) false false)).alloc (.cells (finC C) false false)).get (h.next + 1) = .cells (finC B) false false := by simp
  have e3 : (((h.alloc (.cells (finC A) false false)).alloc (.cells (finC B) false false)).alloc (.cells (finC C) false false)).get (h.next + 2) = .cells (finC C) false false := by simp
  have en : (((h.alloc (.cells (finC A) false false)).alloc (.cells (finC B) false false)).alloc (.cells (finC C) false false)).next = h.next + 3 := by simp
  generalize (((h.alloc (.cells (finC A) false false)).alloc (.cells (finC B) false false)).alloc (.cells (finC C) false false)) = H at *
  simp -implicitDefEqProofs [e1, e2, lA, lB, lC, List.take_of_length_le, wD_move, wD_keep, SOp.still, SOp.quiet, SOp.float, putD, Rec.same, sop, Rec.apart]
  refine Less_spec g hA hB fun h1 x1 => ?_
  have e11 := (x1.get h.next (by omega)).trans e1
  have e12 := (x1.get (h.next + 1) (by omega)).trans e2
  have e13 := (x1.get (h.next + 2) (by omega)).trans e3
  have m1 := x1.next
  simp -implicitDefEqProofs [e1, e2, e11, e12, lA, lB, lC, List.take_of_length_le, wD_move, wD_keep, SOp.still, SOp.quiet, SOp.float, putD, Rec.same, sop, Rec.apart]
  refine Less_spec g hB hA fun h2 x2 => ?_
  have e21 := (x2.get h.next (by omega)).trans e11
  have e22 := (x2.get (h.next + 1) (by omega)).trans e12
  have e23 := (x2.get (h.next + 2) (by omega)).trans e13
  have m2 := x2.next
  unfold c258_2
  simp -implicitDefEqProofs [e11, e12, e21, e22, lA, lB, lC, List.take_of_length_le, wD_move, wD_keep, SOp.still, SOp.quiet, SOp.float, putD, Rec.same, sop, Rec.apart]
  refine rLess_spec g hA hB fun h3 x3 => ?_
  have e31 := (x3.get h.next (by omega)).trans e21
  have e32 := (x3.get (h.next + 1) (by omega)).trans e22
  have e33 := (x3.get (h.next + 2) (by omega)).trans e23
  have m3 := x3.next
  have hsw := cmpL_swap (A := A) (B := B)
  have hze := cmpL_zero (A := A) (B := B) (by omega)
  have heq := finC_eq hA hB
  have hself : decide (cmpL A A < 0) = false := by rw [cmpL_self]; rfl
  -- the end of the law
  have fin : ∀ (h4 : AH), h4.get h.next = .cells (finC A) false false → h4.get (h.next + 1) = .cells (finC B) false false → h4.get (h.next + 2) = .cells (finC C) false false → h.next + 3 ≤ h4.next →
      wO G c258_4 [(3, .pointer (some ⟨h.next, 0, none⟩)), (4, .pointer (some ⟨h.next + 1, 0, none⟩)), (5, .pointer (some ⟨h.next + 2, 0, none⟩)), (7, .bool (decide (cmpL A B < 0))), (43, .bool false)] h4 (keepK [6] (thenK (W G .ret) (retK [.tmp 6] fun v _ => v = .bool true))) := by
    intro h4 f1 f2 f3 fn
    unfold c258_4
    by_cases hx : cmpL A B < 0
    · simp -implicitDefEqProofs [hx, f1, f2, f3, lA, lB, lC, List.take_of_length_le]
      refine Less_spec g hB hC fun h5 x5 => ?_
      have f51 := (x5.get h.next (by omega)).trans f1
      have f53 := (x5.get (h.next + 2) (by omega)).trans f3
      by_cases hy : cmpL B C < 0
      · have hz := cmpL_trans (by omega) (by omega) hx hy
        simp -implicitDefEqProofs [hy, f51, f53, lA, lB, lC, List.take_of_length_le]
        refine Less_spec g hA hC fun h6 x6 => ?_
        simp -implicitDefEqProofs [hz]
        exact aw13_spec g fun h7 x7 => by simp -implicitDefEqProofs
      · simp -implicitDefEqProofs [hy]
        exact aw13_spec g fun h7 x7 => by simp -implicitDefEqProofs
    · simp -implicitDefEqProofs [hx]
      exact aw13_spec g fun h7 x7 => by simp -implicitDefEqProofs
  have hc : (cmpL A B < 0 ∧ ¬ cmpL B A < 0) ∨ (¬ cmpL A B < 0 ∧ cmpL B A < 0) ∨ (¬ cmpL A B < 0 ∧ ¬ cmpL B A < 0) := by omega
  rcases hc with ⟨hx, hy⟩ | ⟨hx, hy⟩ | ⟨hx, hy⟩
  · have d1 : decide (cmpL A B < 0) = true := by simp [hx]
    have d2 : decide (cmpL B A < 0) = false := by simp [hy]
    rw [d1] at fin ⊢
    rw [d2]
    simp -implicitDefEqProofs [e31, e32, lA, lB, List.take_of_length_le]
    refine Less_spec g hA hA fun h4 x4 => ?_
    rw [hself]
    simp -implicitDefEqProofs
    have e := fin h4 ((x4.get _ (by omega)).trans e31) ((x4.get _ (by omega)).trans e32) ((x4.get _ (by omega)).trans e33) (by have := x4.next; omega)
    exact e
  · have d1 : decide (cmpL A B < 0) = false := by simp [hx]
    have d2 : decide (cmpL B A < 0) = true := by simp [hy]
    rw [d1] at fin ⊢
    rw [d2]
    simp -implicitDefEqProofs [e31, e32, lA, lB, List.take_of_length_le]
    refine Less_spec g hA hA fun h4 x4 => ?_
    rw [hself]
    simp -implicitDefEqProofs
    have e := fin h4 ((x4.get _ (by omega)).trans e31) ((x4.get _ (by omega)).trans e32) ((x4.get _ (by omega)).trans e33) (by have := x4.next; omega)
    exact e
  · have d1 : decide (cmpL A B < 0) = false := by simp [hx]
    have d2 : decide (cmpL B A < 0) = false := by simp [hy]
    have hab : A = B := hze.1 (by omega)
    have heq2 : cellsEq (zk 20) (finC A) (finC B) = some true := by rw [heq]; simp [hab]
    rw [d1] at fin ⊢
    rw [d2]
    simp -implicitDefEqProofs [e31, e32, heq2, lA, lB, List.take_of_length_le]
    refine Less_spec g hA hA fun h4 x4 => ?_
    rw [hself]
    simp -implicitDefEqProofs
    have e := fin h4 ((x4.get _ (by omega)).trans e31) ((x4.get _ (by omega)).trans e32) ((x4.get _ (by omega)).trans e33) (by have := x4.next; omega)
    exact e
end Go.Jq
