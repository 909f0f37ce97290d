/- Ends stand in one order: two ends, compared, by the program and by the document. -/
import Derived.Test.YtmaemogjdnlcoaaDoorC1
set_option linter.unusedSimpArgs false
set_option linter.unusedVariables false
namespace Go.Jq
variable {G : Nat → SFunc} {h : AH} {R : Value → AH → Prop}

def finC (A : List Int) : List Value := A.map (.int .i64)
theorem finC_length (A : List Int) : (finC A).length = A.length := by simp [finC]

/-- four cells of a block, read as a row -/
theorem row_ints {hh : AH} {A : List Int} {B o : Nat} (hb : hh.get B = .cells (finC A) false false) (hB : B < hh.next) (ho : o + 4 ≤ A.length) : Ints hh ((A.drop o).take 4) (.slice (some ⟨B, o, none⟩) 4 4) := by
  have hl : ((A.drop o).take 4).length = 4 := by simp; omega
  refine ⟨by simp, .inr ⟨B, o, none, 4, finC A, false, false, by rw [hl], hB, hb, by rw [finC_length]; omega, ?_⟩⟩
  rw [hl, finC, ← List.map_drop, ← List.map_take]

def inv95 (A B : List Int) (P : Nat) (H : AH) (n : Nat) (F : Fr) (hh : AH) : Prop :=
  ∃ t : Nat, n = 4 - t ∧ t ≤ 4 ∧ cmpL A B = cmpL (A.drop (t * 4)) (B.drop (t * 4)) ∧ hh = H ∧ F = [(2, .pointer (some ⟨P, 0, none⟩)), (3, .pointer (some ⟨P + 1, 0, none⟩)), (7, .int .i64 t)]

theorem compare_spec (g : FinG G) {A B : List Int} (hA : A.length = 20) (hB : B.length = 20) (k : ∀ h1, Ext h h1 → R (.int .i64 (cmpL A B)) h1) : WC G 95 [.agg (finC A).toArray, .agg (finC B).toArray] h R := by
  refine WC_enter (g.at (n := 95) (s := c95) (by simp [Fin_list])) rfl ?_
  show W G c95_body _ _ (retK [.tmp 4] R)
  unfold c95_body c95_0 c95_1
  simp -implicitDefEqProofs
  have x1 : Ext h ((h.alloc (.cells (finC A) false false)).alloc (.cells (finC B) false false)) := ((Ext.refl h).alloc _).alloc _
  have e1 : ((h.alloc (.cells (finC A) false false)).alloc (.cells (finC B) false false)).get h.next = .cells (finC A) false false := by simp
  have e2 : ((h.alloc (.cells (finC A) false false)).alloc (.cells (finC B) false false)).get (h.next + 1) = .cells (finC B) false false := by simp
  have e3 : ((h.alloc (.cells (finC A) false false)).alloc (.cells (finC B) false false)).next = h.next + 2 := by simp
  generalize ((h.alloc (.cells (finC A) false false)).alloc (.cells (finC B) false false)) = H at *
  refine W_loop (inv95 A B h.next H) 4 ⟨0, by omega, by omega, by simp, rfl, rfl⟩ ?_
  rintro n F hh ⟨t, rfl, ht, hc, rfl, rfl⟩
  unfold c95_8 c95_2 c95_3 c95_4 c95_4b c95_5 c95_6 c95_7
  by_cases h1 : t < 4
  · have h2 : (t : Int) < 4 := by omega
    have hwi : IntKind.i64.wrap ((t : Int) + 1) = (t : Int) + 1 := wrap64 (by omega)
    simp -implicitDefEqProofs [h1, h2, sslice, sbounds_n, addrAdd, wD_move, wD_keep, SOp.still, SOp.quiet, SOp.float, putD, Rec.same, sop, Rec.apart]
    refine Compare_spec g (row_ints e1 (by omega) (by omega)) (row_ints e2 (by omega) (by omega)) (by simp; omega) (by simp; omega) ?_
    have hr := cmpL_row (A := A) (B := B) (i := t * 4) (k := 4) (by omega) (by omega)
    rw [hr] at hc
    by_cases h0 : cmpL ((A.drop (t * 4)).take 4) ((B.drop (t * 4)).take 4) = 0
    · rw [if_neg (by omega)] at hc
      simp -implicitDefEqProofs [h0, hwi, wD_move, wD_keep, SOp.still, SOp.quiet, SOp.float, putD, Rec.same, sop, Rec.apart]
      exact ⟨4 - (t + 1), by omega, t + 1, rfl, by omega, by rw [hc]; congr 2 <;> omega, rfl, by simp⟩
    · rw [if_pos h0] at hc
      simp -implicitDefEqProofs [h0, wD_move, wD_keep, SOp.still, SOp.quiet, SOp.float, putD, Rec.same, sop, Rec.apart]
      rw [← hc]
      exact k _ x1
  · have : t = 4 := by omega
    subst this
    unfold c95_9 c95_9b
    simp -implicitDefEqProofs [sslice, sbounds_n, addrAdd, wD_move, wD_keep, SOp.still, SOp.quiet, SOp.float, putD, Rec.same, sop, Rec.apart]
    refine Compare_spec g (row_ints e1 (by omega) (by omega)) (row_ints e2 (by omega) (by omega)) (by simp; omega) (by simp; omega) ?_
    have hr := cmpL_row (A := A) (B := B) (i := 16) (k := 4) (by omega) (by omega)
    have hz : cmpL (A.drop 20) (B.drop 20) = 0 := by
      rw [List.drop_of_length_le (by omega), List.drop_of_length_le (by omega)]; rfl
    have hfin : cmpL A B = cmpL ((A.drop 16).take 4) ((B.drop 16).take 4) := by
      rw [hc]
      show cmpL (A.drop 16) (B.drop 16) = _
      rw [hr]
      by_cases h0 : cmpL ((A.drop 16).take 4) ((B.drop 16).take 4) = 0
      · rw [if_neg (by omega), h0]; exact hz
      · rw [if_pos h0]
    rw [← hfin]
    simp -implicitDefEqProofs [sslice, sbounds_n, addrAdd, wD_move, wD_keep, SOp.still, SOp.quiet, SOp.float, putD, Rec.same, sop, Rec.apart]
    refine Or_spec g (x := cmpL A B) (by simp) ?_
    simp -implicitDefEqProofs [sslice, sbounds_n, addrAdd, wD_move, wD_keep, SOp.still, SOp.quiet, SOp.float, putD, Rec.same, sop, Rec.apart]
    exact k _ (x1.alloc _)

theorem Less_spec (g : FinG G) {A B : List Int} (hA : A.length = 20) (hB : B.length = 20) (k : ∀ h1, Ext h h1 → R (.bool (decide (cmpL A B < 0))) h1) : WC G 259 [.agg (finC A).toArray, .agg (finC B).toArray] h R := by
  refine WC_enter (g.at (n := 259) (s := c259) (by simp [Fin_list])) rfl ?_
  show W G c259_body _ _ (retK [.tmp 4] R)
  unfold c259_body c259_0 c259_1
  have lA : (finC A).length = 20 := by rw [finC_length, hA]
  have lB : (finC B).length = 20 := by rw [finC_length, hB]
  simp -implicitDefEqProofs [lA, lB, List.take_of_length_le]
  refine compare_spec g hA hB fun h1 x1 => ?_
  simp -implicitDefEqProofs
  exact k _ ((((Ext.refl h).alloc _).alloc _).trans x1)
end Go.Jq
