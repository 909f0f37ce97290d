/- Stores that wait: the law's own 'same'. -/
import Derived.Test.YtcgpmahbigdikaaB14
set_option linter.unusedSimpArgs false
set_option linter.unusedVariables false
namespace Go.Jq
variable {G : Nat → SFunc} {h : AH} {R : Value → AH → Prop}

theorem oldN_M {M m c : Int} {es : List Ent} (hM : M = m ∨ es = []) : oldN M c es = oldN m c es := by
  rcases hM with rfl | rfl
  · rfl
  · rfl
theorem listN_M {M m c : Int} {es : List Ent} (hM : M = m ∨ es = []) : listN M c es = listN m c es := by
  rcases hM with rfl | rfl
  · rfl
  · rfl

set_option maxRecDepth 8000 in
set_option maxHeartbeats 4000000 in
theorem same_spec (g : BufL G) {M m c : Int} {es : List Ent} {v : Value} (hM : M = m ∨ es = []) (hes : es.length ≤ 24) (hv : Ents h es v) (k : ∀ h1, Ext h h1 → R (.bool true) h1) : WC G 13 [bufV M es, v, .int .i64 m, .int .i64 c] h R := by
  refine WC_enter g.g13 rfl ?_
  show W G c13_body _ _ (retK [.tmp 8] R)
  unfold c13_body c13_0 c13_1 c13_2 c13_3
  have L := fun m => bufC_length (m := m) hes
  simp -implicitDefEqProofs [bufV, L, List.take_of_length_le]
  refine Newest_spec g.toBufG (m := M) hes fun h1 x1 => ?_
  have hb : h1.get h.next = .cells (bufC M es) false false := by rw [x1.get _ (by simp)]; simp
  have y1 : Ext h h1 := ((Ext.refl h).alloc _).trans x1
  have n1 : h.next < h1.next := Nat.lt_of_lt_of_le (by simp) x1.next
  have hv1 := SlV.ext hv y1
  have rest : W G (.seq (.reg [1, 2, 3, 4, 14, 15, 16, 17] c13_11) (.seq (.reg [1, 2, 3, 4, 14, 15, 16, 17, 18] c13_12) (.seq (.seq (.reg [1, 2, 3, 4, 141] c13_13) (.cond (.tmp 141) (.seq (.reg [8] c13_14) .ret) .skip)) (.seq (.reg [1, 2, 3, 4, 19] c13_15) (.seq (.reg [1, 2, 3, 4, 19, 20] c13_16) (.seq (.seq (.reg [1, 2, 3, 4, 19, 20, 21] c13_17) (.block 2 (.loop [1, 2, 3, 4, 19, 20, 21] c13_24))) (.seq (.reg [8] c13_25) .ret)))))))
      [(1, v), (2, .int .i64 m), (3, .int .i64 c), (4, .pointer (some ⟨h.next, 0, none⟩)), (79, .bool false)] h1 (retK [.tmp 8] R) := by
    unfold c13_11 c13_12 c13_13 c13_15 c13_16 c13_17
    simp -implicitDefEqProofs [hb, L, List.take_of_length_le]
    refine Oldest_spec g.toBufG (m := M) hes fun h2 x2 => ?_
    have hb2 := (x2.get h.next n1).trans hb
    have hv2 := SlV.ext hv1 x2
    have n2 : h.next < h2.next := Nat.lt_of_lt_of_le n1 x2.next
    have fin : ∀ (t : List (Nat × Value)), W G (.seq (.reg [1, 2, 3, 4, 19] c13_15) (.seq (.reg [1, 2, 3, 4, 19, 20] c13_16) (.seq (.seq (.reg [1, 2, 3, 4, 19, 20, 21] c13_17) (.block 2 (.loop [1, 2, 3, 4, 19, 20, 21] c13_24))) (.seq (.reg [8] c13_25) .ret))))
        ([(1, v), (2, .int .i64 m), (3, .int .i64 c), (4, .pointer (some ⟨h.next, 0, none⟩)), (141, .bool false)]) h2 (retK [.tmp 8] R) := by
      intro _
      unfold c13_15 c13_16 c13_17
      simp -implicitDefEqProofs [hb2, L, List.take_of_length_le]
      refine List_spec g.toBufG (m := M) hes fun lv h3 x3 hl => ?_
      rw [listN_M hM] at hl
      have hb3 := (x3.get h.next n2).trans hb2
      have hv3 := SlV.ext hv2 x3
      simp -implicitDefEqProofs
      refine W_loop (inv13b m c es v (.pointer (some ⟨h.next, 0, none⟩)) lv h3) es.length ⟨0, by omega, by omega, rfl, by simp [listN]⟩ ?_
      intro k' F hh I
      refine same_b hv3 hl.view hes I fun t => ?_
      unfold c13_25
      obtain ⟨av, cv, ev⟩ := SlV.len hv
      obtain ⟨al, cl, el⟩ := hl.len
      subst ev
      subst el
      simp -implicitDefEqProofs [hb3, L, List.take_of_length_le]
      refine Len_spec g.toBufG (m := M) (es := es) fun h4 x4 => ?_
      simp -implicitDefEqProofs
      exact k _ (((y1.trans x2).trans x3).trans x4)
    rw [oldV, oldN_M hM]
    cases ho : oldN m c es with
    | none =>
      simp -implicitDefEqProofs
      refine first_spec g hv2 (by omega) ?_
      rw [ho]
      simp -implicitDefEqProofs [optI]
      exact fin []
    | some i =>
      obtain ⟨hi, _⟩ := oldN_some ho
      obtain ⟨b, o, sp, cap, c0, gg, ro, ev, hb', hgb, ld0, ld1, ld2, _⟩ := Ents.at hv2 hi
      simp -implicitDefEqProofs [hi]
      refine first_spec g hv2 (by omega) ?_
      rw [ho]
      subst ev
      simp -implicitDefEqProofs [optI, hi, hgb, ld0, ld1, ld2]
      exact fin []
  rw [newV]
  cases hn : newN c es with
  | none =>
    simp -implicitDefEqProofs
    refine W_loop (inv13a m c es v (.pointer (some ⟨h.next, 0, none⟩)) (.int .i64 0) (.int .i64 0) (.bool false) h1) es.length ⟨0, -1, by omega, by omega, .inl ⟨rfl, by omega⟩, rfl, rfl⟩ ?_
    intro k' F hh I
    refine same_a hv1 hes I fun at' t32 la => ?_
    unfold c13_9
    rcases la.end with ⟨rfl, _⟩ | ⟨a, ha, rfl, e⟩
    · simp -implicitDefEqProofs
      exact rest
    · rw [hn] at e; simp at e
  | some e =>
    simp -implicitDefEqProofs
    refine W_loop (inv13a m c es v (.pointer (some ⟨h.next, 0, none⟩)) (.int .i64 e.v) (.int .i64 e.id) (.bool true) h1) es.length ⟨0, -1, by omega, by omega, .inl ⟨rfl, by omega⟩, rfl, rfl⟩ ?_
    intro k' F hh I
    refine same_a hv1 hes I fun at' t32 la => ?_
    unfold c13_9
    rcases la.end with ⟨rfl, e'⟩ | ⟨a, ha, rfl, e'⟩
    · rw [hn] at e'; simp at e'
    · rw [hn] at e'
      simp only [Option.some.injEq] at e'
      subst e'
      obtain ⟨b, o, sp, cap, c0, gg, ro, ev, hb', hgb, ld0, ld1, ld2, _⟩ := Ents.at hv1 ha
      subst ev
      simp -implicitDefEqProofs [ha, hgb, ld0, ld1, ld2]
      exact rest
end Go.Jq
