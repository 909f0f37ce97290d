/- Slices that are read; rows of numbers, compared. -/
import Derived.Test.YtmaemogjdnlcoaaDoorM23
set_option linter.unusedSimpArgs false
set_option linter.unusedVariables false
namespace Go.Jq

/-- A slice of n elements of k cells each, that is read. -/
def SlV (k : Nat) (h : AH) (n : Nat) (cs : List Value) (v : Value) : Prop :=
  cs.length = n * k ∧ ((n = 0 ∧ ∃ a c, v = .slice a 0 c) ∨ ∃ b o sp c c0 g ro, v = .slice (some ⟨b, o, sp⟩) n c ∧ b < h.next ∧ h.get b = .cells c0 g ro ∧ o + n * k ≤ c0.length ∧ (c0.drop o).take (n * k) = cs)

theorem SlV.ext {k : Nat} {h h1 : AH} {n : Nat} {cs : List Value} {v : Value} (s : SlV k h n cs v) (x : Ext h h1) : SlV k h1 n cs v := by
  obtain ⟨s1, s2⟩ := s
  refine ⟨s1, ?_⟩
  rcases s2 with s2 | ⟨b, o, sp, c, c0, g, ro, e1, e2, e3, e4, e5⟩
  · exact .inl s2
  · exact .inr ⟨b, o, sp, c, c0, g, ro, e1, Nat.lt_of_lt_of_le e2 x.next, by rw [x.get b e2]; exact e3, e4, e5⟩
theorem SlG.view {k : Nat} {h : AH} {lo n : Nat} {cs : List Value} {v : Value} (s : SlG k h lo n cs v) : SlV k h n cs v := by
  obtain ⟨s1, s2⟩ := s
  refine ⟨s1, ?_⟩
  rcases s2 with ⟨rfl, rfl⟩ | ⟨b, h1, h2, h3, rfl⟩
  · exact .inl ⟨rfl, _, _, rfl⟩
  · exact .inr ⟨b, 0, _, _, cs, true, false, rfl, h2, h3, by omega, by simp [← s1]⟩
theorem SlV.len {k : Nat} {h : AH} {n : Nat} {cs : List Value} {v : Value} (s : SlV k h n cs v) : ∃ a c, v = .slice a n c := by
  rcases s.2 with ⟨rfl, a, c, rfl⟩ | ⟨b, o, sp, c, c0, g, ro, rfl, _⟩
  · exact ⟨_, _, rfl⟩
  · exact ⟨_, _, rfl⟩
/-- the address of an element, and what is read there -/
theorem SlV.at {k : Nat} {h : AH} {n : Nat} {cs : List Value} {v : Value} (s : SlV k h n cs v) {i : Nat} (hi : i < n) :
    ∃ b o sp c, v = .slice (some ⟨b, o, sp⟩) n c ∧ b < h.next ∧ (∀ h1 : AH, h1.get b = h.get b → ∀ j, j < k → h1.load1 b (o + i * k + j) = cs[i * k + j]?) ∧ (∀ h1 : AH, h1.get b = h.get b → h1.load b (o + i * k) k = some ((cs.drop (i * k)).take k)) := by
  rcases s.2 with ⟨rfl, _⟩ | ⟨b, o, sp, c, c0, g, ro, rfl, e2, e3, e4, e5⟩
  · omega
  · have hik : i * k + k ≤ n * k := by rw [← Nat.succ_mul]; exact Nat.mul_le_mul_right k hi
    refine ⟨b, o, sp, c, rfl, e2, fun h1 hg j hj => ?_, fun h1 hg => ?_⟩
    · rw [load1_of (hg.trans e3), ← e5, List.getElem?_take, if_pos (by omega), List.getElem?_drop, Nat.add_assoc]
    · rw [load_of (hg.trans e3) (by omega), ← e5, List.drop_take, List.take_take, List.drop_drop, Nat.min_eq_left (by omega)]

/-- the same, with the block's cells -/
theorem SlV.cells {k : Nat} {h : AH} {n : Nat} {cs : List Value} {v : Value} (s : SlV k h n cs v) {i : Nat} (hi : i < n) :
    ∃ b o sp c c0 g ro, v = .slice (some ⟨b, o, sp⟩) n c ∧ b < h.next ∧ h.get b = .cells c0 g ro ∧ (∀ j, j < k → c0[o + i * k + j]? = cs[i * k + j]?) ∧ o + i * k + k ≤ c0.length ∧ (c0.drop (o + i * k)).take k = (cs.drop (i * k)).take k := by
  rcases s.2 with ⟨rfl, _⟩ | ⟨b, o, sp, c, c0, g, ro, rfl, e2, e3, e4, e5⟩
  · omega
  · have hik : i * k + k ≤ n * k := by rw [← Nat.succ_mul]; exact Nat.mul_le_mul_right k hi
    refine ⟨b, o, sp, c, c0, g, ro, rfl, e2, e3, fun j hj => ?_, by omega, ?_⟩
    · rw [← e5, List.getElem?_take, if_pos (by omega), List.getElem?_drop, Nat.add_assoc]
    · rw [← e5, List.drop_take, List.take_take, List.drop_drop, Nat.min_eq_left (by omega)]

/-- whole numbers, as many -/
def zk (n : Nat) : List Nat := List.replicate n 0

theorem cellsEq_ints {n : Nat} : ∀ {l l' : List Int}, l.length = n → l'.length = n → cellsEq (List.replicate n 0) (l.map (.int .i64)) (l'.map (.int .i64)) = some (decide (l = l')) := by
  induction n with
  | zero =>
    intro l l' h1 h2
    rw [List.eq_nil_of_length_eq_zero h1, List.eq_nil_of_length_eq_zero h2]
    rfl
  | succ n ih =>
    intro l l' h1 h2
    cases l with
    | nil => simp at h1
    | cons a l =>
      cases l' with
      | nil => simp at h2
      | cons b l' =>
        have := ih (l := l) (l' := l') (by simpa using h1) (by simpa using h2)
        simp only [List.replicate_succ, List.map_cons, cellsEq, cellEq, this]
        by_cases hab : a = b <;> by_cases hl : l = l' <;> simp [hab, hl]
end Go.Jq
