/- Stores that wait: BufOrder. -/
import Derived.Test.YtcgpmahbigdikaaB7
set_option linter.unusedSimpArgs false
set_option linter.unusedVariables false
namespace Go.Jq
variable {G : Nat → SFunc} {h : AH} {R : Value → AH → Prop}

/-- the i-th store of the law's -/
def entO (l : List OpT) (i : Nat) : Ent := ⟨iand .i64 ((l[i]?.getD ⟨0, 0, 0⟩).loc) 3, (l[i]?.getD ⟨0, 0, 0⟩).v, i⟩
def entsO (l : List OpT) (n : Nat) : List Ent := (List.range n).map (entO l)
theorem entsO_length (l : List OpT) (n : Nat) : (entsO l n).length = n := by simp [entsO]
theorem entsO_succ (l : List OpT) (n : Nat) : entsO l (n + 1) = entsO l n ++ [entO l n] := by simp [entsO, List.range_succ]
theorem entO_eq {l : List OpT} {i : Nat} (hi : i < l.length) : entO l i = ⟨iand .i64 l[i].loc 3, l[i].v, i⟩ := by simp [entO, hi]
theorem entO_loc (l : List OpT) (i : Nat) : 0 ≤ (entO l i).loc ∧ (entO l i).loc ≤ 3 := iand_bound (by omega) (by omega)
theorem addS_entO {l : List OpT} {i : Nat} {m : Int} (hm : m ≠ 0) (hi : i < 24) : addS m (entsO l i) (entO l i).loc (entO l i).v (entO l i).id = entsO l (i + 1) := by
  have := entO_loc l i
  have := entsO_length l i
  rw [addS, if_neg (by omega), entsO_succ]

/-- what is left of the row by location, at the i-th of the round of c -/
def leftO (es : List Ent) (c : Int) (i : Nat) : List Ent := (es.take i).filter (fun e => decide (c < e.loc)) ++ (es.drop i).filter fun e => decide (c ≤ e.loc)
theorem leftO_le (es : List Ent) (c : Int) (i : Nat) : (leftO es c i).length ≤ es.length := by
  have h1 := List.length_filter_le (fun e : Ent => decide (c < e.loc)) (es.take i)
  have h2 := List.length_filter_le (fun e : Ent => decide (c ≤ e.loc)) (es.drop i)
  simp only [leftO, List.length_append]
  have := congrArg List.length (List.take_append_drop i es)
  simp only [List.length_append] at this
  omega
theorem leftO_skip {es : List Ent} {c : Int} {i : Nat} (hi : i < es.length) (hc : es[i].loc ≠ c) : leftO es c (i + 1) = leftO es c i := by
  have h1 : es.take (i + 1) = es.take i ++ [es[i]] := List.take_succ_eq_append_getElem hi
  have h2 : es.drop i = es[i] :: es.drop (i + 1) := List.drop_eq_getElem_cons hi
  simp only [leftO, h1, h2, List.filter_append, List.append_assoc, List.filter_cons, List.filter_nil]
  have : decide (c < es[i].loc) = decide (c ≤ es[i].loc) := by rw [decide_eq_decide]; omega
  rw [this]
  split <;> simp
theorem oldN_left {es : List Ent} {c : Int} {i : Nat} (hi : i < es.length) (hc : es[i].loc = c) :
    ∃ k, oldN 3 c (leftO es c i) = some k ∧ (leftO es c i)[k]? = some es[i] ∧ (leftO es c i).eraseIdx k = leftO es c (i + 1) := by
  have h1 : es.take (i + 1) = es.take i ++ [es[i]] := List.take_succ_eq_append_getElem hi
  have h2 : es.drop i = es[i] :: es.drop (i + 1) := List.drop_eq_getElem_cons hi
  have h3 : [es[i]].filter (fun e => decide (c < e.loc)) = [] := by simp [hc]
  have h4 : (es[i] :: es.drop (i + 1)).filter (fun e => decide (c ≤ e.loc)) = es[i] :: (es.drop (i + 1)).filter (fun e => decide (c ≤ e.loc)) := by
    rw [List.filter_cons, if_pos (by simp [hc])]
  have e1 : leftO es c i = (es.take i).filter (fun e => decide (c < e.loc)) ++ es[i] :: (es.drop (i + 1)).filter (fun e => decide (c ≤ e.loc)) := by rw [leftO, h2, h4]
  have e2 : leftO es c (i + 1) = (es.take i).filter (fun e => decide (c < e.loc)) ++ (es.drop (i + 1)).filter (fun e => decide (c ≤ e.loc)) := by rw [leftO, h1, List.filter_append, h3, List.append_nil]
  rw [e1, e2]
  generalize hA : (es.take i).filter (fun e => decide (c < e.loc)) = A
  generalize (es.drop (i + 1)).filter (fun e => decide (c ≤ e.loc)) = B
  have hno : ∀ x ∈ A, hits 3 c x = false := by
    intro x hx
    rw [← hA] at hx
    have := (List.mem_filter.1 hx).2
    simp only [decide_eq_true_eq] at this
    simp [hits]; omega
  refine ⟨A.length, ?_, by simp, ?_⟩
  · refine oldN_hit (by simp) (fun j hj hlt => ?_) (by simp [hits, hc])
    rw [List.getElem_append_left hlt]
    exact hno _ (List.getElem_mem _)
  · rw [List.eraseIdx_append_of_length_le (Nat.le_refl _)]; simp
theorem leftO_end {es : List Ent} {c : Int} : leftO es c es.length = leftO es (c + 1) 0 := by
  simp only [leftO, List.take_length, List.drop_length, List.filter_nil, List.append_nil, List.take_zero, List.drop_zero, List.nil_append]
  congr 1
theorem leftO_zero {es : List Ent} (h : ∀ e ∈ es, 0 ≤ e.loc) : leftO es 0 0 = es := by
  simp only [leftO, List.take_zero, List.filter_nil, List.nil_append, List.drop_zero]
  rw [List.filter_eq_self]
  intro e he; simpa using h e he
theorem leftO_four {es : List Ent} (h : ∀ e ∈ es, e.loc ≤ 3) : leftO es 4 0 = [] := by
  simp only [leftO, List.take_zero, List.filter_nil, List.nil_append, List.drop_zero]
  rw [List.filter_eq_nil_iff]
  intro e he; have := h e he; simp; omega
theorem oldN_all {loc : Int} {e : Ent} {r : List Ent} : oldN 2 loc (e :: r) = some 0 := by
  simp [oldN, List.findIdx?_cons, hits]
end Go.Jq
