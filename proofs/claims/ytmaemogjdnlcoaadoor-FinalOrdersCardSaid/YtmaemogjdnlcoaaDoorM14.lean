/- A region that draws its order: whatever order is drawn. -/
import Derived.Test.YtmaemogjdnlcoaaDoorM13
set_option linter.unusedSimpArgs false
set_option linter.unusedVariables false
namespace Go.Jq
open Go.RowKit

theorem look_cons (i b : Nat) (acc : List (Nat × Nat)) (j : Nat) : look ((i, b) :: acc) j = if j = i then b else look acc j := by
  unfold look
  simp only [List.lookup]
  split
  · rename_i e; simp only [beq_iff_eq] at e; subst e; simp
  · rename_i e; simp only [beq_eq_false_iff_ne, ne_eq] at e; rw [if_neg e]

theorem bit_foldl (f : Nat → Nat) (r : Nat) : ∀ (l : List Nat) (s : Nat), (l.foldl (fun s j => s ||| 2 ^ j ||| f j) s).testBit r = true → s.testBit r = true ∨ ∃ j ∈ l, r = j ∨ (f j).testBit r = true
  | [], s, h => .inl h
  | j :: l, s, h => by
    rcases bit_foldl f r l _ h with h | ⟨k, hk, h⟩
    · simp only [Nat.testBit_or, Bool.or_eq_true] at h
      rcases h with (h | h) | h
      · exact .inl h
      · rw [Nat.testBit_two_pow] at h
        exact .inr ⟨j, by simp, .inl (by simpa using Eq.symm (by simpa using h))⟩
      · exact .inr ⟨j, by simp, .inr h⟩
    · exact .inr ⟨k, by simp [hk], h⟩

theorem ancs_inv {M : List SOper} : ∀ (m : List SOper) (acc : List (Nat × Nat)), (∀ s ∈ m, s ∈ M ∧ (∀ j ∈ s.pre, j < s.id)) → m.Pairwise (fun a b => a.id ≠ b.id) → (∀ s ∈ m, ∀ r, (look acc s.id).testBit r = false) →
    (∀ i r, (look acc i).testBit r = true → ∃ s ∈ M, s.id = i ∧ ∃ j ∈ s.pre, r = j ∨ (look acc j).testBit r = true) →
    ∀ i r, (look (m.foldl ancStep acc) i).testBit r = true → ∃ s ∈ M, s.id = i ∧ ∃ j ∈ s.pre, r = j ∨ (look (m.foldl ancStep acc) j).testBit r = true
  | [], acc, _, _, _, h => h
  | s :: m, acc, hm, hp, hz, h => by
    simp only [List.foldl_cons]
    rw [List.pairwise_cons] at hp
    refine ancs_inv m (ancStep acc s) (fun t ht => hm t (by simp [ht])) hp.2 ?_ ?_
    · intro t ht r
      rw [ancStep, look_cons, if_neg (fun e => hp.1 t ht e.symm)]
      exact hz t (by simp [ht]) r
    · intro i r hb
      rw [ancStep, look_cons] at hb
      split at hb
      · rename_i e
        subst e
        rcases bit_foldl (look acc) r _ _ hb with h0 | ⟨j, hj, h0⟩
        · simp at h0
        · refine ⟨s, (hm s (by simp)).1, rfl, j, hj, ?_⟩
          rcases h0 with h0 | h0
          · exact .inl h0
          · have := (hm s (by simp)).2 j hj
            exact .inr (by rw [ancStep, look_cons, if_neg (by omega)]; exact h0)
      · obtain ⟨t, ht, e1, j, hj, h0⟩ := h i r hb
        refine ⟨t, ht, e1, j, hj, ?_⟩
        rcases h0 with h0 | h0
        · exact .inl h0
        · refine .inr ?_
          rw [ancStep, look_cons]
          split
          · rename_i e
            rw [e, hz s (by simp) r] at h0
            simp at h0
          · exact h0

theorem idsOk_spec : ∀ {l : List SOper}, idsOk l = true → (∀ s ∈ l, ∀ j ∈ s.pre, j < s.id) ∧ l.Pairwise (fun a b => a.id ≠ b.id)
  | [], _ => ⟨fun s hs => by simp at hs, .nil⟩
  | o :: l, h => by
    simp only [idsOk, Bool.and_eq_true, List.all_eq_true, decide_eq_true_eq, bne_iff_ne, ne_eq] at h
    obtain ⟨⟨h1, h2⟩, h3⟩ := h
    obtain ⟨i1, i2⟩ := idsOk_spec h3
    refine ⟨fun s hs => ?_, List.pairwise_cons.2 ⟨fun p hp e => h2 p hp e.symm, i2⟩⟩
    rcases List.mem_cons.1 hs with rfl | hs
    · exact h1
    · exact i1 s hs

theorem id_inj {l : List SOper} (hp : l.Pairwise (fun a b => a.id ≠ b.id)) {s t : SOper} (hs : s ∈ l) (ht : t ∈ l) (e : s.id = t.id) : s = t := by
  induction hp with
  | nil => simp at hs
  | cons h1 _ ih =>
    rcases List.mem_cons.1 hs with h3 | h3 <;> rcases List.mem_cons.1 ht with h4 | h4
    · rw [h3, h4]
    · subst h3; exact absurd e (h1 t h4)
    · subst h4; exact absurd e.symm (h1 s h3)
    · exact ih h3 h4

theorem anc_spec {l : List SOper} (hk : idsOk l = true) {i r : Nat} (h : ahead (ancs (byId l)) i r = true) : ∃ s ∈ l, s.id = i ∧ ∃ j ∈ s.pre, r = j ∨ ahead (ancs (byId l)) j r = true := by
  obtain ⟨h1, h2⟩ := idsOk_spec hk
  have hb : ∀ s ∈ byId l, s ∈ l := by
    intro s hs
    simp only [byId, List.mem_filterMap] at hs
    obtain ⟨i, _, hs⟩ := hs
    exact List.mem_of_find?_eq_some hs
  refine ancs_inv (M := l) (byId l) [] (fun s hs => ⟨hb s hs, h1 s (hb s hs)⟩) ?_ (by simp [look]) (by simp [look]) i r h
  unfold byId
  rw [List.pairwise_filterMap]
  refine List.Pairwise.imp_of_mem ?_ List.nodup_range
  intro a b _ _ hab s hs t ht e
  have e1 := List.find?_some hs
  have e2 := List.find?_some ht
  simp only [beq_iff_eq] at e1 e2
  exact hab (by rw [← e1, ← e2, e])

/-- a set of places with which all that must stand ahead of its members are members -/
theorem down {l : List SOper} (hk : idsOk l = true) {D : Nat → Prop} (hD : ∀ s ∈ l, D s.id → ∀ j ∈ s.pre, D j) : ∀ (n : Nat) (i r : Nat), i ≤ n → D i → ahead (ancs (byId l)) i r = true → D r := by
  intro n
  induction n with
  | zero =>
    intro i r hi hd h
    obtain ⟨s, hs, rfl, j, hj, h0⟩ := anc_spec hk h
    have := (idsOk_spec hk).1 s hs j hj
    omega
  | succ n ih =>
    intro i r hi hd h
    obtain ⟨s, hs, rfl, j, hj, h0⟩ := anc_spec hk h
    have hlt := (idsOk_spec hk).1 s hs j hj
    have hdj := hD s hs hd j hj
    rcases h0 with rfl | h0
    · exact hdj
    · exact ih j r (by omega) hdj h0

theorem upd_get (F : Fr) (q : T1) (t : Nat) : (upd F q).get t = if q.s.dst = some t then q.val else F.get t := by
  unfold upd
  cases hv : q.val with
  | none =>
    cases hd : q.s.dst with
    | none => simp [Fr.unput]
    | some d =>
      simp only [Fr.unput, Fr.get_del, Option.some.injEq]
      by_cases e : t = d
      · subst e; simp
      · rw [if_neg e, if_neg (fun h => e h.symm)]
  | some v =>
    cases hd : q.s.dst with
    | none => simp [Fr.put]
    | some d =>
      simp only [Fr.put, Fr.get_set, Option.some.injEq]
      by_cases e : t = d
      · subst e; simp
      · rw [if_neg e, if_neg (fun h => e h.symm)]

theorem fin_filter (t : Nat) : ∀ (l : List T1) (F G : Fr), F.get t = G.get t → (fin F l).get t = (fin G (l.filter fun q => q.s.dst == some t)).get t
  | [], F, G, h => h
  | q :: l, F, G, h => by
    simp only [fin, List.foldl_cons]
    by_cases e : q.s.dst = some t
    · rw [List.filter_cons_of_pos (by simpa using e)]
      simp only [List.foldl_cons]
      exact fin_filter t l _ _ (by rw [upd_get, upd_get, if_pos e, if_pos e])
    · rw [List.filter_cons_of_neg (by simpa using e)]
      exact fin_filter t l _ _ (by rw [upd_get, if_neg e, h])

theorem fin_eq {t : Nat} {F : Fr} {l m : List T1} (h : (l.filter fun q => q.s.dst == some t) = m.filter fun q => q.s.dst == some t) : (fin F l).get t = (fin F m).get t := by
  rw [fin_filter t l F F rfl, fin_filter t m F F rfl, h]

theorem fin_append (F : Fr) (l m : List T1) : fin F (l ++ m) = fin (fin F l) m := by simp [fin]

theorem filter_eq_of {α : Type} {p q : α → Bool} {l : List α} (h : ∀ x ∈ l, p x = q x) : l.filter p = l.filter q := List.filter_congr h

/-- A row whose members of one kind stand in a chain: a set that holds with each all that are ahead of it holds the first of the chain. -/
theorem prefix_of {α : Type} {D : α → Bool} : ∀ {l : List α}, (∀ A x B, l = A ++ x :: B → D x = true → ∀ y ∈ A, D y = true) → l.filter D = l.take (l.filter D).length
  | [], _ => rfl
  | x :: l, h => by
    by_cases hx : D x = true
    · rw [List.filter_cons_of_pos hx]
      simp only [List.length_cons, List.take_succ_cons, List.cons.injEq, true_and]
      refine prefix_of fun A y B e hy z hz => h (x :: A) y B (by rw [e]; rfl) hy z (by simp [hz])
    · rw [List.filter_cons_of_neg hx]
      have : l.filter D = [] := by
        rw [List.filter_eq_nil_iff]
        intro y hy hD
        obtain ⟨A, B, rfl⟩ := List.append_of_mem hy
        exact hx (h (x :: A) y B rfl hD x (by simp))
      rw [this]
      rfl

end Go.Jq
