/- The steps of the two memories beside each other. -/
import Derived.Test.YtmaemogjdnlcoaaDoorM2
set_option linter.unusedSimpArgs false
set_option linter.unusedVariables false
namespace Go.Jq
open Go.RowKit

section
variable {C : Ctx} {γ : Gm} {h : AH} {w : World}

theorem HR.grow (H : HR C γ h w) (o : ABlk) : HR C γ (h.alloc o) w := by
  have key : ∀ b x, γ b = some x → b ≠ h.next := fun b x hb e => by
    have := H.dom b (by omega); rw [hb] at this; simp at this
  refine ⟨H.below, H.low, ?_, ?_, ?_⟩
  · intro b B s N hb
    simp only [AH.alloc, if_neg (key b _ hb)]
    exact H.blk b B s N hb
  · intro b b' B s N s' N' hb hb' h1 h2
    simp only [AH.alloc, if_neg (key b _ hb)] at h1
    simp only [AH.alloc, if_neg (key b' _ hb')] at h2
    exact H.inj b b' B s N s' N' hb hb' h1 h2
  · intro b hb
    exact H.dom b (by simp only [AH.alloc] at hb; omega)

def gset (γ : Gm) (b : Nat) (x : Nat × Nat × Nat) : Gm := fun i => if i = b then some x else γ i
theorem gset_sub {b : Nat} {x : Nat × Nat × Nat} (hb : γ b = none) : Sub γ (gset γ b x) := by
  intro i y hi
  unfold gset
  split
  · rename_i e; subst e; rw [hb] at hi; simp at hi
  · exact hi

/-- A block that the abstract memory has already, made in the true one. -/
theorem HR.map (H : HR C γ h w) {b : Nat} (hb : γ b = none) (hlt : b < h.next) {obj : Obj} {N : Nat} (hB : BR C (gset γ b (w.heap.size, 0, N)) (h.get b) (some obj) w.heap.size 0 N) :
    HR C (gset γ b (w.heap.size, 0, N)) h { w with heap := w.heap.push obj } := by
  have hs := gset_sub (x := (w.heap.size, 0, N)) hb
  have hsz := H.size
  refine ⟨⟨H.below.os, H.below.tape, H.below.output, by have := H.below.size; simp; omega, fun k hk => ?_⟩, H.low, ?_, ?_, ?_⟩
  · rw [← H.below.block k hk, Array.getElem?_push, if_neg (by omega)]
  · intro b' B s N' hb'
    unfold gset at hb'
    split at hb'
    · rename_i e
      subst e
      simp only [Option.some.injEq, Prod.mk.injEq] at hb'
      obtain ⟨rfl, rfl, rfl⟩ := hb'
      simpa using hB
    · have k := (H.blk b' B s N' hb').mono hs
      rw [Array.getElem?_push]
      split
      · rename_i e
        subst e
        cases ho : h.get b' with
        | dead => trivial
        | cells c g ro =>
          rw [ho] at k; obtain ⟨_, _, _, _, k1, _⟩ := k
          simp at k1
        | map es clk =>
          rw [ho] at k; obtain ⟨_, k1, _⟩ := k
          simp at k1
      · exact k
  · have key : ∀ b' s' N', γ b' = some (w.heap.size, s', N') → (h.get b').wr = true → False := by
      intro b' s' N' hb' hw
      have k := H.blk b' _ s' N' hb'
      cases ho : h.get b' with
      | dead => rw [ho] at hw; simp [ABlk.wr] at hw
      | cells c g ro =>
        rw [ho] at k; obtain ⟨_, _, _, _, k1, _⟩ := k
        simp at k1
      | map es clk =>
        rw [ho] at k; obtain ⟨_, k1, _⟩ := k
        simp at k1
    intro b1 b2 B s1 N1 s2 N2 q1 q2 w1 w2
    unfold gset at q1 q2
    split at q1 <;> split at q2
    · rename_i e1 e2; rw [e1, e2]
    · simp only [Option.some.injEq, Prod.mk.injEq] at q1
      obtain ⟨rfl, rfl, rfl⟩ := q1
      exact (key b2 _ _ q2 w2).elim
    · simp only [Option.some.injEq, Prod.mk.injEq] at q2
      obtain ⟨rfl, rfl, rfl⟩ := q2
      exact (key b1 _ _ q1 w1).elim
    · exact H.inj b1 b2 B s1 N1 s2 N2 q1 q2 w1 w2
  · intro b' hb'
    unfold gset
    rw [if_neg (by omega)]
    exact H.dom b' hb'

theorem HR.alloc (H : HR C γ h w) {o : ABlk} {obj : Obj} {N : Nat} (hB : BR C (gset γ h.next (w.heap.size, 0, N)) o (some obj) w.heap.size 0 N) :
    Sub γ (gset γ h.next (w.heap.size, 0, N)) ∧ HR C (gset γ h.next (w.heap.size, 0, N)) (h.alloc o) { w with heap := w.heap.push obj } :=
  ⟨gset_sub (H.dom _ (Nat.le_refl _)), (H.grow o).map (H.dom _ (Nat.le_refl _)) (by simp [AH.alloc]) (by simpa [AH.alloc] using hB)⟩

/-- A block of cells of one's own, made. -/
theorem BR.new {γ : Gm} {c : List Value} {D : Array Value} {E : TypeId} {g : Bool} (hR : FA2 (VR C γ) c (D.toList.take c.length)) (hle : c.length ≤ D.size) (h1 : ∀ x ∈ c, x.oneCell' = true) {B : Nat} (hB : C.base ≤ B) :
    BR C γ (.cells c g false) (some (.cells D E)) B 0 D.size :=
  ⟨D, E, 0, 0, rfl, rfl, by omega, by simpa using hR, h1, by simp, fun _ => ⟨hB, .inl rfl⟩⟩

/-- Stores, one behind the other, into one block. -/
theorem run_storeCells {P : Program} {B o : Nat} {E : TypeId} {lo hi N : Nat} (hfz : hi = lo ∨ N ≤ lo) : ∀ (vs : List Value) (i : Nat) (D : Array Value) (w : World), w.heap[B]? = some (.cells D E (lo, hi)) → D.size = N →
    o + i + vs.length ≤ D.size → (∀ x ∈ vs, x.oneCell' = true) →
    (storeCells ⟨B, o, none⟩ vs i).run P w = .ok () { w with heap := w.heap.modify B fun _ => .cells (splice D.toList (o + i) vs).toArray E (lo, hi) }
  | [], i, D, w, hw, _, hle, _ => by
    simp only [storeCells, Sem.run_pure, splice]
    congr 1
    have : (w.heap.modify B fun _ => Obj.cells (List.take (o + i) D.toList ++ ([] ++ List.drop (o + i + ([] : List Value).length) D.toList)).toArray E (lo, hi)) = w.heap := by
      apply Array.ext_getElem?
      intro j
      rw [Array.getElem?_modify]
      split
      · rename_i e; subst e; simp [hw]
      · rfl
    rw [this]
  | v :: vs, i, D, w, hw, hN, hle, h1 => by
    simp only [List.length_cons] at hle
    have hadd : (⟨B, o, none⟩ : Addr).add i = ⟨B, o + i, none⟩ := by
      unfold Addr.add; split <;> simp_all
    have hc : w.cell? ⟨B, o + i, none⟩ = some (D[o + i]'(by omega)) := by rw [cell_of hw]; simp
    have hf : w.frozen? ⟨B, o + i, none⟩ = false := by
      simp only [World.frozen?, hw]
      rcases hfz with h | h
      · simp; omega
      · simp; omega
    have hv : v.oneCell' = true := h1 v (by simp)
    simp only [storeCells, Sem.run_bind, hadd, run_store P w ⟨B, o + i, none⟩ v .plain hv, hc, hf, Bool.false_eq_true, if_false, Result.andThen_ok]
    have hset : w.setCell ⟨B, o + i, none⟩ v = { w with heap := w.heap.modify B fun _ => .cells (D.setIfInBounds (o + i) v) E (lo, hi) } := by
      simp only [World.setCell]
      congr 1
      apply Array.ext_getElem?
      intro j
      rw [Array.getElem?_modify, Array.getElem?_modify]
      split
      · rename_i e; subst e; simp [hw]
      · rfl
    rw [hset]
    rw [run_storeCells (P := P) (o := o) (E := E) (N := N) hfz vs (i + 1) (D.setIfInBounds (o + i) v) _ (by simp [Array.getElem?_modify, hw]) (by simpa using hN) (by simp; omega) (fun x hx => h1 x (by simp [hx]))]
    congr 1
    congr 1
    apply Array.ext_getElem?
    intro j
    rw [Array.getElem?_modify, Array.getElem?_modify, Array.getElem?_modify]
    split
    · rename_i e
      subst e
      simp only [hw, Option.map_some, Option.some.injEq, Obj.cells.injEq, and_true]
      apply congrArg List.toArray
      apply List.ext_getElem?
      intro k
      simp only [splice, Array.toList_setIfInBounds, List.getElem?_append, List.length_take, List.getElem?_take, List.getElem?_drop, List.length_set, Array.length_toList, List.getElem?_set, List.length_cons]
      have e3 : min (o + (i + 1)) D.size = o + (i + 1) := by omega
      have e4 : min (o + i) D.size = o + i := by omega
      rw [e3, e4]
      by_cases k1 : k < o + i
      · simp only [k1, show k < o + (i + 1) by omega, show ¬ o + i = k by omega, if_true, if_false]
      · by_cases k2 : k = o + i
        · subst k2
          simp [show o + i < o + (i + 1) by omega, show o + i < D.size by omega]
        · simp only [show ¬ k < o + (i + 1) by omega, k1, if_false]
          obtain ⟨m, rfl⟩ : ∃ m, k = o + i + 1 + m := ⟨k - (o + i + 1), by omega⟩
          have q1 : o + i + 1 + m - (o + (i + 1)) = m := by omega
          have q2 : o + i + 1 + m - (o + i) = m + 1 := by omega
          rw [q1, q2]
          simp only [List.getElem?_cons_succ]
          by_cases k3 : m < vs.length
          · simp [k3]
          · simp only [k3, show ¬ (m + 1 < vs.length + 1) by omega, if_false]
            rw [if_neg (by omega)]
            congr 1
            omega
    · rfl

theorem splice_length {c : List Value} {o : Nat} {vs : List Value} (hl : o + vs.length ≤ c.length) : (splice c o vs).length = c.length := by
  simp [splice]; omega

theorem splice_set {c : List Value} {o : Nat} {v : Value} (hl : o < c.length) : splice c o [v] = c.set o v := by
  apply List.ext_getElem?
  intro k
  simp only [splice, List.getElem?_append, List.length_take, List.getElem?_take, List.length_cons, List.length_nil, List.getElem?_drop, List.getElem?_set, Nat.min_eq_left (Nat.le_of_lt hl)]
  by_cases k1 : k < o
  · simp [k1]; intro e; omega
  · by_cases k2 : k = o
    · subst k2; simp [hl]
    · obtain ⟨m, rfl⟩ : ∃ m, k = o + 1 + m := ⟨k - (o + 1), by omega⟩
      simp [show o + 1 + m - o = m + 1 by omega, show ¬ o + 1 + m < o by omega, show ¬ o = o + 1 + m by omega]

/-- A row of cells, stored. -/
theorem HR.store (H : HR C γ h w) {b o B s N : Nat} {l : List Value} {l' : List Value} (hb : γ b = some (B, s, N)) (hl : FA2 (VR C γ) l l') (h1 : ∀ x ∈ l, x.oneCell' = true) {h' : AH} (hst : h.store b o l = some h') :
    ∃ w', (storeCells ⟨B, s + o, none⟩ l').run C.P w = .ok () w' ∧ HR C γ h' w' := by
  unfold AH.store at hst
  split at hst
  · rename_i c g hc
    split at hst
    · rename_i hle
      simp at hst
      subst hst
      obtain ⟨D, E, lo, hi, e1, e2, e3, e4, e5, _, e6⟩ := H.cells hb hc
      have e7 := e6 rfl
      have hl' := hl.length
      have ho' : ∀ x ∈ l', x.oneCell' = true := by
        intro x hx
        obtain ⟨i, hi⟩ := List.getElem?_of_mem hx
        have hlt := (List.getElem?_eq_some_iff.1 hi).1
        have hlt2 : i < l.length := by omega
        obtain ⟨y, hy, hr⟩ := hl.get (List.getElem?_eq_getElem hlt2)
        rw [hi] at hy
        simp at hy; subst hy
        rw [hr.one]
        exact h1 _ (List.getElem_mem hlt2)
      refine ⟨_, run_storeCells e7.2 l' 0 D w e1 e2 (by omega) ho', ?_⟩
      refine H.write hb hc e1 (c' := splice c o l) (D' := (splice D.toList (s + o + 0) l').toArray) (splice_length hle) ?_ ?_ ?_ rfl
      · simp; rw [splice_length (by simp; omega)]; simp
      · have := FA2.splice e4 hl o
        rw [splice_length hle]
        have e : List.take c.length (List.drop s (splice D.toList (s + o + 0) l').toArray.toList) = List.take o (List.take c.length (List.drop s D.toList)) ++ (l' ++ List.drop (o + l'.length) (List.take c.length (List.drop s D.toList))) := by
          apply List.ext_getElem?
          intro k
          simp only [splice, List.getElem?_take, List.getElem?_drop, List.getElem?_append, List.length_take, List.length_drop, Array.length_toList, Nat.add_zero]
          have m1 : min (s + o) D.size = s + o := by omega
          have m2 : min o (min c.length (D.size - s)) = o := by omega
          rw [m1, m2]
          by_cases k1 : k < o
          · simp [k1, show s + k < s + o by omega]
          · rw [if_neg (show ¬ s + k < s + o by omega), if_neg k1]
            have q : s + k - (s + o) = k - o := by omega
            rw [q]
            by_cases k2 : k - o < l'.length
            · rw [if_pos k2, if_pos k2, if_pos (by omega)]
            · rw [if_neg k2, if_neg k2]
              have q2 : o + l'.length + (k - o - l'.length) = k := by omega
              rw [q2]
              congr 2
              omega
        rw [e]
        rw [hl'] at this
        simpa [splice, hl'] using this
      · intro x hx
        simp only [splice, List.mem_append] at hx
        rcases hx with hx | hx | hx
        · exact e5 x (List.mem_of_mem_take hx)
        · exact h1 x hx
        · exact e5 x (List.mem_of_mem_drop hx)
    · simp at hst
  · simp at hst

theorem HR.store1 (H : HR C γ h w) {b o B s N : Nat} {v v' : Value} (hb : γ b = some (B, s, N)) (hl : VR C γ v v') (h1 : v.oneCell' = true) {h' : AH} (hst : h.store1 b o v = some h') :
    ∃ w', (storeCells ⟨B, s + o, none⟩ [v']).run C.P w = .ok () w' ∧ HR C γ h' w' := by
  refine H.store hb (.one hl) (by simpa using h1) ?_
  unfold AH.store1 at hst
  unfold AH.store
  split at hst
  · rename_i c g hc
    split at hst
    · rename_i hlt
      simp at hst
      simp only [List.length_cons, List.length_nil]
      rw [if_pos (by omega), splice_set hlt, hst]
    · simp at hst
  · simp at hst
end

end Go.Jq
