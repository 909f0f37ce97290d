/- Equality of structs and arrays; nil; what touches memory; calls. -/
import Derived.Test.YtmaemogjdnlcoaaDoorM6
import Derived.WalkSpells
set_option linter.unusedSimpArgs false
set_option linter.unusedVariables false
namespace Go.Jq
open Go.RowKit

theorem cellsEq_len : ∀ {ks : List Nat} {x y : List Value} {r : Bool}, cellsEq ks x y = some r → x.length = ks.length ∧ y.length = ks.length
  | [], [], [], _, _ => ⟨rfl, rfl⟩
  | k :: ks, a :: x, b :: y, r, h => by
    simp only [cellsEq] at h
    split at h
    · rename_i p q h1 h2
      have := cellsEq_len h2
      simp [this.1, this.2]
    · simp at h
  | [], _ :: _, _, _, h | [], [], _ :: _, _, h | _ :: _, [], _, _, h | _ :: _, _ :: _, [], _, h => by simp [cellsEq] at h

theorem cellsEq_app : ∀ {k1 k2 : List Nat} {x y : List Value} {r : Bool}, cellsEq (k1 ++ k2) x y = some r →
    ∃ r1 r2, cellsEq k1 (x.take k1.length) (y.take k1.length) = some r1 ∧ cellsEq k2 (x.drop k1.length) (y.drop k1.length) = some r2 ∧ r = (r1 && r2)
  | [], k2, x, y, r, h => ⟨true, r, by simp [cellsEq], by simpa using h, by simp⟩
  | k :: k1, k2, [], y, r, h => by simp [cellsEq] at h
  | k :: k1, k2, _ :: _, [], r, h => by simp [cellsEq] at h
  | k :: k1, k2, a :: x, b :: y, r, h => by
    simp only [List.cons_append, cellsEq] at h
    split at h
    · rename_i p q h1 h2
      obtain ⟨r1, r2, e1, e2, e3⟩ := cellsEq_app h2
      simp only [Option.some.injEq] at h
      subst h
      refine ⟨p && r1, r2, ?_, by simpa using e2, ?_⟩
      · simp [cellsEq, h1, e1]
      · rw [e3, Bool.and_assoc]
    · simp at h

section
variable {P : Program}

/-- what a part of an array of cells is, and whether two are equal -/
def EqAt (P : Program) (d : Nat) (t : TypeId) (ks : List Nat) : Prop := ∀ (X Y : Array Value) (off : Nat) (r : Bool) (w : World),
  cellsEq ks ((X.toList.drop off).take ks.length) ((Y.toList.drop off).take ks.length) = some r →
  ∃ vx vy, (part t X off).run P w = .ok vx w ∧ (part t Y off).run P w = .ok vy w ∧ ∀ k, (Op.equalIn (d + k) t vx vy).run P w = .ok r w

theorem eqFields_run {d k : Nat} {xs ys : Array Value} {w : World} (hd : ∀ t ks, kindsT P d t = some ks → EqAt P d t ks) :
    ∀ (fs : List Field) (off : Nat) (ks : List Nat) (r : Bool), kindsF (kindsT P d) fs off = some ks →
    cellsEq ks ((xs.toList.drop off).take ks.length) ((ys.toList.drop off).take ks.length) = some r → (Op.eqFields (d + k) xs ys fs).run P w = .ok r w
  | [], off, ks, r, h, he => by
    simp [kindsF] at h; subst h
    simp [cellsEq] at he; subst he
    simp [Op.eqFields]
  | f :: fs, off, ks, r, h, he => by
    simp only [kindsF] at h
    split at h
    · rename_i k1 hk1
      split at h
      · rename_i hn
        simp only [Option.map_eq_some_iff] at h
        obtain ⟨k2, hk2, rfl⟩ := h
        simp only [Bool.and_eq_true, bne_iff_ne, ne_eq, beq_iff_eq] at hn
        obtain ⟨r1, r2, e1, e2, rfl⟩ := cellsEq_app he
        rw [List.take_take, List.take_take, Nat.min_eq_left (by simp)] at e1
        rw [List.drop_take, List.drop_take, List.drop_drop, List.drop_drop] at e2
        have e2' : cellsEq k2 ((xs.toList.drop (off + k1.length)).take k2.length) ((ys.toList.drop (off + k1.length)).take k2.length) = some r2 := by
          simpa using e2
        obtain ⟨vx, vy, p1, p2, p3⟩ := hd f.type k1 hk1 xs ys off r1 w e1
        have ih := eqFields_run (k := k) (w := w) hd fs (off + k1.length) k2 r2 hk2 e2'
        simp only [Op.eqFields, hn.1, not_false_eq_true, if_true, Sem.run_bind, hn.2, p1, p2, p3 k, Result.andThen_ok, ne_eq]
        cases r1
        · simp
        · simpa using ih
      · simp at h
    · simp at h

theorem eqItems_run {d k : Nat} {e : TypeId} {ks : List Nat} {xs ys : Array Value} {w : World} (hd : EqAt P d e ks) :
    ∀ (n i : Nat) (r : Bool), cellsEq (List.replicate n ks).flatten ((xs.toList.drop (i * ks.length)).take (n * ks.length)) ((ys.toList.drop (i * ks.length)).take (n * ks.length)) = some r →
    (Op.eqItems (d + k) e ks.length xs ys (List.range' i n)).run P w = .ok r w
  | 0, i, r, he => by
    simp [cellsEq] at he; subst he
    simp [Op.eqItems]
  | n + 1, i, r, he => by
    rw [List.replicate_succ, List.flatten_cons] at he
    obtain ⟨r1, r2, e1, e2, rfl⟩ := cellsEq_app he
    have q : (n + 1) * ks.length = ks.length + n * ks.length := by rw [Nat.add_mul]; omega
    rw [List.take_take, List.take_take, Nat.min_eq_left (by omega)] at e1
    rw [List.drop_take, List.drop_take, List.drop_drop, List.drop_drop, q, Nat.add_sub_cancel_left] at e2
    have q2 : i * ks.length + ks.length = (i + 1) * ks.length := by rw [Nat.add_mul]; omega
    rw [q2] at e2
    obtain ⟨vx, vy, p1, p2, p3⟩ := hd xs ys (i * ks.length) r1 w e1
    have ih := eqItems_run (k := k) (w := w) hd n (i + 1) r2 e2
    simp only [List.range'_succ, Op.eqItems, Sem.run_bind, p1, p2, p3 k, Result.andThen_ok]
    cases r1
    · simp
    · simpa using ih

theorem part_agg {t : TypeId} {d : TypeDesc} {n off : Nat} {X : Array Value} {w : World} (hu : P.underlying t = some d) (ha : aggD d = true) (hn : tsize P t = some n) :
    (part t X off).run P w = .ok (.agg (X.extract off (off + n))) w := by simp [part, run_agg hu, ha, run_size hn]

theorem part_one {t : TypeId} {d : TypeDesc} {off : Nat} {X : Array Value} {v : Value} {w : World} (hu : P.underlying t = some d) (ha : aggD d = false) (hv : X.toList[off]? = some v) :
    (part t X off).run P w = .ok v w := by
  rw [Array.getElem?_toList] at hv
  simp [part, run_agg hu, ha, hv]

theorem take_one {l : List Value} {v : Value} {off : Nat} {m : List Value} (h : (l.drop off).take 1 = v :: m) : l[off]? = some v := by
  have : ((l.drop off).take 1)[0]? = some v := by rw [h]; rfl
  simpa [List.getElem?_take, List.getElem?_drop] using this

theorem eq_at : ∀ (d : Nat) (t : TypeId) (ks : List Nat), kindsT P d t = some ks → EqAt P d t ks
  | 0, _, _, h => by simp [kindsT] at h
  | d + 1, t, ks, h => by
    intro X Y off r w he
    simp only [kindsT] at h
    split at h
    · rename_i k0 hu hs
      simp at h; subst h
      simp only [List.length_cons, List.length_nil, Nat.zero_add] at he
      obtain ⟨l1, l2⟩ := cellsEq_len he
      obtain ⟨a, x, hx⟩ := List.exists_cons_of_length_eq_add_one l1
      obtain ⟨b, y, hy⟩ := List.exists_cons_of_length_eq_add_one l2
      have hx0 : x = [] := by rw [hx] at l1; simpa using l1
      have hy0 : y = [] := by rw [hy] at l2; simpa using l2
      subst hx0 hy0
      rw [hx, hy] at he
      refine ⟨a, b, part_one hu rfl (take_one hx), part_one hu rfl (take_one hy), fun k => ?_⟩
      rw [show d + 1 + k = d + k + 1 by omega]
      cases a <;> cases b <;> simp [cellsEq, cellEq] at he
      rename_i k1 n1 k2 n2
      by_cases e : k1 = k2
      · subst e; simp at he; subst he; exact run_equalIn_int w _ t _ k0 _ _ hu
      · simp [e] at he
    · rename_i hu hs
      simp at h; subst h
      simp only [List.length_cons, List.length_nil, Nat.zero_add] at he
      obtain ⟨l1, l2⟩ := cellsEq_len he
      obtain ⟨a, x, hx⟩ := List.exists_cons_of_length_eq_add_one l1
      obtain ⟨b, y, hy⟩ := List.exists_cons_of_length_eq_add_one l2
      have hx0 : x = [] := by rw [hx] at l1; simpa using l1
      have hy0 : y = [] := by rw [hy] at l2; simpa using l2
      subst hx0 hy0
      rw [hx, hy] at he
      refine ⟨a, b, part_one hu rfl (take_one hx), part_one hu rfl (take_one hy), fun k => ?_⟩
      rw [show d + 1 + k = d + k + 1 by omega]
      cases a <;> cases b <;> simp [cellsEq, cellEq] at he
      subst he
      exact run_equalIn_bool' w _ t _ _ hu
    · rename_i hu hs
      simp at h; subst h
      simp only [List.length_cons, List.length_nil, Nat.zero_add] at he
      obtain ⟨l1, l2⟩ := cellsEq_len he
      obtain ⟨a, x, hx⟩ := List.exists_cons_of_length_eq_add_one l1
      obtain ⟨b, y, hy⟩ := List.exists_cons_of_length_eq_add_one l2
      have hx0 : x = [] := by rw [hx] at l1; simpa using l1
      have hy0 : y = [] := by rw [hy] at l2; simpa using l2
      subst hx0 hy0
      rw [hx, hy] at he
      refine ⟨a, b, part_one hu rfl (take_one hx), part_one hu rfl (take_one hy), fun k => ?_⟩
      rw [show d + 1 + k = d + k + 1 by omega]
      cases a <;> cases b <;> simp only [cellsEq, cellEq, Bool.and_true, Option.some.injEq] at he <;> try (simp at he; done)
      rw [run_equalIn_string w _ t _ _ hu, ← he]
    · rename_i fs s hu hs
      split at h
      · simp at h
      · rename_i hst
        split at h
        · rename_i ks' hk
          split at h
          · rename_i hl
            simp at h; subst h
            refine ⟨_, _, part_agg hu rfl hs, part_agg hu rfl hs, fun k => ?_⟩
            rw [show d + 1 + k = d + k + 1 by omega]
            have hf : P.fieldsOf t = fs := by simp [Program.fieldsOf, hu]
            rw [run_equalIn_struct w _ t _ _ (by rw [hf]; exact hu) (by simpa using hst), hf]
            refine eqFields_run (eq_at d) fs.toList 0 ks' r hk ?_
            simpa [List.extract_eq_take_drop, hl, List.take_take] using he
          · simp at h
        · simp at h
    · rename_i n e s hu hs
      split at h
      · rename_i ke hke
        split at h
        · rename_i hl
          simp at h; subst h
          refine ⟨_, _, part_agg hu rfl hs, part_agg hu rfl hs, fun k => ?_⟩
          rw [show d + 1 + k = d + k + 1 by omega]
          obtain ⟨hl1, hl2⟩ := hl
          have hl2' := hl2
          simp only [tsize, Option.map_eq_some_iff] at hl2'
          obtain ⟨i, hi, hsz⟩ := hl2'
          have hc : P.cellsOf e = ke.length := by simp [Program.cellsOf, hi, hsz]
          rw [run_equalIn_array w _ _ _ hu hi, hc, List.range_eq_range']
          refine eqItems_run (eq_at d e ke hke) n 0 r ?_
          have hlen : (List.replicate n ke).flatten.length = n * ke.length := by simp
          rw [hlen] at he
          simpa [List.extract_eq_take_drop, hl1, List.take_take] using he
        · simp at h
      · simp at h
    · simp at h
end
end Go.Jq
