/- Stores that wait: the law's own 'same': the newest. -/
import Derived.Test.YtcgpmahbigdikaaB13
set_option linter.unusedSimpArgs false
set_option linter.unusedVariables false
namespace Go.Jq
variable {G : Nat → SFunc} {h : AH} {R : Value → AH → Prop}

/-- where the last of a location stands among the first i -/
def LastAt (c : Int) (es : List Ent) (i : Nat) (at' : Int) : Prop :=
  (at' = -1 ∧ ∀ j (hj : j < es.length), j < i → es[j].loc ≠ c) ∨ ∃ a, ∃ ha : a < es.length, a < i ∧ at' = a ∧ es[a].loc = c ∧ ∀ j (hj : j < es.length), a + 1 ≤ j → j < i → es[j].loc ≠ c

def inv13a (m c : Int) (es : List Ent) (v x4 x9 x10 x11 : Value) (h : AH) (n : Nat) (F : Fr) (hh : AH) : Prop :=
  ∃ (i : Nat) (at' : Int), n = es.length - i ∧ i ≤ es.length ∧ LastAt c es i at' ∧ hh = h ∧ F = [(1, v), (2, .int .i64 m), (3, .int .i64 c), (4, x4), (9, x9), (10, x10), (11, x11), (12, .int .i64 at'), (13, .int .i64 i)]

theorem same_a {m c : Int} {es : List Ent} {v x4 x9 x10 x11 : Value} (hv : Ents h es v) (hes : es.length ≤ 24) {R : SExit → Fr → AH → Prop} {n : Nat} {F : Fr} {hh : AH} (I : inv13a m c es v x4 x9 x10 x11 h n F hh)
    (K : ∀ at' t32, LastAt c es es.length at' → R (.exit 0) [(1, v), (2, .int .i64 m), (3, .int .i64 c), (4, x4), (9, x9), (10, x10), (11, x11), (12, .int .i64 at'), (13, .int .i64 es.length), (32, t32)] h) :
    W G c13_8 (F.keep [1, 2, 3, 4, 9, 10, 11, 12, 13]) hh (loopK (fun F1 h1 => ∃ k, k < n ∧ inv13a m c es v x4 x9 x10 x11 h k F1 h1) R) := by
  obtain ⟨i, at', rfl, hi, hl, rfl, rfl⟩ := I
  unfold c13_8 c13_4 c13_5 c13_6 c13_7
  obtain ⟨av, cv, ev⟩ := SlV.len hv
  by_cases h1 : i < es.length
  · have hwi : IntKind.i64.wrap ((i : Int) + 1) = (i : Int) + 1 := wrap64 (by omega)
    obtain ⟨b, o, sp, cap, c0, gg, ro, rfl, hb, hgb, ld0, ld1, ld2, _⟩ := Ents.at hv h1
    by_cases h2 : es[i].loc = c
    · simp -implicitDefEqProofs [h1, hgb, ld0, h2, hwi]
      refine ⟨es.length - (i + 1), by omega, i + 1, i, rfl, h1, .inr ⟨i, h1, by omega, rfl, h2, fun j hj a b => by omega⟩, rfl, by simp⟩
    · simp -implicitDefEqProofs [h1, hgb, ld0, h2, hwi]
      refine ⟨es.length - (i + 1), by omega, i + 1, at', rfl, h1, ?_, rfl, by simp⟩
      rcases hl with ⟨rfl, hno⟩ | ⟨a, ha, hai, rfl, hc, hno⟩
      · refine .inl ⟨rfl, fun j hj hji => ?_⟩
        by_cases e : j = i
        · subst e; exact h2
        · exact hno j hj (by omega)
      · refine .inr ⟨a, ha, by omega, rfl, hc, fun j hj haj hji => ?_⟩
        by_cases e : j = i
        · subst e; exact h2
        · exact hno j hj haj (by omega)
  · have : i = es.length := by omega
    subst this
    subst ev
    simp -implicitDefEqProofs
    exact K at' _ hl

/-- the last of a location, by 'newN' -/
theorem LastAt.end {c : Int} {es : List Ent} {at' : Int} (h : LastAt c es es.length at') : (at' = -1 ∧ newN c es = none) ∨ ∃ a, ∃ ha : a < es.length, at' = a ∧ newN c es = some es[a] := by
  rcases h with ⟨rfl, hno⟩ | ⟨a, ha, _, rfl, hc, hno⟩
  · exact .inl ⟨rfl, newN_none fun j hj => hno j hj hj⟩
  · exact .inr ⟨a, ha, rfl, newN_hit ha (fun j hj haj => hno j hj haj hj) hc⟩

def inv13b (m c : Int) (es : List Ent) (v x4 x19 : Value) (h : AH) (n : Nat) (F : Fr) (hh : AH) : Prop :=
  ∃ i : Nat, n = es.length - i ∧ i ≤ es.length ∧ hh = h ∧ F = [(1, v), (2, .int .i64 m), (3, .int .i64 c), (4, x4), (19, x19), (20, .int .i64 (listN m c (es.take i)).length), (21, .int .i64 i)]

theorem cellsEq_ent {e : Ent} : cellsEq [0, 0, 0] e.c e.c = some true := by simp [Ent.c]

theorem listN_take {m c : Int} {es : List Ent} {i : Nat} (hi : i < es.length) : listN m c (es.take (i + 1)) = listN m c (es.take i) ++ (if hits m c es[i] then [es[i]] else []) := by
  rw [listN, List.take_succ_eq_append_getElem hi, List.filter_append]
  rw [show [es[i]].filter (hits m c) = if hits m c es[i] then [es[i]] else [] from by by_cases e : hits m c es[i] = true <;> simp [e]]
  rfl
theorem listN_at {m c : Int} {es : List Ent} {i : Nat} (hi : i < es.length) (hh : hits m c es[i] = true) : (listN m c es)[(listN m c (es.take i)).length]? = some es[i] := by
  have e : listN m c es = listN m c (es.take i) ++ (es[i] :: listN m c (es.drop (i + 1))) := by
    conv => lhs; rw [listN, ← List.take_append_drop i es, List.filter_append, List.drop_eq_getElem_cons hi, List.filter_cons, if_pos hh]
    rfl
  rw [e, List.getElem?_append_right (Nat.le_refl _)]
  simp

theorem same_b {m c : Int} {es : List Ent} {v x4 x19 : Value} (hv : Ents h es v) (hl : Ents h (listN m c es) x19) (hes : es.length ≤ 24) {R : SExit → Fr → AH → Prop} {n : Nat} {F : Fr} {hh : AH} (I : inv13b m c es v x4 x19 h n F hh)
    (K : ∀ t, R (.exit 2) [(1, v), (2, .int .i64 m), (3, .int .i64 c), (4, x4), (19, x19), (20, .int .i64 (listN m c es).length), (21, .int .i64 es.length), (148, t)] h) :
    W G c13_24 (F.keep [1, 2, 3, 4, 19, 20, 21]) hh (loopK (fun F1 h1 => ∃ k, k < n ∧ inv13b m c es v x4 x19 h k F1 h1) R) := by
  obtain ⟨i, rfl, hi, rfl, rfl⟩ := I
  unfold c13_24 c13_18 c13_19 c13_20 c13_22 c13_23
  obtain ⟨av, cv, ev⟩ := SlV.len hv
  by_cases h1 : i < es.length
  · have hwi : IntKind.i64.wrap ((i : Int) + 1) = (i : Int) + 1 := wrap64 (by omega)
    obtain ⟨b, o, sp, cap, c0, gg, ro, rfl, hb, hgb, ld0, ld1, ld2, ld3, ld4⟩ := Ents.at hv h1
    have hN : (listN m c (es.take i)).length ≤ 24 := Nat.le_trans (List.length_filter_le _ _) (by simp; omega)
    have hwn : IntKind.i64.wrap (((listN m c (es.take i)).length : Int) + 1) = ((listN m c (es.take i)).length : Int) + 1 := wrap64 (by omega)
    cases h2 : hits m c es[i] with
    | false =>
      have h3 : m ≠ 2 := by rintro rfl; simp [hits] at h2
      have h4 : es[i].loc ≠ c := by intro e; simp [hits, e] at h2
      simp -implicitDefEqProofs [h1, h3, h4, hgb, ld0, hwi]
      refine ⟨es.length - (i + 1), by omega, i + 1, rfl, h1, rfl, ?_⟩
      rw [listN_take h1, h2]; simp
    | true =>
      have hat := listN_at h1 h2
      have hlt : (listN m c (es.take i)).length < (listN m c es).length := (List.getElem?_eq_some_iff.1 hat).1
      have hge : (listN m c es)[(listN m c (es.take i)).length] = es[i] := (List.getElem?_eq_some_iff.1 hat).2
      obtain ⟨b', o', sp', cap', c0', gg', ro', rfl, hb', hgb', _, _, _, ld3', ld4'⟩ := Ents.at hl hlt
      rw [hge] at ld4'
      have hlt' : ¬ ((listN m c es).length : Int) ≤ ((listN m c (es.take i)).length : Int) := by omega
      have hlt2 : ((listN m c (es.take i)).length : Int) < (listN m c es).length := by omega
      have tl : listN m c (es.take (i + 1)) = listN m c (es.take i) ++ [es[i]] := by rw [listN_take h1, h2]; rfl
      have fin : ∃ k, k < es.length - i ∧ inv13b m c es (.slice (some ⟨b, o, sp⟩) es.length cap) x4 (.slice (some ⟨b', o', sp'⟩) (listN m c es).length cap') hh k
          [(1, .slice (some ⟨b, o, sp⟩) es.length cap), (2, .int .i64 m), (3, .int .i64 c), (4, x4), (19, .slice (some ⟨b', o', sp'⟩) (listN m c es).length cap'), (20, .int .i64 (((listN m c (es.take i)).length : Int) + 1)), (21, .int .i64 ((i : Int) + 1))] hh := by
        refine ⟨es.length - (i + 1), by omega, i + 1, rfl, h1, rfl, ?_⟩
        rw [tl]; simp
      generalize (listN m c (es.take i)).length = N at *
      by_cases h3 : m = 2
      · subst h3
        have hlt3 : ¬ (listN 2 c es).length ≤ N := by omega
        simp -implicitDefEqProofs [h1, hgb, hgb', ld0, hwi, hwn, hlt, hlt', hlt2, hlt3, ld3, ld4, ld3', ld4', cellsEq_ent]
        exact fin
      · have h4 : es[i].loc = c := by simpa [hits, h3] using h2
        simp -implicitDefEqProofs [h1, h3, h4, hgb, hgb', ld0, hwi, hwn, hlt, hlt', hlt2, ld3, ld4, ld3', ld4', cellsEq_ent]
        exact fin
  · have : i = es.length := by omega
    subst this
    subst ev
    simp -implicitDefEqProofs
    simpa using K _
end Go.Jq
