/- Stores that wait: the law's own 'first'. -/
import Derived.Test.YtcgpmahbigdikaaB7
import Derived.Test.YtcgpmahbigdikaaB4
set_option linter.unusedSimpArgs false
set_option linter.unusedVariables false
namespace Go.Jq
variable {G : Nat → SFunc} {h : AH} {R : Value → AH → Prop}

/-- a row of stores that is read -/
abbrev Ents (h : AH) (l : List Ent) (v : Value) : Prop := SlV 3 h l.length (l.flatMap Ent.c) v
theorem Ents.at {l : List Ent} {v : Value} (s : Ents h l v) {i : Nat} (hi : i < l.length) : ∃ b o sp c c0 g ro, v = .slice (some ⟨b, o, sp⟩) l.length c ∧ b < h.next ∧ h.get b = .cells c0 g ro ∧
    c0[o + i * 3]? = some (.int .i64 l[i].loc) ∧ c0[o + i * 3 + 1]? = some (.int .i64 l[i].v) ∧ c0[o + i * 3 + 2]? = some (.int .i64 l[i].id) ∧ o + i * 3 + 3 ≤ c0.length ∧ (c0.drop (o + i * 3)).take 3 = l[i].c := by
  obtain ⟨b, o, sp, c, c0, g, ro, e1, e2, e3, e4, e5, e6⟩ := SlV.cells s hi
  have key : ∀ j, j < 3 → c0[o + i * 3 + j]? = l[i].c[j]? := fun j hj => by
    rw [e4 j hj, fm_get Ent.c_length _ _ _ hj, List.getElem?_eq_getElem hi]; rfl
  refine ⟨b, o, sp, c, c0, g, ro, e1, e2, e3, key 0 (by omega), key 1 (by omega), key 2 (by omega), e5, ?_⟩
  rw [e6, fm_drop Ent.c_length, List.drop_eq_getElem_cons hi, List.flatMap_cons, List.take_append_of_le_length (by rw [Ent.c_length]; omega), List.take_of_length_le (by rw [Ent.c_length]; omega)]

def inv12 (m loc : Int) (w : List Ent) (v : Value) (h : AH) (n : Nat) (F : Fr) (hh : AH) : Prop :=
  ∃ i : Nat, n = w.length - i ∧ i ≤ w.length ∧ (∀ j (hj : j < w.length), j < i → hits m loc w[j] = false) ∧ hh = h ∧ F = [(0, v), (1, .int .i64 m), (2, .int .i64 loc), (7, .int .i64 i)]

theorem first_spec (g : BufL G) {m loc : Int} {w : List Ent} {v : Value} (hv : Ents h w v) (hw : w.length ≤ 1000) (k : R (.int .i64 (optI (oldN m loc w))) h) : WC G 12 [v, .int .i64 m, .int .i64 loc] h R := by
  refine WC_enter g.g12 rfl ?_
  show W G c12_body _ _ (retK [.tmp 6] R)
  unfold c12_body c12_0 c12_1
  obtain ⟨a, c, ev⟩ := SlV.len hv
  simp -implicitDefEqProofs
  refine W_loop (inv12 m loc w v h) w.length ⟨0, rfl, Nat.zero_le _, by omega, rfl, rfl⟩ ?_
  rintro n F hh ⟨i, rfl, hi, hno, rfl, rfl⟩
  unfold c12_6 c12_2 c12_3 c12_4 c12_5 c12_7
  by_cases h1 : i < w.length
  · have hwi : IntKind.i64.wrap ((i : Int) + 1) = (i : Int) + 1 := wrap64 (by omega)
    have hii : (i : Int) < w.length := by omega
    obtain ⟨b, o, sp, c, c0, gg, ro, rfl, hb, hgb, ld0, ld1, ld2, _⟩ := Ents.at hv h1
    by_cases h2 : hits m loc w[i] = true
    · have hk : R (.int .i64 i) hh := by simpa [oldN_hit h1 hno h2, optI] using k
      by_cases h3 : m = 2
      · simp -implicitDefEqProofs [h1, h3]
        exact hk
      · have h4 : w[i].loc = loc := by simpa [hits, h3] using h2
        simp -implicitDefEqProofs [h1, h3, h4, hgb, ld0]
        exact hk
    · have h3 : m ≠ 2 := by rintro rfl; simp [hits] at h2
      have h4 : w[i].loc ≠ loc := by intro e; simp [hits, e] at h2
      simp -implicitDefEqProofs [h1, h3, h4, hgb, ld0, hwi]
      refine ⟨w.length - (i + 1), by omega, i + 1, rfl, h1, ?_, rfl, by simp⟩
      intro j hj hji
      by_cases e : j = i
      · subst e; simpa using h2
      · exact hno j hj (by omega)
  · subst ev
    simp -implicitDefEqProofs [h1]
    have : oldN m loc w = none := oldN_none fun j hj => hno j hj (by omega)
    simpa [this, optI] using k
end Go.Jq
