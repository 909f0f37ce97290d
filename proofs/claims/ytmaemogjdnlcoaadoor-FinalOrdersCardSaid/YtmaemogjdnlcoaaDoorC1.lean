/- Ends stand in one order: numbers and rows, compared. -/
import Derived.Test.YtmaemogjdnlcoaaDoorC0
import Derived.Test.YtmaemogjdnlcoaaDoorFin0
set_option linter.unusedSimpArgs false
set_option linter.unusedVariables false
namespace Go.Jq
variable {G : Nat → SFunc} {h : AH} {R : Value → AH → Prop}

abbrev FinG (G : Nat → SFunc) : Prop := ∀ x ∈ Fin_list, G x.1 = x.2
theorem FinG.at (g : FinG G) {n : Nat} {s : SFunc} (h : (n, s) ∈ Fin_list) : G n = s := g _ h

theorem isNaN_spec (g : FinG G) {a : Int} (k : R (.bool false) h) : WC G 230 [.int .i64 a] h R := by
  refine WC_enter (g.at (n := 230) (s := c230) (by simp [Fin_list])) rfl ?_
  show W G c230_body _ _ (retK [.tmp 2] R)
  unfold c230_body c230_0 c230_1
  simp -implicitDefEqProofs
  exact k

theorem Cmp_spec (g : FinG G) {a b : Int} (k : R (.int .i64 (cmpI a b)) h) : WC G 198 [.int .i64 a, .int .i64 b] h R := by
  refine WC_enter (g.at (n := 198) (s := c198) (by simp [Fin_list])) rfl ?_
  show W G c198_body _ _ (retK [.tmp 4] R)
  unfold c198_body c198_0 c198_1 c198_2 c198_3 c198_7 c198_9 c198_10 c198_11 c198_12 c198_13
  simp -implicitDefEqProofs
  refine isNaN_spec g ?_
  simp -implicitDefEqProofs
  refine isNaN_spec g ?_
  unfold cmpI at k
  by_cases h1 : a < b
  · rw [if_pos h1] at k
    simp -implicitDefEqProofs [h1]
    exact k
  · rw [if_neg h1] at k
    by_cases h2 : b < a
    · rw [if_pos h2] at k
      simp -implicitDefEqProofs [h1, h2]
      exact k
    · rw [if_neg h2] at k
      simp -implicitDefEqProofs [h1, h2]
      exact k

/-- a row of numbers that is read -/
abbrev Ints (h : AH) (A : List Int) (v : Value) : Prop := SlV 1 h A.length (A.map (.int .i64)) v
theorem Ints.at {A : List Int} {v : Value} (s : Ints h A v) {i : Nat} (hi : i < A.length) : ∃ b o sp c c0 g ro, v = .slice (some ⟨b, o, sp⟩) A.length c ∧ h.get b = .cells c0 g ro ∧ c0[o + i]? = some (.int .i64 A[i]) := by
  obtain ⟨b, o, sp, c, c0, g, ro, e1, e2, e3, e4, _⟩ := SlV.cells s hi
  refine ⟨b, o, sp, c, c0, g, ro, e1, e3, ?_⟩
  have := e4 0 (by omega)
  simp only [Nat.mul_one, Nat.add_zero] at this
  rw [this, List.getElem?_map, List.getElem?_eq_getElem hi]; rfl

def inv169 (A B : List Int) (va vb : Value) (h : AH) (n : Nat) (F : Fr) (hh : AH) : Prop :=
  ∃ i : Nat, n = A.length - i ∧ i ≤ A.length ∧ cmpL A B = cmpL (A.drop i) (B.drop i) ∧ hh = h ∧ F = [(0, va), (1, vb), (9, va), (10, .int .i64 A.length), (11, .int .i64 i)]

theorem Compare_spec (g : FinG G) {A B : List Int} {va vb : Value} (ha : Ints h A va) (hb : Ints h B vb) (hl : A.length = B.length) (hm : A.length ≤ 1000) (k : R (.int .i64 (cmpL A B)) h) : WC G 169 [va, vb] h R := by
  refine WC_enter (g.at (n := 169) (s := c169) (by simp [Fin_list])) rfl ?_
  show W G c169_body _ _ (retK [.tmp 4] R)
  unfold c169_body c169_0 c169_1
  obtain ⟨a1, q1, e1⟩ := SlV.len ha
  obtain ⟨a2, q2, e2⟩ := SlV.len hb
  simp -implicitDefEqProofs [e1]
  rw [← e1]
  refine W_loop (inv169 A B va vb h) A.length ⟨0, by omega, by omega, by simp, rfl, rfl⟩ ?_
  rintro n F hh ⟨i, rfl, hi, hc, rfl, rfl⟩
  unfold c169_11 c169_2 c169_3 c169_4 c169_6 c169_7 c169_8 c169_9 c169_10
  by_cases h1 : i < A.length
  · have hwi : IntKind.i64.wrap ((i : Int) + 1) = (i : Int) + 1 := wrap64 (by omega)
    obtain ⟨b, o, sp, c, c0, gg, ro, rfl, hgb, ld⟩ := Ints.at ha h1
    obtain ⟨b', o', sp', c', c0', gg', ro', rfl, hgb', ld'⟩ := Ints.at hb (i := i) (by omega)
    have h2 : i < B.length := by omega
    have h3 : ¬ (B.length : Int) ≤ i := by omega
    have h4 : (i : Int) < B.length := by omega
    have h5 : (i : Int) < A.length := by omega
    have h6 : ¬ B.length ≤ i := by omega
    simp -implicitDefEqProofs [h1, h2, h3, h4, h5, h6, hgb, hgb', ld, ld']
    refine Cmp_spec g ?_
    have hcc := cmpL_at h1 h2
    rw [hcc] at hc
    by_cases h0 : cmpI A[i] B[i] = 0
    · rw [if_neg (by omega)] at hc
      simp -implicitDefEqProofs [h0, hwi]
      exact ⟨A.length - (i + 1), by omega, i + 1, rfl, h1, hc, rfl, by simp⟩
    · rw [if_pos h0] at hc
      simp -implicitDefEqProofs [h0]
      rw [← hc]; exact k
  · have hi2 : i = A.length := by omega
    subst hi2
    have hB : B.drop A.length = [] := List.drop_of_length_le (by omega)
    rw [List.drop_length, hB] at hc
    unfold c169_12 c169_13 c169_14
    subst e1
    subst e2
    have h7 : ¬ A.length < B.length := by omega
    simp -implicitDefEqProofs [hl]
    rw [show cmpL A B = 0 from hc] at k
    exact k

def inv142 (b : Nat) (x : Int) (h : AH) (n : Nat) (F : Fr) (hh : AH) : Prop := ∃ i : Nat, n = 2 - i ∧ i ≤ 2 ∧ (0 < i → x = 0) ∧ hh = h ∧ F = [(3, .int .i64 0), (6, .slice (some ⟨b, 0, none⟩) 2 2), (7, .int .i64 2), (8, .int .i64 i)]
/-- of two the first that is not nought -/
theorem Or_spec (g : FinG G) {b : Nat} {x : Int} (hb : h.get b = .cells [.int .i64 x, .int .i64 0] false false) (k : R (.int .i64 x) h) : WC G 142 [.slice (some ⟨b, 0, none⟩) 2 2] h R := by
  refine WC_enter (g.at (n := 142) (s := c142) (by simp [Fin_list])) rfl ?_
  show W G c142_body _ _ (retK [.tmp 2] R)
  unfold c142_body c142_0 c142_1 c142_2
  simp -implicitDefEqProofs
  refine W_loop (inv142 b x h) 2 ⟨0, by omega, by omega, by omega, rfl, rfl⟩ ?_
  rintro n F hh ⟨i, rfl, hi, hx, rfl, rfl⟩
  unfold c142_8 c142_3 c142_4 c142_5 c142_6 c142_7 c142_9
  have hc : i = 0 ∨ i = 1 ∨ i = 2 := by omega
  have w1 : IntKind.i64.wrap 1 = 1 := wrap64 (by omega)
  have w2 : IntKind.i64.wrap 2 = 2 := wrap64 (by omega)
  rcases hc with rfl | rfl | rfl
  · by_cases h0 : x = 0
    · subst h0
      simp -implicitDefEqProofs [hb, w1]
      exact ⟨1, by omega, 1, by omega, by omega, fun _ => rfl, rfl, by simp⟩
    · simp -implicitDefEqProofs [hb, h0]
      exact k
  · have hx := hx (by omega)
    subst hx
    simp -implicitDefEqProofs [hb, w2]
    exact ⟨2, by omega, by omega, fun _ => rfl, rfl, by simp⟩
  · have hx := hx (by omega)
    subst hx
    simp -implicitDefEqProofs
    exact k
end Go.Jq
