/- Slices that grew by append: owned. -/
import Derived.Test.YtmaemogjdnlcoaaDoorM22
set_option linter.unusedSimpArgs false
set_option linter.unusedVariables false
namespace Go.Jq

/-- A slice of n elements of k cells each that grew by append, or nil; its block is not below 'lo'. -/
def SlG (k : Nat) (h : AH) (lo n : Nat) (cs : List Value) (v : Value) : Prop :=
  cs.length = n * k ∧ ((n = 0 ∧ v = .slice none 0 0) ∨ ∃ b, lo ≤ b ∧ b < h.next ∧ h.get b = .cells cs true false ∧ v = .slice (some ⟨b, 0, some k⟩) n n)

theorem SlG.nil {k : Nat} {h : AH} {lo : Nat} : SlG k h lo 0 [] (.slice none 0 0) := ⟨by simp, .inl ⟨rfl, rfl⟩⟩
theorem SlG.len {k : Nat} {h : AH} {lo n : Nat} {cs : List Value} {v : Value} (s : SlG k h lo n cs v) : ∃ a c, v = .slice a n c := by
  rcases s.2 with ⟨rfl, rfl⟩ | ⟨b, _, _, _, rfl⟩
  · exact ⟨_, _, rfl⟩
  · exact ⟨_, _, rfl⟩
theorem SlG.ext {k : Nat} {h h1 : AH} {lo n : Nat} {cs : List Value} {v : Value} (s : SlG k h lo n cs v) (x : Ext h h1) : SlG k h1 lo n cs v := by
  obtain ⟨s1, s2⟩ := s
  refine ⟨s1, ?_⟩
  rcases s2 with ⟨rfl, rfl⟩ | ⟨b, h1, h2, h3, rfl⟩
  · exact .inl ⟨rfl, rfl⟩
  · exact .inr ⟨b, h1, Nat.lt_of_lt_of_le h2 x.next, by rw [x.get b h2]; exact h3, rfl⟩
theorem SlG.low {k : Nat} {h : AH} {lo lo' n : Nat} {cs : List Value} {v : Value} (s : SlG k h lo n cs v) (hl : lo' ≤ lo) : SlG k h lo' n cs v := by
  obtain ⟨s1, s2⟩ := s
  refine ⟨s1, ?_⟩
  rcases s2 with ⟨rfl, rfl⟩ | ⟨b, h1, h2, h3, rfl⟩
  · exact .inl ⟨rfl, rfl⟩
  · exact .inr ⟨b, Nat.le_trans hl h1, h2, h3, rfl⟩

/-- one row more -/
theorem SlG.append {k bytes m m' t o : Nat} {sp : Option Nat} {h : AH} {lo n : Nat} {cs ec : List Value} {v : Value} (s : SlG k h lo n cs v) (he : h.load t o (m * k) = some ec) (hm : 0 < m) (hb : (n + m) * bytes ≤ 70368744177664) (hlo : lo ≤ h.next) :
    ∃ h', sappend h k bytes v (.slice (some ⟨t, o, sp⟩) m m') = some (.slice (some ⟨h.next, 0, some k⟩) (n + m) (n + m), h') ∧ SlG k h' lo (n + m) (cs ++ ec) (.slice (some ⟨h.next, 0, some k⟩) (n + m) (n + m)) ∧
      h'.next = h.next + 1 ∧ (∀ x, x < h.next → (∀ n' , v ≠ .slice (some ⟨x, 0, some k⟩) n' n') → h'.get x = h.get x) ∧ (∀ x, x < lo → h'.get x = h.get x) := by
  have hel : ec.length = m * k := by
    unfold AH.load at he
    split at he
    · split at he
      · simp only [Option.some.injEq] at he; subst he; simp; omega
      · simp at he
    · simp at he
  obtain ⟨s1, s2⟩ := s
  have hgt : ¬ (n + m) * bytes > 70368744177664 := by omega
  have hm0 : m ≠ 0 := by omega
  rcases s2 with ⟨rfl, rfl⟩ | ⟨b, h1, h2, h3, rfl⟩
  · have hc : cs = [] := by apply List.eq_nil_of_length_eq_zero; simpa using s1
    subst hc
    refine ⟨h.alloc (.cells ec true false), ?_, ⟨by simp [hel], .inr ⟨h.next, hlo, Nat.lt_succ_self _, by simp, rfl⟩⟩, rfl, ?_, ?_⟩
    · simp only [sappend, lenOf, firstOf, he, Nat.zero_add] at hgt ⊢
      simp [hgt, hm0]
    · intro x hx _; simp; omega
    · intro x hx; simp; omega
  · refine ⟨(h.put b .dead).alloc (.cells (cs ++ ec) true false), ?_, ⟨by simp [hel, s1, Nat.add_mul], .inr ⟨h.next, hlo, by simp, by simp, rfl⟩⟩, rfl, ?_, ?_⟩
    · have hld : h.load b (0 : Nat) (n * k) = some cs := load_all h3 (by omega)
      have hnc : ¬ (n + m ≤ n) := by omega
      simp only [sappend, lenOf, firstOf, he]
      rw [if_neg hgt, if_neg hnc, hld, h3]
      simp
    · intro x hx hne
      have : x ≠ b := by rintro rfl; exact hne n rfl
      simp [this]; omega
    · intro x hx
      have : x ≠ b := by omega
      simp [this]; omega

theorem iand_bound {a m : Int} (h0 : 0 ≤ m) (h1 : m ≤ 9223372036854775807) : 0 ≤ iand .i64 a m ∧ iand .i64 a m ≤ m := by
  have hb : (BitVec.ofInt IntKind.i64.bits a &&& BitVec.ofInt IntKind.i64.bits m).toNat ≤ m.toNat := by
    rw [BitVec.toNat_and]
    refine Nat.le_trans Nat.and_le_right ?_
    rw [BitVec.toNat_ofInt]
    have : (IntKind.i64.bits : Nat) = 64 := rfl
    rw [this]
    omega
  unfold iand
  rw [wrap64 (by omega)]
  omega
end Go.Jq
