/- Appending to a slice without room. -/
import Derived.Test.YtcgpmahbigdikaaM25
set_option linter.unusedSimpArgs false
set_option linter.unusedVariables false
namespace Go.Jq

/-- A slice without room that is appended to, of a literal without elements: nothing gives it back, something makes a new one. -/
theorem append_bare {k bytes b n : Nat} {h : AH} {c : List Value} {g ro : Bool} {new : List Value} {y : Value} (hb : h.get b = .cells c g ro) (hn : lenOf y = some n) (hy : firstOf h k n y = some new) (hl : n * bytes ≤ 70368744177664) :
    sappend h k bytes (.slice (some ⟨b, 0, none⟩) 0 0) y = if n = 0 then some (.slice (some ⟨b, 0, none⟩) 0 0, h) else some (.slice (some ⟨h.next, 0, some k⟩) n n, h.alloc (.cells new true false)) := by
  have hgt : ¬ (0 + n) * bytes > 70368744177664 := by simpa using hl
  have hld : h.load b 0 (0 * k) = some [] := by simp [AH.load, hb]
  by_cases h0 : n = 0
  · subst h0
    simp only [sappend, hn, hy]
    rw [if_neg hgt]
    simp
  · have h1 : ¬ (0 + n ≤ 0) := by omega
    simp only [sappend, hn, hy]
    rw [if_neg hgt, if_neg h1, hld, hb]
    simp [h0]

/-- what a slice that is read hands to an append -/
theorem SlV.first {k : Nat} {h : AH} {n : Nat} {cs : List Value} {v : Value} (s : SlV k h n cs v) (hv : n ≠ 0 ∨ v = .slice none 0 0 ∨ ∃ b o sp c c0 g ro, v = .slice (some ⟨b, o, sp⟩) n c ∧ h.get b = .cells c0 g ro ∧ o ≤ c0.length) : lenOf v = some n ∧ firstOf h k n v = some cs := by
  obtain ⟨s1, s2⟩ := s
  rcases s2 with ⟨rfl, a, c, rfl⟩ | ⟨b, o, sp, c, c0, g, ro, rfl, e2, e3, e4, e5⟩
  · have hc : cs = [] := by apply List.eq_nil_of_length_eq_zero; simpa using s1
    subst hc
    refine ⟨rfl, ?_⟩
    rcases hv with hv | e | ⟨b, o, sp, c', c0, g, ro, e, hg, ho⟩
    · exact absurd rfl hv
    · simp only [Value.slice.injEq] at e
      obtain ⟨rfl, _, _⟩ := e
      simp [firstOf]
    · simp only [Value.slice.injEq] at e
      obtain ⟨rfl, _, _⟩ := e
      simp [firstOf, AH.load, hg, ho]
  · refine ⟨rfl, ?_⟩
    simp only [firstOf]
    rw [load_of e3 e4, e5]

/-- a slice that is read, and that an append may take, without elements too -/
def SlR (k : Nat) (h : AH) (n : Nat) (cs : List Value) (v : Value) : Prop :=
  SlV k h n cs v ∧ (n ≠ 0 ∨ v = .slice none 0 0 ∨ ∃ b o sp c c0 g ro, v = .slice (some ⟨b, o, sp⟩) n c ∧ b < h.next ∧ h.get b = .cells c0 g ro ∧ o ≤ c0.length)
theorem SlR.ext {k : Nat} {h h1 : AH} {n : Nat} {cs : List Value} {v : Value} (s : SlR k h n cs v) (x : Ext h h1) : SlR k h1 n cs v := by
  refine ⟨s.1.ext x, ?_⟩
  rcases s.2 with e | e | ⟨b, o, sp, c, c0, g, ro, e1, e2, e3, e4⟩
  · exact .inl e
  · exact .inr (.inl e)
  · exact .inr (.inr ⟨b, o, sp, c, c0, g, ro, e1, Nat.lt_of_lt_of_le e2 x.next, by rw [x.get b e2]; exact e3, e4⟩)
theorem SlR.nil {k : Nat} {h : AH} : SlR k h 0 [] (.slice none 0 0) := ⟨⟨by simp, .inl ⟨rfl, _, _, rfl⟩⟩, .inr (.inl rfl)⟩
theorem SlR.of_own {k : Nat} {h : AH} {lo n : Nat} {cs : List Value} {v : Value} (s : SlG k h lo n cs v) : SlR k h n cs v := by
  refine ⟨s.view, ?_⟩
  rcases s.2 with ⟨rfl, rfl⟩ | ⟨b, _, h2, h3, rfl⟩
  · exact .inr (.inl rfl)
  · exact .inr (.inr ⟨b, 0, _, _, cs, true, false, rfl, h2, h3, Nat.zero_le _⟩)
theorem SlR.first {k : Nat} {h : AH} {n : Nat} {cs : List Value} {v : Value} (s : SlR k h n cs v) : lenOf v = some n ∧ firstOf h k n v = some cs := by
  refine s.1.first ?_
  rcases s.2 with e | e | ⟨b, o, sp, c, c0, g, ro, e1, _, e3, e4⟩
  · exact .inl e
  · exact .inr (.inl e)
  · exact .inr (.inr ⟨b, o, sp, c, c0, g, ro, e1, e3, e4⟩)
end Go.Jq
