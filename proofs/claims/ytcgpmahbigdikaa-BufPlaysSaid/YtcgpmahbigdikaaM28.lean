/- Appending to a slice that is one's own, or has no room. -/
import Derived.Test.YtcgpmahbigdikaaM27
set_option linter.unusedSimpArgs false
set_option linter.unusedVariables false
namespace Go.Jq

/-- where a slice stands, and how it may be cut -/
def Slk (lo k : Nat) (v : Value) : Prop := ∀ b o sp n c, v = .slice (some ⟨b, o, sp⟩) n c → lo ≤ b ∧ (sp = none ∨ sp = some k) ∧ n ≤ c

theorem Slk.mk {lo k b n c : Nat} {o : Nat} {sp : Option Nat} (h1 : lo ≤ b) (h2 : sp = none ∨ sp = some k) (h3 : n ≤ c) : Slk lo k (.slice (some ⟨b, o, sp⟩) n c) := by
  intro b' o' sp' n' c' e
  simp only [Value.slice.injEq, Option.some.injEq, Addr.mk.injEq] at e
  obtain ⟨⟨rfl, rfl, rfl⟩, rfl, rfl⟩ := e
  exact ⟨h1, h2, h3⟩
theorem Slk.nil {lo k n c : Nat} : Slk lo k (.slice none n c) := by
  intro b' o' sp' n' c' e
  simp at e

/-- what is appended to: of a literal without elements, or grown -/
def SlT (k : Nat) (h : AH) (lo n : Nat) (cs : List Value) (v : Value) : Prop :=
  (n = 0 ∧ cs = [] ∧ ∃ b c0 g ro, v = .slice (some ⟨b, 0, none⟩) 0 0 ∧ lo ≤ b ∧ b < h.next ∧ h.get b = .cells c0 g ro) ∨ SlG k h lo n cs v
theorem SlT.read {k : Nat} {h : AH} {lo n : Nat} {cs : List Value} {v : Value} (s : SlT k h lo n cs v) : SlR k h n cs v := by
  rcases s with ⟨rfl, rfl, b, c0, g, ro, rfl, h0, h1, h2⟩ | s
  · exact ⟨⟨by simp, .inl ⟨rfl, _, _, rfl⟩⟩, .inr (.inr ⟨b, 0, _, _, c0, g, ro, rfl, h1, h2, Nat.zero_le _⟩)⟩
  · exact .of_own s

/-- the first of two appends: to a literal without elements -/
theorem append_lit {k bytes b n lo : Nat} {h : AH} {c : List Value} {g ro : Bool} {cs : List Value} {y : Value} (hb : h.get b = .cells c g ro) (hbl : lo ≤ b) (hbn : b < h.next) (s : SlR k h n cs y) (hl : n * bytes ≤ 70368744177664) (hlo : lo ≤ h.next) :
    ∃ v' h', sappend h k bytes (.slice (some ⟨b, 0, none⟩) 0 0) y = some (v', h') ∧ SlT k h' lo n cs v' ∧ Ext h h' ∧ Slk lo k v' := by
  obtain ⟨e1, e2⟩ := s.first
  have hlen := s.1.1
  rw [append_bare hb e1 e2 hl]
  by_cases h0 : n = 0
  · subst h0
    have hc : cs = [] := by apply List.eq_nil_of_length_eq_zero; simpa using hlen
    subst hc
    exact ⟨_, _, by rw [if_pos rfl], .inl ⟨rfl, rfl, b, c, g, ro, rfl, hbl, hbn, hb⟩, .refl _, .mk hbl (.inl rfl) (Nat.le_refl _)⟩
  · exact ⟨_, _, by rw [if_neg h0], .inr ⟨hlen, .inr ⟨h.next, hlo, Nat.lt_succ_self _, by simp, rfl⟩⟩, (Ext.refl h).alloc _, .mk hlo (.inr rfl) (Nat.le_refl _)⟩

/-- the second: to what the first gave -/
theorem SlT.append {k bytes m n lo : Nat} {h : AH} {cs ec : List Value} {v y : Value} (s : SlT k h lo n cs v) (r : SlR k h m ec y) (hb : (n + m) * bytes ≤ 70368744177664) (hlo : lo ≤ h.next) :
    ∃ v' h', sappend h k bytes v y = some (v', h') ∧ SlR k h' (n + m) (cs ++ ec) v' ∧ h.next ≤ h'.next ∧ (∀ x, x < lo → h'.get x = h.get x) ∧ Slk lo k v' := by
  rcases s with ⟨rfl, rfl, b, c0, g, ro, rfl, h0, h1, h2⟩ | s
  · obtain ⟨v', h', e1, e2, e3, e4⟩ := append_lit (lo := lo) h2 h0 h1 r (by simpa using hb) hlo
    refine ⟨v', h', e1, ?_, e3.next, fun x hx => e3.get x (by omega), e4⟩
    simpa using e2.read
  · obtain ⟨f1, f2⟩ := r.first
    have hel := r.1.1
    have hgt : ¬ (n + m) * bytes > 70368744177664 := by omega
    obtain ⟨s1, s2⟩ := s
    rcases s2 with ⟨rfl, rfl⟩ | ⟨b, h1, h2, h3, rfl⟩
    · have hc : cs = [] := by apply List.eq_nil_of_length_eq_zero; simpa using s1
      subst hc
      by_cases h0 : m = 0
      · subst h0
        have hc : ec = [] := by apply List.eq_nil_of_length_eq_zero; simpa using hel
        subst hc
        refine ⟨.slice none 0 0, h, ?_, by simpa using SlR.nil, Nat.le_refl _, fun _ _ => rfl, .nil⟩
        simp only [sappend, f1, f2]
        rw [if_neg hgt]; simp
      · refine ⟨.slice (some ⟨h.next, 0, some k⟩) m m, h.alloc (.cells ec true false), ?_, ?_, Nat.le_succ _, fun x hx => by rw [AH.alloc_get, if_neg (by omega)], .mk hlo (.inr rfl) (Nat.le_refl _)⟩
        · simp only [sappend, f1, f2]
          rw [if_neg hgt]; simp [h0]
        · have : SlG k (h.alloc (.cells ec true false)) lo m ec (.slice (some ⟨h.next, 0, some k⟩) m m) := ⟨hel, .inr ⟨h.next, hlo, Nat.lt_succ_self _, by simp, rfl⟩⟩
          simpa using SlR.of_own this
    · by_cases h0 : m = 0
      · subst h0
        have hc : ec = [] := by apply List.eq_nil_of_length_eq_zero; simpa using hel
        subst hc
        refine ⟨_, h, ?_, by simpa using SlR.of_own (k := k) (h := h) (lo := lo) (n := n) (cs := cs) ⟨s1, .inr ⟨b, h1, h2, h3, rfl⟩⟩, Nat.le_refl _, fun _ _ => rfl, .mk h1 (.inr rfl) (Nat.le_refl _)⟩
        simp only [sappend, f1, f2]
        rw [if_neg hgt]; simp
      · have hld : h.load b 0 (n * k) = some cs := load_all h3 (by omega)
        refine ⟨.slice (some ⟨h.next, 0, some k⟩) (n + m) (n + m), (h.put b .dead).alloc (.cells (cs ++ ec) true false), ?_, ?_, Nat.le_succ _, fun x hx => by rw [AH.alloc_get, if_neg (by simp; omega), AH.put_get, if_neg (by omega)], .mk hlo (.inr rfl) (Nat.le_refl _)⟩
        · have hnc : ¬ (n + m ≤ n) := by omega
          simp only [sappend, f1, f2]
          rw [if_neg hgt, if_neg hnc, hld, h3]
          simp
        · have : SlG k ((h.put b .dead).alloc (.cells (cs ++ ec) true false)) lo (n + m) (cs ++ ec) (.slice (some ⟨h.next, 0, some k⟩) (n + m) (n + m)) := ⟨by simp [s1, hel, Nat.add_mul], .inr ⟨h.next, hlo, by simp, by simp, rfl⟩⟩
          exact SlR.of_own this
end Go.Jq
