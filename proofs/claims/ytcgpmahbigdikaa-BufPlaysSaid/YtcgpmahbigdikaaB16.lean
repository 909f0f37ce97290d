/- Stores that wait: BufPlays, its plain law. -/
import Derived.Test.YtcgpmahbigdikaaB15
import Derived.Test.YtcgpmahbigdikaaM28
set_option linter.unusedSimpArgs false
set_option linter.unusedVariables false
namespace Go.Jq

theorem newM_ne {m : Int} : newM m ≠ 0 ↔ m = 2 ∨ m = 3 := by
  unfold newM; split
  · rename_i h; constructor
    · intro _; exact h
    · intro _; omega
  · rename_i h; constructor
    · intro e; exact absurd rfl e
    · intro e; exact absurd e h

/-- what the law's own list does at a Put -/
theorem addS_law {m loc v id : Int} {es : List Ent} : addS (newM m) es loc v id = if (m = 2 ∨ m = 3) ∧ 0 ≤ loc ∧ loc ≤ 3 ∧ es.length < 24 then es ++ [⟨loc, v, id⟩] else es := by
  have := newM_ne (m := m)
  unfold addS
  by_cases h1 : m = 2 ∨ m = 3
  · have h0 : newM m ≠ 0 := this.2 h1
    by_cases h2 : 0 ≤ loc ∧ loc ≤ 3 ∧ es.length < 24
    · rw [if_neg (by omega), if_pos ⟨h1, h2⟩]
    · rw [if_pos (by omega), if_neg (by rintro ⟨_, e⟩; exact h2 e)]
  · have h0 : newM m = 0 := by
      by_cases e : newM m = 0
      · exact e
      · exact absurd (this.1 e) h1
    rw [if_pos (.inl h0), if_neg (fun e => h1 e.1)]
end Go.Jq
