/- Stores that wait: BufPlays, walked to its end. -/
import Derived.Test.YtcgpmahbigdikaaB18
set_option linter.unusedSimpArgs false
set_option linter.unusedVariables false
namespace Go.Jq
variable {G : Nat → SFunc} {h : AH} {R : Value → AH → Prop}

theorem BufPlays_spec (g : BufL G) {m loc : Int} {l : List OpT} {lv : Value} (hv : Ops h l lv) (hlv : ∀ b o sp c, lv = .slice (some ⟨b, o, sp⟩) l.length c → b < h.next) : WC G 3 [.int .i64 m, lv, .int .i64 loc] h fun v _ => v = .bool true := by
  refine WC_enter g.g3 rfl ?_
  show W G c3_body _ _ (retK [.tmp 6] _)
  unfold c3_body c3_0 c3_1 c3_2 c3_3
  simp -implicitDefEqProofs
  refine New_spec g.toBufG fun h1 x1 => ?_
  have hl := fun m => bufC_length (m := m) (es := []) (by simp)
  simp -implicitDefEqProofs [bufV, hl, splice_all]
  refine W_loop (inv3 m loc l lv) l.length ⟨0, h1.next, [], .slice none 0 0, by omega, by omega, by omega, ⟨by simp, by simp, by simp, .inr rfl, .nil, ?_, ?_, ?_⟩, rfl⟩ ?_
  · intro b o sp n c e; simp at e
  · exact SlV.ext hv ((x1.alloc _).put x1.next _)
  · intro b o sp c e
    exact Nat.lt_of_lt_of_le (hlv b o sp c e) x1.next
  intro k F hh I
  refine plays_round g I fun hh' B es w i t M => ?_
  exact plays_end g M
end Go.Jq
