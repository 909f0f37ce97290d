/- Stores that wait: awake; BufFull. -/
import Derived.Test.YtcgpmahbigdikaaB4
set_option linter.unusedSimpArgs false
set_option linter.unusedVariables false
namespace Go.Jq
variable {G : Nat → SFunc} {h : AH} {R : Value → AH → Prop}

structure BufL (G : Nat → SFunc) : Prop extends BufG G where
  g0 : G 0 = c0
  g1 : G 1 = c1
  g2 : G 2 = c2
  g3 : G 3 = c3
  g9 : G 9 = c9
  g12 : G 12 = c12
  g13 : G 13 = c13

def aw2 : List Ent := [⟨0, 5, 1⟩, ⟨1, 6, 2⟩]

theorem awake_spec (g : BufL G) (k : ∀ h1, Ext h h1 → R (.bool true) h1) : WC G 9 [] h R := by
  refine WC_enter g.g9 rfl ?_
  show W G c9_body _ _ (retK [.tmp 0] R)
  unfold c9_body c9_0 c9_1 c9_2 c9_3 c9_4
  simp -implicitDefEqProofs
  refine New_spec g.toBufG fun h1 x1 => ?_
  simp -implicitDefEqProofs
  refine Put_spec g.toBufG (by simp) fun h2 x2 => ?_
  rw [show addS (newM 2) [] 0 5 1 = [⟨0, 5, 1⟩] from rfl]
  simp -implicitDefEqProofs
  refine Put_spec g.toBufG (by simp) fun h3 x3 => ?_
  rw [show addS (newM 2) [⟨0, 5, 1⟩] 1 6 2 = aw2 from rfl, show newM 2 = 2 from rfl]
  have hl : (bufC 2 aw2).length = 74 := rfl
  simp -implicitDefEqProofs [bufV, hl, splice_all, List.take_of_length_le]
  refine Oldest_spec g.toBufG (by simp [aw2]) fun h4 x4 => ?_
  have e4 : h4.get h3.next = .cells (bufC 2 aw2) false false := by rw [x4.get _ (by simp)]; simp
  rw [show oldV 2 1 aw2 = .tuple #[.int .i64 0, .int .i64 5, .int .i64 1, .bool true] from rfl]
  simp -implicitDefEqProofs [e4, hl, List.take_of_length_le]
  refine Newest_spec g.toBufG (m := 2) (by simp [aw2]) fun h5 x5 => ?_
  have n4 : h3.next < h4.next := Nat.lt_of_lt_of_le (by simp) x4.next
  have e5 : h5.get h3.next = .cells (bufC 2 aw2) false false := by rw [x5.get _ n4, e4]
  have n5 : h3.next < h5.next := Nat.lt_of_lt_of_le n4 x5.next
  rw [show newV 1 aw2 = .tuple #[.int .i64 6, .int .i64 2, .bool true] from rfl]
  simp -implicitDefEqProofs [e5, hl, List.take_of_length_le]
  refine Len_spec g.toBufG (m := 2) (es := aw2) fun h6 x6 => ?_
  have e6 : h6.get h3.next = .cells (bufC 2 aw2) false false := by rw [x6.get _ n5, e5]
  simp -implicitDefEqProofs [e6, hl, show aw2.length = 2 from rfl, List.take_of_length_le]
  refine Empty_spec g.toBufG (m := 2) (es := aw2) fun h7 x7 => ?_
  simp -implicitDefEqProofs [aw2]
  have y : Ext h ((h3.alloc (.cells (zi 74) false false)).put h3.next (.cells (bufC 2 aw2) false false)) := (((x1.trans x2).trans x3).alloc _).put ((x1.trans x2).trans x3).next _
  exact k _ ((((y.trans x4).trans x5).trans x6).trans x7)
end Go.Jq
