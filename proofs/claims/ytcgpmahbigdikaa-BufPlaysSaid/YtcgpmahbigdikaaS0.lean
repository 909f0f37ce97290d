/- Each function of this translation has the small code that was printed for it. -/
import Derived.Test.YtcgpmahbigdikaaRows
import Derived.KernelRfl
import Derived.Test.YtcgpmahbigdikaaM24
import Derived.Test.YtcgpmahbigdikaaB0
set_option linter.unusedSimpArgs false
set_option linter.unusedVariables false
namespace Go.Jq
open Go.Proofs

def seatNames : Names := [(0, 3), (1, 4), (2, 5), (3, 6), (4, 7), (5, 8), (6, 9), (7, 10), (8, 11), (9, 12), (10, 13), (11, 14), (12, 15), (13, 16), (14, 17), (15, 18)]
def seatG : Nat → SFunc
  | 0 => c0
  | 1 => c1
  | 2 => c2
  | 3 => c3
  | 4 => c4
  | 5 => c5
  | 6 => c6
  | 7 => c7
  | 8 => c8
  | 9 => c9
  | 10 => c10
  | 11 => c11
  | 12 => c12
  | 13 => c13
  | 14 => c14
  | 15 => c15
  | _ => ⟨0, 0, .skip, []⟩

set_option maxRecDepth 100000 in
theorem seat_c0 : cFunc Try.prog seatNames.ψ Try.f3 [[0, 1, 2], [0, 1, 2], [0, 1, 2, 7, 8, 9], [0, 1, 2, 7, 8, 9, 10], [0, 1, 2, 7, 8, 9, 10], [0, 1, 2, 7, 8, 9, 10, 24], [0, 1, 2, 7, 8, 9, 10], [0, 1, 2, 7, 8, 9, 10], [0, 1, 2, 7, 8, 9, 10], [0, 1, 2, 7, 8, 9, 10], [0, 1, 2, 7, 8, 9, 11], [0, 9, 69], [6], [0, 9, 12], [0, 9, 12, 13], [0, 9, 12, 13], [0, 9, 12, 13, 76], [0, 9, 12, 13, 81], [0, 9, 12, 13], [0, 9, 12, 13], [6]] = some c0 := by kernel_rfl
set_option maxRecDepth 100000 in
theorem seat_c1 : cFunc Try.prog seatNames.ψ Try.f4 [[0, 1], [0, 1], [1, 5, 6], [1, 5, 6, 7], [1, 5, 6, 7], [1, 5, 6, 7, 26], [1, 5, 6, 7, 8, 9], [1, 5, 6, 7, 8, 9, 10], [1, 5, 6, 7, 8, 9, 10, 11], [1, 5, 6, 7, 10, 80], [4], [1, 5, 6, 7], [1, 5, 6, 7], [1, 5, 6, 7, 98], [4], [1, 5, 6, 7, 104], [1, 5, 6, 7], [1, 5, 6, 7], [4]] = some c1 := by kernel_rfl
set_option maxRecDepth 100000 in
theorem seat_c2 : cFunc Try.prog seatNames.ψ Try.f5 [[0], [0, 3, 4], [0, 3, 4, 5], [0, 3, 4, 5, 6], [0, 3, 4, 5, 6], [0, 3, 4, 5, 6, 25], [0, 3, 4, 5, 6], [0, 3, 4, 5, 6], [0, 3, 4, 5, 6], [0, 3, 4, 5, 7], [0, 3, 4, 5, 7], [0, 3, 4, 5, 7, 58], [0, 3, 4, 5, 7, 8, 9, 10, 11], [0, 3, 4, 5, 7, 93], [2], [0, 3, 4, 5, 7], [0, 3, 4, 5, 7], [0, 3, 4, 5, 12], [0, 3, 4, 5, 12], [0, 3, 4, 5, 12, 97], [0, 3, 4, 5, 12, 13], [0, 3, 4, 5, 12, 13], [0, 3, 4, 5, 12, 13, 102], [0, 3, 4, 5, 12, 13, 112], [0, 3, 4, 5, 12, 13, 14, 15, 16, 17], [0, 3, 4, 5, 12, 13, 141], [2], [0, 3, 4, 5, 12, 13], [0, 3, 4, 5, 12, 13], [0, 3, 4, 5, 12], [2]] = some c2 := by kernel_rfl
set_option maxRecDepth 100000 in
theorem seat_c3 : cFunc Try.prog seatNames.ψ Try.f6 [[0, 1, 2], [0, 1, 2, 7], [0, 1, 2, 7, 8], [0, 1, 2, 7, 8, 9], [0, 1, 2, 7, 8, 9], [0, 1, 2, 7, 8, 9, 23], [0, 1, 2, 7, 8, 9, 10], [0, 1, 2, 7, 8, 9, 10, 11], [0, 1, 2, 7, 8, 9, 10, 11, 33], [0, 1, 2, 7, 8, 9, 10, 11], [0, 1, 2, 7, 8, 9, 10, 11, 61], [0, 1, 2, 7, 8, 9, 11], [0, 1, 2, 7, 8, 9, 10, 11], [0, 1, 2, 7, 8, 9, 11, 12], [0, 1, 2, 7, 8, 9, 11, 12, 83], [0, 1, 2, 7, 8, 9, 11], [0, 1, 2, 7, 8, 9, 103], [6], [0, 1, 2, 7, 8, 9, 13], [0, 1, 2, 7, 8, 9, 13], [0, 1, 2, 7, 8, 9, 13, 105], [0, 1, 2, 7, 8, 9, 13, 113], [6], [0, 1, 2, 7, 8, 9, 13], [0, 1, 2, 7, 8, 9], [6]] = some c3 := by kernel_rfl
set_option maxRecDepth 100000 in
theorem seat_c4 : cFunc Try.prog seatNames.ψ Try.f7 [[0, 2], [0, 2, 8], [0, 2], [2]] = some c4 := by kernel_rfl
set_option maxRecDepth 100000 in
theorem seat_c5 : cFunc Try.prog seatNames.ψ Try.f8 [[1, 2, 3, 4, 8], [1, 2, 3, 4, 8, 24], [8], [4, 8], [4, 8], [8]] = some c5 := by kernel_rfl
set_option maxRecDepth 100000 in
theorem seat_c6 : cFunc Try.prog seatNames.ψ Try.f9 [[1], [2]] = some c6 := by kernel_rfl
set_option maxRecDepth 100000 in
theorem seat_c7 : cFunc Try.prog seatNames.ψ Try.f10 [[1, 2], [1, 2, 5], [1, 2, 5, 11, 12, 13], [1, 2, 5, 11, 12, 13], [1, 2, 5, 11, 12, 13, 14], [1, 2, 5, 7, 11, 12, 13], [1, 2, 5, 7, 11, 12, 13, 25], [1, 2, 5, 11, 12, 13], [1, 2, 5, 11, 12, 13], [4]] = some c7 := by kernel_rfl
set_option maxRecDepth 100000 in
theorem seat_c8 : cFunc Try.prog seatNames.ψ Try.f11 [[1], [2]] = some c8 := by kernel_rfl
set_option maxRecDepth 100000 in
theorem seat_c9 : cFunc Try.prog seatNames.ψ Try.f12 [[], [1], [1, 2, 3, 4, 5], [1, 2, 3, 4, 5, 6, 8], [0]] = some c9 := by kernel_rfl
set_option maxRecDepth 100000 in
theorem seat_c10 : cFunc Try.prog seatNames.ψ Try.f13 [[1, 2, 4], [2, 4, 5], [2, 4, 5, 10], [4], [2, 4], [2, 4], [2, 4], [4]] = some c10 := by kernel_rfl
set_option maxRecDepth 100000 in
theorem seat_c11 : cFunc Try.prog seatNames.ψ Try.f14 [[1, 2], [2, 8], [2, 8, 13], [4, 5, 6, 7], [4, 5, 6, 7]] = some c11 := by kernel_rfl
set_option maxRecDepth 100000 in
theorem seat_c12 : cFunc Try.prog seatNames.ψ Try.f15 [[0, 1, 2], [0, 1, 2, 7], [0, 1, 2, 7], [0, 1, 2, 7, 11], [0, 1, 2, 7, 24], [6], [0, 1, 2, 7], [6]] = some c12 := by kernel_rfl
set_option maxRecDepth 100000 in
theorem seat_c13 : cFunc Try.prog seatNames.ψ Try.f16 [[1, 2, 3, 4], [1, 2, 3, 4, 9, 10, 11], [1, 2, 3, 4, 9, 10, 11, 12], [1, 2, 3, 4, 9, 10, 11, 12, 13], [1, 2, 3, 4, 9, 10, 11, 12, 13], [1, 2, 3, 4, 9, 10, 11, 12, 13, 32], [1, 2, 3, 4, 9, 10, 11, 12, 13, 41], [1, 2, 3, 4, 9, 10, 11, 12, 13], [1, 2, 3, 4, 9, 10, 11, 12, 13], [1, 2, 3, 4, 79], [8], [1, 2, 3, 4, 14, 15, 16, 17], [1, 2, 3, 4, 14, 15, 16, 17, 18], [1, 2, 3, 4, 141], [8], [1, 2, 3, 4, 19], [1, 2, 3, 4, 19, 20], [1, 2, 3, 4, 19, 20, 21], [1, 2, 3, 4, 19, 20, 21], [1, 2, 3, 4, 19, 20, 21, 148], [1, 2, 3, 4, 19, 20, 21, 161], [1, 2, 3, 4, 19, 20, 21, 176], [8], [1, 2, 3, 4, 19, 20, 21], [1, 2, 3, 4, 19, 20, 21], [8]] = some c13 := by kernel_rfl
set_option maxRecDepth 100000 in
theorem seat_c14 : cFunc Try.prog seatNames.ψ Try.f17 [[1, 2], [1, 2, 7], [1, 2, 7], [1, 2, 7, 12], [1, 2, 7, 21], [4, 5, 6], [1, 2, 7], [4, 5, 6]] = some c14 := by kernel_rfl
set_option maxRecDepth 100000 in
theorem seat_c15 : cFunc Try.prog seatNames.ψ Try.f18 [[1, 2], [1, 2, 7, 8], [1, 2, 7, 8], [1, 2, 7, 8, 9], [1, 2, 5, 7, 8], [1, 2, 5, 7, 8, 22], [4], [1, 2, 7, 8], [4]] = some c15 := by kernel_rfl

theorem seatKnown : Known Try.prog seatNames seatG where
  ok := by kernel_rfl
  calls := by
    intro x hx
    simp only [seatNames, List.mem_cons, List.not_mem_nil, or_false] at hx
    rcases hx with rfl | rfl | rfl | rfl | rfl | rfl | rfl | rfl | rfl | rfl | rfl | rfl | rfl | rfl | rfl | rfl
    · exact Try.call3
    · exact Try.call4
    · exact Try.call5
    · exact Try.call6
    · exact Try.call7
    · exact Try.call8
    · exact Try.call9
    · exact Try.call10
    · exact Try.call11
    · exact Try.call12
    · exact Try.call13
    · exact Try.call14
    · exact Try.call15
    · exact Try.call16
    · exact Try.call17
    · exact Try.call18
  code := by
    intro x hx
    simp only [seatNames, List.mem_cons, List.not_mem_nil, or_false] at hx
    rcases hx with rfl | rfl | rfl | rfl | rfl | rfl | rfl | rfl | rfl | rfl | rfl | rfl | rfl | rfl | rfl | rfl
    · exact ⟨_, _, Try.func3, seat_c0⟩
    · exact ⟨_, _, Try.func4, seat_c1⟩
    · exact ⟨_, _, Try.func5, seat_c2⟩
    · exact ⟨_, _, Try.func6, seat_c3⟩
    · exact ⟨_, _, Try.func7, seat_c4⟩
    · exact ⟨_, _, Try.func8, seat_c5⟩
    · exact ⟨_, _, Try.func9, seat_c6⟩
    · exact ⟨_, _, Try.func10, seat_c7⟩
    · exact ⟨_, _, Try.func11, seat_c8⟩
    · exact ⟨_, _, Try.func12, seat_c9⟩
    · exact ⟨_, _, Try.func13, seat_c10⟩
    · exact ⟨_, _, Try.func14, seat_c11⟩
    · exact ⟨_, _, Try.func15, seat_c12⟩
    · exact ⟨_, _, Try.func16, seat_c13⟩
    · exact ⟨_, _, Try.func17, seat_c14⟩
    · exact ⟨_, _, Try.func18, seat_c15⟩

end Go.Jq
