/- Each function of this translation has the small code that was printed for it. -/
import Derived.Test.YtmaemogjdnlcoaaDoorRows
import Derived.KernelRfl
import Derived.Test.YtmaemogjdnlcoaaDoorM24
import Derived.Test.YtmaemogjdnlcoaaDoorFin0
set_option linter.unusedSimpArgs false
set_option linter.unusedVariables false
namespace Go.Jq
open Go.Proofs

def finNames : Names := [(258, 3), (259, 4), (260, 5), (261, 6), (95, 7), (262, 8), (49, 9), (263, 10), (169, 11), (142, 12), (264, 13), (87, 14), (93, 15), (94, 16), (96, 17), (97, 18), (265, 19), (198, 20), (86, 21), (168, 25), (141, 26), (266, 27), (230, 28), (154, 29), (214, 32), (195, 40), (196, 41), (202, 42)]
def finG : Nat → SFunc
  | 258 => c258
  | 259 => c259
  | 260 => c260
  | 261 => c261
  | 95 => c95
  | 262 => c262
  | 49 => c49
  | 263 => c263
  | 169 => c169
  | 142 => c142
  | 264 => c264
  | 87 => c87
  | 93 => c93
  | 94 => c94
  | 96 => c96
  | 97 => c97
  | 265 => c265
  | 198 => c198
  | 86 => c86
  | 168 => c168
  | 141 => c141
  | 266 => c266
  | 230 => c230
  | 154 => c154
  | 214 => c214
  | 195 => c195
  | 196 => c196
  | 202 => c202
  | _ => ⟨0, 0, .skip, []⟩

set_option maxRecDepth 100000 in
theorem fin_c258 : cFunc Tryd.prog finNames.ψ Tryd.f3 [[5, 4, 3], [8, 7, 5, 4, 3], [43, 7, 5, 4, 3], [6], [6]] = some c258 := by kernel_rfl
set_option maxRecDepth 100000 in
theorem fin_c259 : cFunc Tryd.prog finNames.ψ Tryd.f4 [[3, 2], [4]] = some c259 := by kernel_rfl
set_option maxRecDepth 100000 in
theorem fin_c260 : cFunc Tryd.prog finNames.ψ Tryd.f5 [[3, 2], [5, 3, 2], [5, 3, 2], [9, 5, 3, 2], [6, 5, 3, 2], [6, 5, 3, 2], [13, 6, 5, 3, 2], [28, 6, 5, 3, 2], [4], [6, 5, 3, 2], [5, 3, 2], [7, 3, 2], [7, 3, 2], [43, 7, 3, 2], [54, 7, 3, 2], [4], [7, 3, 2], [4]] = some c260 := by kernel_rfl
set_option maxRecDepth 100000 in
theorem fin_c261 : cFunc Tryd.prog finNames.ψ Tryd.f6 [[], [1], [2, 1], [0]] = some c261 := by kernel_rfl
set_option maxRecDepth 100000 in
theorem fin_c95 : cFunc Tryd.prog finNames.ψ Tryd.f7 [[3, 2], [7, 3, 2], [7, 3, 2], [8, 7, 3, 2], [7, 5, 3, 2], [7, 6, 3, 2], [20, 7, 6, 3, 2], [4], [7, 3, 2], [4]] = some c95 := by kernel_rfl
set_option maxRecDepth 100000 in
theorem fin_c262 : cFunc Tryd.prog finNames.ψ Tryd.f8 [[3, 2], [5, 3, 2], [15, 14, 5, 3, 2], [15, 14, 5, 3, 2], [16, 15, 14, 5, 3, 2], [15, 14, 6, 5, 3, 2], [22, 21, 15, 14, 6, 5, 3, 2], [22, 21, 15, 14, 6, 5, 3, 2], [23, 22, 21, 15, 14, 6, 5, 3, 2], [22, 21, 15, 14, 8, 7, 6, 5, 3, 2], [22, 21, 15, 14, 6, 5, 3, 2], [22, 21, 15, 14, 6, 5, 3, 2], [15, 14, 5, 3, 2], [44, 43, 42, 5, 3], [44, 43, 42, 5, 3], [45, 44, 43, 42, 5, 3], [44, 43, 42, 10, 9, 5, 3], [50, 44, 43, 42, 10, 9, 5, 3], [44, 43, 42, 5, 3], [44, 43, 42, 5, 3], [4]] = some c262 := by kernel_rfl
set_option maxRecDepth 100000 in
theorem fin_c49 : cFunc Tryd.prog finNames.ψ Tryd.f9 [[0], [3], [3], [2]] = some c49 := by kernel_rfl
set_option maxRecDepth 100000 in
theorem fin_c263 : cFunc Tryd.prog finNames.ψ Tryd.f10 [[3, 0], [4]] = some c263 := by kernel_rfl
set_option maxRecDepth 100000 in
theorem fin_c169 : cFunc Tryd.prog finNames.ψ Tryd.f11 [[1, 0], [11, 10, 9, 1, 0], [11, 10, 9, 1, 0], [12, 11, 10, 9, 1, 0], [11, 10, 9, 6, 5, 1, 0], [19, 11, 10, 9, 6, 5, 1, 0], [4], [11, 10, 9, 7, 6, 1, 0], [11, 10, 9, 8, 1, 0], [28, 11, 10, 9, 8, 1, 0], [4], [11, 10, 9, 1, 0], [35], [4], [4]] = some c169 := by kernel_rfl
set_option maxRecDepth 100000 in
theorem fin_c142 : cFunc Tryd.prog finNames.ψ Tryd.f12 [[0], [3, 0], [8, 7, 6, 3], [8, 7, 6, 3], [9, 8, 7, 6, 3], [8, 7, 6, 5, 3], [14, 8, 7, 6, 5, 3], [2], [8, 7, 6, 3], [2]] = some c142 := by kernel_rfl
set_option maxRecDepth 100000 in
theorem fin_c264 : cFunc Tryd.prog finNames.ψ Tryd.f13 [[0], [2]] = some c264 := by kernel_rfl
set_option maxRecDepth 100000 in
theorem fin_c93 : cFunc Tryd.prog finNames.ψ Tryd.f15 [[0], [4, 0], [2], [2]] = some c93 := by kernel_rfl
set_option maxRecDepth 100000 in
theorem fin_c94 : cFunc Tryd.prog finNames.ψ Tryd.f16 [[4, 1, 0], []] = some c94 := by kernel_rfl
set_option maxRecDepth 100000 in
theorem fin_c96 : cFunc Tryd.prog finNames.ψ Tryd.f17 [[0], [2]] = some c96 := by kernel_rfl
set_option maxRecDepth 100000 in
theorem fin_c97 : cFunc Tryd.prog finNames.ψ Tryd.f18 [[0], [8, 0], [2], [3, 0], [3, 0], [13, 3, 0], [25, 3, 0], [4, 3, 0], [5, 4, 3, 0], [5, 4, 3, 0], [32, 5, 4, 3, 0], [44, 5, 4, 3, 0], [5, 4, 3, 0], [5, 4, 3, 0], [5, 4, 3, 0], [3, 0], [2], [3, 0], [2]] = some c97 := by kernel_rfl
set_option maxRecDepth 100000 in
theorem fin_c265 : cFunc Tryd.prog finNames.ψ Tryd.f19 [[3, 0], [4]] = some c265 := by kernel_rfl
set_option maxRecDepth 100000 in
theorem fin_c198 : cFunc Tryd.prog finNames.ψ Tryd.f20 [[1, 0], [5, 1, 0], [6, 5, 1, 0], [11, 6, 1, 0], [12], [4], [4], [13, 1, 0], [4], [16, 1, 0], [4], [19], [4], [4]] = some c198 := by kernel_rfl
set_option maxRecDepth 100000 in
theorem fin_c86 : cFunc Tryd.prog finNames.ψ Tryd.f21 [[1, 0], [4]] = some c86 := by kernel_rfl
set_option maxRecDepth 100000 in
theorem fin_c168 : cFunc Tryd.prog finNames.ψ Tryd.f25 [[10, 4, 3, 2, 1, 0], [11, 10, 4, 3, 2, 1, 0], [11, 10, 4, 3, 2, 1, 0], [12, 11, 10, 4, 3, 2, 1, 0], [25, 12, 11, 10, 4, 3, 2, 1, 0], [], [32, 12, 11, 10, 4, 3, 2, 1, 0], [], [39, 12, 11, 10, 4, 3, 2, 1, 0], [12, 11, 10, 4, 3, 2, 1, 0], [12, 11, 10, 4, 3, 2, 1, 0], [14, 13, 12, 11, 10, 4, 3, 2, 1, 0], [56, 14, 13, 12, 11, 10, 4, 3, 2, 1, 0], [13, 12, 11, 10, 4, 3, 2, 1, 0], [13, 12, 11, 10, 4, 3, 2, 1, 0], [14, 13, 12, 11, 10, 4, 3, 2, 1, 0], [75, 13, 12, 11, 10, 4, 3, 2, 1, 0], [80, 13, 12, 11, 10, 4, 3, 2, 1, 0], [97, 13, 12, 11, 10, 4, 3, 2, 1, 0], [15, 11, 10, 4, 3, 2, 0], [11, 10, 4, 3, 2, 1, 0], [17, 16, 12, 4, 3, 2, 1, 0], [16, 12, 11, 4, 3, 2, 1, 0], [19, 18, 16, 12, 11, 4, 3, 2, 1, 0], [20, 19, 18, 16, 11, 4, 3, 2, 1, 0], [125, 20, 19, 18, 16, 11, 4, 3, 2, 1, 0], [16, 11, 10, 4, 3, 2, 1, 0], [16, 11, 10, 4, 3, 2, 0], [11, 10, 4, 3, 2, 1, 0], [16, 11, 10, 4, 3, 2, 1, 0], [16, 11, 10, 4, 3, 1, 0], [11, 10, 4, 3, 2, 1, 0]] = some c168 := by kernel_rfl
set_option maxRecDepth 100000 in
theorem fin_c141 : cFunc Tryd.prog finNames.ψ Tryd.f26 [[0], [2], [2]] = some c141 := by kernel_rfl
set_option maxRecDepth 100000 in
theorem fin_c266 : cFunc Tryd.prog finNames.ψ Tryd.f27 [[3, 0], [8, 7, 3, 0], [8, 7, 3, 0], [9, 8, 7, 3, 0], [8, 7, 5, 3, 0], [16, 8, 7, 5, 3, 0], [4], [8, 7, 3, 0], [4]] = some c266 := by kernel_rfl
set_option maxRecDepth 100000 in
theorem fin_c230 : cFunc Tryd.prog finNames.ψ Tryd.f28 [[0], [2]] = some c230 := by kernel_rfl
set_option maxRecDepth 100000 in
theorem fin_c154 : cFunc Tryd.prog finNames.ψ Tryd.f29 [[1, 0], [11, 1, 0], [17, 0], [4], [5, 0], [6, 5, 0], [23, 6, 5, 0], [6, 5, 0], [7, 6, 5, 0], [7, 5, 0], [34, 7, 5], [7, 5], [4], [4], [9], [4]] = some c154 := by kernel_rfl
set_option maxRecDepth 100000 in
theorem fin_c214 : cFunc Tryd.prog finNames.ψ Tryd.f32 [[8, 3, 2, 1, 0], [8, 3, 2, 1, 0], [14, 8, 3, 2, 1, 0], [9, 8, 3, 2, 1, 0], [9, 8, 3, 2, 1, 0], [34, 9, 8, 3, 2, 1, 0], [9, 8, 3, 2, 1, 0], [9, 8, 3, 2, 1, 0], [8, 3, 2, 1, 0]] = some c214 := by kernel_rfl
set_option maxRecDepth 100000 in
theorem fin_c195 : cFunc Tryd.prog finNames.ψ Tryd.f40 [[2, 0], [4, 2, 0], [0], [2, 0], [8, 2, 0], [2, 0], [2, 0], [2]] = some c195 := by kernel_rfl
set_option maxRecDepth 100000 in
theorem fin_c196 : cFunc Tryd.prog finNames.ψ Tryd.f41 [[2, 0], [4, 2, 0], [0], [2, 0], [8, 2, 0], [2, 0], [2, 0], [14, 2, 0], [2, 0], [2, 0], [2]] = some c196 := by kernel_rfl
set_option maxRecDepth 100000 in
theorem fin_c202 : cFunc Tryd.prog finNames.ψ Tryd.f42 [[0], [4, 0], [2], [2]] = some c202 := by kernel_rfl

theorem finKnown : Known Tryd.prog finNames finG where
  ok := by kernel_rfl
  calls := by
    intro x hx
    simp only [finNames, List.mem_cons, List.not_mem_nil, or_false] at hx
    rcases hx with rfl | rfl | rfl | rfl | rfl | rfl | rfl | rfl | rfl | rfl | rfl | rfl | rfl | rfl | rfl | rfl | rfl | rfl | rfl | rfl | rfl | rfl | rfl | rfl | rfl | rfl | rfl | rfl
    · exact Tryd.call3
    · exact Tryd.call4
    · exact Tryd.call5
    · exact Tryd.call6
    · exact Tryd.call7
    · exact Tryd.call8
    · exact Tryd.call9
    · exact Tryd.call10
    · exact Tryd.call11
    · exact Tryd.call12
    · exact Tryd.call13
    · exact Tryd.call14
    · exact Tryd.call15
    · exact Tryd.call16
    · exact Tryd.call17
    · exact Tryd.call18
    · exact Tryd.call19
    · exact Tryd.call20
    · exact Tryd.call21
    · exact Tryd.call25
    · exact Tryd.call26
    · exact Tryd.call27
    · exact Tryd.call28
    · exact Tryd.call29
    · exact Tryd.call32
    · exact Tryd.call40
    · exact Tryd.call41
    · exact Tryd.call42
  code := by
    intro x hx
    simp only [finNames, List.mem_cons, List.not_mem_nil, or_false] at hx
    rcases hx with rfl | rfl | rfl | rfl | rfl | rfl | rfl | rfl | rfl | rfl | rfl | rfl | rfl | rfl | rfl | rfl | rfl | rfl | rfl | rfl | rfl | rfl | rfl | rfl | rfl | rfl | rfl | rfl
    · exact .inl ⟨_, _, Tryd.func3, fin_c258⟩
    · exact .inl ⟨_, _, Tryd.func4, fin_c259⟩
    · exact .inl ⟨_, _, Tryd.func5, fin_c260⟩
    · exact .inl ⟨_, _, Tryd.func6, fin_c261⟩
    · exact .inl ⟨_, _, Tryd.func7, fin_c95⟩
    · exact .inl ⟨_, _, Tryd.func8, fin_c262⟩
    · exact .inl ⟨_, _, Tryd.func9, fin_c49⟩
    · exact .inl ⟨_, _, Tryd.func10, fin_c263⟩
    · exact .inl ⟨_, _, Tryd.func11, fin_c169⟩
    · exact .inl ⟨_, _, Tryd.func12, fin_c142⟩
    · exact .inl ⟨_, _, Tryd.func13, fin_c264⟩
    · exact .inr ⟨2, rfl⟩
    · exact .inl ⟨_, _, Tryd.func15, fin_c93⟩
    · exact .inl ⟨_, _, Tryd.func16, fin_c94⟩
    · exact .inl ⟨_, _, Tryd.func17, fin_c96⟩
    · exact .inl ⟨_, _, Tryd.func18, fin_c97⟩
    · exact .inl ⟨_, _, Tryd.func19, fin_c265⟩
    · exact .inl ⟨_, _, Tryd.func20, fin_c198⟩
    · exact .inl ⟨_, _, Tryd.func21, fin_c86⟩
    · exact .inl ⟨_, _, Tryd.func25, fin_c168⟩
    · exact .inl ⟨_, _, Tryd.func26, fin_c141⟩
    · exact .inl ⟨_, _, Tryd.func27, fin_c266⟩
    · exact .inl ⟨_, _, Tryd.func28, fin_c230⟩
    · exact .inl ⟨_, _, Tryd.func29, fin_c154⟩
    · exact .inl ⟨_, _, Tryd.func32, fin_c214⟩
    · exact .inl ⟨_, _, Tryd.func40, fin_c195⟩
    · exact .inl ⟨_, _, Tryd.func41, fin_c196⟩
    · exact .inl ⟨_, _, Tryd.func42, fin_c202⟩

end Go.Jq
