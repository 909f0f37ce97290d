/- Each function of this translation has the small code that was printed for it. -/
import Derived.Test.YtghlejnndjioiaaDoorRows
import Derived.KernelRfl
import Derived.Test.YtghlejnndjioiaaDoorM3
import Derived.Test.YtghlejnndjioiaaDoorC
set_option linter.unusedSimpArgs false
set_option linter.unusedVariables false
namespace Go.Jq
open Go.Proofs
def ftNames : Names := [(268, 4), (270, 10), (262, 11), (271, 12), (261, 13), (274, 27), (275, 28), (264, 29), (87, 30), (276, 31), (49, 32), (263, 33), (280, 41), (281, 42), (282, 43), (86, 44), (93, 48), (94, 49), (95, 50), (96, 51), (97, 52), (265, 53), (168, 66), (141, 67), (169, 68), (142, 69), (266, 70), (214, 86), (215, 87), (216, 88), (217, 89), (218, 90), (219, 91), (220, 92), (221, 93), (195, 94), (196, 95), (198, 96), (246, 113), (225, 114), (226, 115), (247, 116), (248, 117), (230, 118), (256, 140)]
def ftG : Nat → SFunc
  | 268 => c268
  | 270 => c270
  | 262 => c262
  | 271 => c271
  | 261 => c261
  | 274 => c274
  | 275 => c275
  | 264 => c264
  | 87 => c87
  | 276 => c276
  | 49 => c49
  | 263 => c263
  | 280 => c280
  | 281 => c281
  | 282 => c282
  | 86 => c86
  | 93 => c93
  | 94 => c94
  | 95 => c95
  | 96 => c96
  | 97 => c97
  | 265 => c265
  | 168 => c168
  | 141 => c141
  | 169 => c169
  | 142 => c142
  | 266 => c266
  | 214 => c214
  | 215 => c215
  | 216 => c216
  | 217 => c217
  | 218 => c218
  | 219 => c219
  | 220 => c220
  | 221 => c221
  | 195 => c195
  | 196 => c196
  | 198 => c198
  | 246 => c246
  | 225 => c225
  | 226 => c226
  | 247 => c247
  | 248 => c248
  | 230 => c230
  | 256 => c256
  | _ => ⟨0, 0, .skip, []⟩
set_option maxRecDepth 100000 in
theorem ft_c268 : cFunc Tryd.prog ftNames.ψ Tryd.f4 [[0, 4, 5], [4, 5, 7], [4, 5, 7, 8], [4, 5, 7, 8], [4, 5, 7, 8, 20], [4, 5, 7, 8], [4, 5, 7, 8], [4, 5, 7, 9], [4, 5, 7, 9], [4, 5, 7, 9, 35], [4, 5, 7, 9], [4, 5, 7, 9], [4, 5, 7, 10, 11], [4, 5, 7, 10, 11, 12], [4, 5, 7, 10, 11, 12, 13], [4, 5, 7, 10, 11, 12, 13], [4, 5, 7, 10, 11, 12, 13, 53], [4, 5, 7, 10, 11, 12, 13, 59], [4, 5, 7, 10, 11, 12, 13], [4, 5, 7, 10, 11, 12, 13], [6]] = some c268 := by kernel_rfl
set_option maxRecDepth 100000 in
theorem ft_c270 : cFunc Tryd.prog ftNames.ψ Tryd.f10 [[0, 1, 4], [4]] = some c270 := by kernel_rfl
set_option maxRecDepth 100000 in
theorem ft_c262 : cFunc Tryd.prog ftNames.ψ Tryd.f11 [[2, 3], [2, 3, 5], [2, 3, 5, 14, 15], [2, 3, 5, 14, 15], [2, 3, 5, 14, 15, 16], [2, 3, 5, 6, 14, 15], [2, 3, 5, 6, 14, 15, 21, 22], [2, 3, 5, 6, 14, 15, 21, 22], [2, 3, 5, 6, 14, 15, 21, 22, 23], [2, 3, 5, 6, 7, 8, 14, 15, 21, 22], [2, 3, 5, 6, 14, 15, 21, 22], [2, 3, 5, 6, 14, 15, 21, 22], [2, 3, 5, 14, 15], [3, 5, 42, 43, 44], [3, 5, 42, 43, 44], [3, 5, 42, 43, 44, 45], [3, 5, 9, 10, 42, 43, 44], [3, 5, 9, 10, 42, 43, 44, 50], [3, 5, 42, 43, 44], [3, 5, 42, 43, 44], [4]] = some c262 := by kernel_rfl
set_option maxRecDepth 100000 in
theorem ft_c271 : cFunc Tryd.prog ftNames.ψ Tryd.f12 [[2, 3], [2, 3, 5], [2, 3, 5, 6], [2, 3, 5, 6], [2, 3, 5, 6, 17], [2, 3, 5, 6, 7], [2, 3, 5, 6, 7], [2, 3, 5, 6, 7, 21], [2, 3, 5, 6, 7, 25], [2, 3, 5, 6, 7], [2, 3, 5, 6, 7], [2, 3, 5, 6, 7], [2, 3, 5, 6], [2, 3, 5, 8], [2, 3, 5, 8], [2, 3, 5, 8, 53], [2, 3, 5, 8, 57], [2, 3, 5, 8], [2, 3, 5, 8], [2, 3, 5, 8], [4]] = some c271 := by kernel_rfl
set_option maxRecDepth 100000 in
theorem ft_c261 : cFunc Tryd.prog ftNames.ψ Tryd.f13 [[], [1], [1, 2], [0]] = some c261 := by kernel_rfl
set_option maxRecDepth 100000 in
theorem ft_c274 : cFunc Tryd.prog ftNames.ψ Tryd.f27 [[1, 2], [1, 2, 3], [1, 2, 3, 4], [1, 2, 3, 4], [1, 2, 3, 4, 18], [1, 2, 3, 4, 5], [1, 2, 3, 4, 5, 6], [1, 2, 3, 4, 5, 6], [1, 2, 3, 4, 5, 6, 25], [1, 2, 3, 4, 5, 6, 40], [1, 2, 3, 4, 5, 6], [1, 2, 3, 4, 5, 6], [1, 2, 3, 4], [1, 2, 3, 4], [1, 2, 3, 7], [1, 2, 3, 7], [1, 2, 3, 7, 57], [1, 2, 3, 7, 8], [1, 2, 3, 7, 8, 9], [1, 2, 3, 7, 8, 9], [1, 2, 3, 7, 8, 9, 67], [1, 2, 3, 7, 8, 9, 10], [1, 2, 3, 7, 8, 9, 10, 80], [1, 2, 3, 7, 8, 9, 10], [1, 2, 3, 7, 8, 9], [1, 2, 3, 7, 8, 9], [1, 2, 3, 7], [1, 2, 3, 7], [2]] = some c274 := by kernel_rfl
set_option maxRecDepth 100000 in
theorem ft_c275 : cFunc Tryd.prog ftNames.ψ Tryd.f28 [[1, 2, 4], [1, 2, 4, 5], [1, 2, 4, 5, 6], [1, 4, 5, 7], [1, 4, 5, 7, 8], [1, 4, 5, 7, 8, 9], [1, 4, 5, 7, 8, 9, 32], [1, 4, 5, 7, 8, 9], [1, 4, 5, 7, 8, 9, 10], [1, 4, 5, 7, 8, 9, 10, 11], [1, 4, 5, 7, 8, 9, 10, 11], [1, 4, 5, 7, 8, 9, 10, 11, 44], [1, 4, 5, 7, 8, 9, 10, 11, 12], [1, 4, 5, 7, 8, 9, 10, 11, 12, 13], [1, 4, 5, 7, 8, 9, 10, 11, 12, 13], [1, 4, 5, 7, 8, 9, 10, 11, 12, 13, 57], [1, 4, 5, 7, 8, 9, 10, 11, 12, 13, 14], [1, 4, 5, 7, 8, 9, 10, 11, 12, 13, 14, 15], [1, 4, 5, 7, 8, 9, 10, 11, 12, 13, 14, 15, 16], [1, 4, 5, 7, 8, 9, 10, 11, 12, 13, 14, 15, 16, 74], [1, 4, 5, 7, 8, 9, 10, 11, 12, 13, 14, 15, 16], [1, 4, 5, 7, 8, 9, 10, 11, 12, 13, 14, 15, 16, 17], [1, 4, 5, 7, 8, 9, 10, 11, 12, 13, 15, 16, 17, 83], [1, 4, 5, 7, 8, 9, 10, 11, 12, 13, 15, 16, 17, 83, 95], [1, 4, 5, 7, 8, 9, 10, 11, 12, 13, 15, 16, 17, 83, 95], [1, 4, 5, 7, 8, 9, 10, 11, 12, 13, 15, 16, 17, 83, 95], [1, 4, 5, 7, 8, 9, 10, 11, 12, 13, 15, 16, 17, 83, 95], [1, 4, 5, 7, 8, 9, 10, 11, 12, 13], [1, 4, 5, 7, 8, 9, 10, 11, 12, 13], [1, 4, 5, 7, 8, 9, 10, 11, 12, 13, 15, 16, 17, 83, 108], [1, 4, 5, 7, 8, 9, 10, 11, 12, 13, 15, 16, 17, 83, 108], [1, 4, 5, 7, 8, 9, 10, 11, 12, 13, 15, 16, 17, 83, 108], [1, 4, 5, 7, 8, 9, 10, 11, 12, 13, 15, 16, 17, 83, 108], [1, 4, 5, 7, 8, 9, 10, 11, 12, 13], [1, 4, 5, 7, 8, 9, 10, 11, 12, 13], [1, 4, 5, 7, 8, 9, 10, 11, 12, 13, 15, 16, 17, 83, 121], [1, 4, 5, 7, 8, 9, 10, 11, 12, 13], [1, 4, 5, 7, 8, 9, 10, 11, 12, 13, 15, 16, 17, 83, 127], [1, 4, 5, 7, 8, 9, 10, 11, 12, 13], [1, 4, 5, 7, 8, 9, 10, 11, 12, 13], [1, 4, 5, 7, 8, 9, 10, 11, 12, 13, 15, 16, 17, 139], [1, 4, 5, 7, 8, 9, 10, 11, 12, 13], [1, 4, 5, 7, 8, 9, 10, 11, 12, 13], [1, 4, 5, 7, 8, 9, 10, 11, 12, 13], [1, 4, 5, 7, 8, 9, 10, 11, 12, 13], [1, 4, 5, 7, 8, 9, 10, 11], [1, 4, 5, 7, 8, 9, 10, 11], [4, 5, 18], [4, 5, 18, 158], [4, 5], [4]] = some c275 := by kernel_rfl
set_option maxRecDepth 100000 in
theorem ft_c264 : cFunc Tryd.prog ftNames.ψ Tryd.f29 [[0], [2]] = some c264 := by kernel_rfl
set_option maxRecDepth 100000 in
theorem ft_c276 : cFunc Tryd.prog ftNames.ψ Tryd.f31 [[0], [0, 3], [0, 3, 4], [3, 4, 11], [3], [3, 4], [3, 4, 5], [3, 4, 5], [3, 4, 5, 15], [3, 4, 5, 6], [3, 4, 5], [3, 4, 5], [4, 5, 7], [2]] = some c276 := by kernel_rfl
set_option maxRecDepth 100000 in
theorem ft_c49 : cFunc Tryd.prog ftNames.ψ Tryd.f32 [[0], [3], [3], [2]] = some c49 := by kernel_rfl
set_option maxRecDepth 100000 in
theorem ft_c263 : cFunc Tryd.prog ftNames.ψ Tryd.f33 [[0, 3], [4]] = some c263 := by kernel_rfl
set_option maxRecDepth 100000 in
theorem ft_c280 : cFunc Tryd.prog ftNames.ψ Tryd.f41 [[1], [1, 3], [1, 3, 4], [1, 3, 4], [1, 3, 4, 15], [1, 3, 4], [1, 3, 4], [1, 3, 5], [1, 3, 5], [1, 3, 5, 30], [1, 3, 5, 6], [1, 3, 5, 6], [1, 3, 5, 6, 40], [1, 3, 5, 6], [1, 3, 5, 6], [1, 3, 5], [1, 3, 7], [1, 3, 7], [1, 3, 7, 59], [1, 3, 7, 8], [1, 3, 7, 8], [1, 3, 7, 8, 70], [1, 3, 7, 8], [1, 3, 7, 8], [1, 3, 7], [3, 9], [3, 9, 10], [3, 9, 10], [3, 9, 10, 86], [3, 9, 10, 91], [3, 9, 10], [3, 9, 10], [2]] = some c280 := by kernel_rfl
set_option maxRecDepth 100000 in
theorem ft_c281 : cFunc Tryd.prog ftNames.ψ Tryd.f42 [[1, 2], [1, 2, 5], [1, 2, 5], [1, 2, 5, 10], [1, 2, 5, 20], [4], [1, 2, 5], [4]] = some c281 := by kernel_rfl
set_option maxRecDepth 100000 in
theorem ft_c282 : cFunc Tryd.prog ftNames.ψ Tryd.f43 [[0, 1], [0, 1], [0, 1, 8], [2], [2]] = some c282 := by kernel_rfl
set_option maxRecDepth 100000 in
theorem ft_c93 : cFunc Tryd.prog ftNames.ψ Tryd.f48 [[0], [0, 4], [2], [2]] = some c93 := by kernel_rfl
set_option maxRecDepth 100000 in
theorem ft_c94 : cFunc Tryd.prog ftNames.ψ Tryd.f49 [[0, 1, 4], []] = some c94 := by kernel_rfl
set_option maxRecDepth 100000 in
theorem ft_c95 : cFunc Tryd.prog ftNames.ψ Tryd.f50 [[2, 3], [2, 3, 7], [2, 3, 7], [2, 3, 7, 8], [2, 3, 5, 7], [2, 3, 6, 7], [2, 3, 6, 7, 20], [4], [2, 3, 7], [4]] = some c95 := by kernel_rfl
set_option maxRecDepth 100000 in
theorem ft_c96 : cFunc Tryd.prog ftNames.ψ Tryd.f51 [[0], [2]] = some c96 := by kernel_rfl
set_option maxRecDepth 100000 in
theorem ft_c97 : cFunc Tryd.prog ftNames.ψ Tryd.f52 [[0], [0, 8], [2], [0, 3], [0, 3], [0, 3, 13], [0, 3, 25], [0, 3, 4], [0, 3, 4, 5], [0, 3, 4, 5], [0, 3, 4, 5, 32], [0, 3, 4, 5, 44], [0, 3, 4, 5], [0, 3, 4, 5], [0, 3, 4, 5], [0, 3], [2], [0, 3], [2]] = some c97 := by kernel_rfl
set_option maxRecDepth 100000 in
theorem ft_c265 : cFunc Tryd.prog ftNames.ψ Tryd.f53 [[0, 3], [4]] = some c265 := by kernel_rfl
set_option maxRecDepth 100000 in
theorem ft_c168 : cFunc Tryd.prog ftNames.ψ Tryd.f66 [[0, 1, 2, 3, 4, 10], [0, 1, 2, 3, 4, 10, 11], [0, 1, 2, 3, 4, 10, 11], [0, 1, 2, 3, 4, 10, 11, 12], [0, 1, 2, 3, 4, 10, 11, 12, 25], [], [0, 1, 2, 3, 4, 10, 11, 12, 32], [], [0, 1, 2, 3, 4, 10, 11, 12, 39], [0, 1, 2, 3, 4, 10, 11, 12], [0, 1, 2, 3, 4, 10, 11, 12], [0, 1, 2, 3, 4, 10, 11, 12, 13, 14], [0, 1, 2, 3, 4, 10, 11, 12, 13, 14, 56], [0, 1, 2, 3, 4, 10, 11, 12, 13], [0, 1, 2, 3, 4, 10, 11, 12, 13], [0, 1, 2, 3, 4, 10, 11, 12, 13, 14], [0, 1, 2, 3, 4, 10, 11, 12, 13, 75], [0, 1, 2, 3, 4, 10, 11, 12, 13, 80], [0, 1, 2, 3, 4, 10, 11, 12, 13, 97], [0, 2, 3, 4, 10, 11, 15], [0, 1, 2, 3, 4, 10, 11], [0, 1, 2, 3, 4, 12, 16, 17], [0, 1, 2, 3, 4, 11, 12, 16], [0, 1, 2, 3, 4, 11, 12, 16, 18, 19], [0, 1, 2, 3, 4, 11, 16, 18, 19, 20], [0, 1, 2, 3, 4, 11, 16, 18, 19, 20, 125], [0, 1, 2, 3, 4, 10, 11, 16], [0, 2, 3, 4, 10, 11, 16], [0, 1, 2, 3, 4, 10, 11], [0, 1, 2, 3, 4, 10, 11, 16], [0, 1, 3, 4, 10, 11, 16], [0, 1, 2, 3, 4, 10, 11]] = some c168 := by kernel_rfl
set_option maxRecDepth 100000 in
theorem ft_c141 : cFunc Tryd.prog ftNames.ψ Tryd.f67 [[0], [2], [2]] = some c141 := by kernel_rfl
set_option maxRecDepth 100000 in
theorem ft_c169 : cFunc Tryd.prog ftNames.ψ Tryd.f68 [[0, 1], [0, 1, 9, 10, 11], [0, 1, 9, 10, 11], [0, 1, 9, 10, 11, 12], [0, 1, 5, 6, 9, 10, 11], [0, 1, 5, 6, 9, 10, 11, 19], [4], [0, 1, 6, 7, 9, 10, 11], [0, 1, 8, 9, 10, 11], [0, 1, 8, 9, 10, 11, 28], [4], [0, 1, 9, 10, 11], [35], [4], [4]] = some c169 := by kernel_rfl
set_option maxRecDepth 100000 in
theorem ft_c142 : cFunc Tryd.prog ftNames.ψ Tryd.f69 [[0], [0, 3], [3, 6, 7, 8], [3, 6, 7, 8], [3, 6, 7, 8, 9], [3, 5, 6, 7, 8], [3, 5, 6, 7, 8, 14], [2], [3, 6, 7, 8], [2]] = some c142 := by kernel_rfl
set_option maxRecDepth 100000 in
theorem ft_c266 : cFunc Tryd.prog ftNames.ψ Tryd.f70 [[0, 3], [0, 3, 7, 8], [0, 3, 7, 8], [0, 3, 7, 8, 9], [0, 3, 5, 7, 8], [0, 3, 5, 7, 8, 16], [4], [0, 3, 7, 8], [4]] = some c266 := by kernel_rfl
set_option maxRecDepth 100000 in
theorem ft_c214 : cFunc Tryd.prog ftNames.ψ Tryd.f86 [[0, 1, 2, 3, 8], [0, 1, 2, 3, 8], [0, 1, 2, 3, 8, 14], [0, 1, 2, 3, 8, 9], [0, 1, 2, 3, 8, 9], [0, 1, 2, 3, 8, 9, 34], [0, 1, 2, 3, 8, 9], [0, 1, 2, 3, 8, 9], [0, 1, 2, 3, 8]] = some c214 := by kernel_rfl
set_option maxRecDepth 100000 in
theorem ft_c215 : cFunc Tryd.prog ftNames.ψ Tryd.f87 [[0, 1, 2, 3, 8], [0, 1, 2, 3, 8, 9], [0, 3, 8, 9, 10], [0, 3, 8, 9, 10, 11], [0, 3, 8, 9, 10, 11], [0, 3, 8, 9, 10, 11, 21], [0, 3, 8, 9, 10, 11], [0, 3, 8, 9, 10, 11], [0, 3, 8, 9, 12], [0, 3, 8, 9, 12], [0, 3, 8, 9, 12, 33], [0, 3, 8, 9, 12], [0, 3, 8, 9, 12], [0, 3, 8, 9, 12]] = some c215 := by kernel_rfl
set_option maxRecDepth 100000 in
theorem ft_c216 : cFunc Tryd.prog ftNames.ψ Tryd.f88 [[0, 1, 8], [0, 1, 8, 17], [0, 1, 8, 9], [0, 1, 8, 9, 10], [0, 1, 8, 9, 10, 11], [0, 1, 8, 9, 10, 11], [0, 1, 8, 9, 10, 11, 35], [0, 1, 8, 9, 10, 11, 12], [0, 1, 8, 9, 10, 11, 12, 45], [0, 1, 8, 9, 10, 11, 12], [0, 1, 8, 9, 10, 11], [0, 1, 8, 9, 10, 11]] = some c216 := by kernel_rfl
set_option maxRecDepth 100000 in
theorem ft_c217 : cFunc Tryd.prog ftNames.ψ Tryd.f89 [[0, 1, 2, 3], [0, 1, 3, 10], [0, 1, 3, 10, 11], [0, 1, 3, 10, 11, 12], [0, 1, 3, 10, 11, 12, 13], [0, 3, 10, 11, 12, 13, 14], [0, 3, 10, 11, 12, 13, 14, 34], [0, 3, 11, 12, 13, 14, 36], [0, 3, 11, 12, 13, 14], [0, 3, 11, 12, 13, 14], [0, 3, 11, 12, 13, 14], [11, 13], [13, 55], [13, 55, 57], [8, 9], [13, 60], [8, 9], [8, 9]] = some c217 := by kernel_rfl
set_option maxRecDepth 100000 in
theorem ft_c218 : cFunc Tryd.prog ftNames.ψ Tryd.f90 [[0, 2, 8], [0, 8, 9], [0, 8, 9], [0, 8, 9, 15], [0, 8, 9], [0, 8, 9], [0, 8, 9]] = some c218 := by kernel_rfl
set_option maxRecDepth 100000 in
theorem ft_c219 : cFunc Tryd.prog ftNames.ψ Tryd.f91 [[0, 1, 2, 3], [0, 1, 2, 3, 9], [0, 1, 2, 3, 9, 10], [0, 1, 2, 3, 9, 10], [0, 1, 2, 3, 9, 10, 16], [0, 1, 2, 3, 9, 10], [0, 1, 2, 3, 9, 10, 36], [0, 1, 2, 3, 9, 10], [0, 1, 2, 3, 9, 10, 41], [8], [0, 1, 2, 3, 9, 10, 45], [8], [0, 1, 2, 3, 9, 10], [0, 1, 2, 3, 9, 10, 65], [0, 1, 2, 3, 9, 10, 11], [0, 1, 2, 3, 9, 10, 11], [0, 1, 2, 3, 9, 10, 11, 69], [0, 1, 2, 3, 9, 10, 11, 84], [0, 1, 2, 3, 9, 10, 11], [0, 1, 2, 3, 9, 10, 11], [0, 1, 2, 3, 9, 10, 104], [0, 1, 2, 3, 9, 10, 12], [0, 1, 2, 3, 9, 10, 12], [0, 1, 2, 3, 9, 10, 12, 109], [0, 1, 2, 3, 9, 10, 12, 124], [0, 1, 2, 3, 9, 10, 12], [0, 1, 2, 3, 9, 10, 12], [0, 1, 2, 3, 9, 10], [8]] = some c219 := by kernel_rfl
set_option maxRecDepth 100000 in
theorem ft_c220 : cFunc Tryd.prog ftNames.ψ Tryd.f92 [[0, 1, 2, 3, 4], [0, 1, 2, 4], [0, 1, 4, 11, 12], [0, 1, 4, 11, 12], [0, 1, 4, 11, 12], [0, 1, 4, 11, 12, 47], [0, 1, 4, 11, 12], [0, 1, 4, 11, 12], [0, 1, 4, 11, 12, 65], [0, 1, 4, 11, 12], [0, 1, 4, 11, 12, 70], [0, 1, 4, 11, 12], [0, 1, 4, 11, 12], [0, 1, 4, 11, 12], [10]] = some c220 := by kernel_rfl
set_option maxRecDepth 100000 in
theorem ft_c221 : cFunc Tryd.prog ftNames.ψ Tryd.f93 [[0, 1, 2, 3, 4], [0, 1, 2, 4], [0, 1, 4, 12, 13], [0, 1, 4, 12, 13], [0, 1, 4, 12, 13, 47], [0, 1, 4, 12, 13], [0, 1, 4, 12, 13], [0, 1, 4, 12, 13, 66], [0, 1, 4, 12, 13], [0, 1, 4, 12, 13, 71], [13], [10, 11], [0, 1, 4, 12, 13], [0, 1, 4, 12, 13], [0, 1, 4, 12, 13], [0, 1, 4, 12, 13], [0, 1, 4, 12, 13], [0, 1, 4, 12, 13, 120], [0, 1, 4, 12, 13], [0, 1, 4, 12, 13], [0, 1, 4, 12, 13, 139], [0, 1, 4, 12, 13], [0, 1, 4, 12, 13, 144], [0, 1, 4, 12, 13], [0, 1, 4, 12, 13], [0, 1, 4, 12, 13], [13], [10, 11]] = some c221 := by kernel_rfl
set_option maxRecDepth 100000 in
theorem ft_c195 : cFunc Tryd.prog ftNames.ψ Tryd.f94 [[0, 2], [0, 2, 4], [0], [0, 2], [0, 2, 8], [0, 2], [0, 2], [2]] = some c195 := by kernel_rfl
set_option maxRecDepth 100000 in
theorem ft_c196 : cFunc Tryd.prog ftNames.ψ Tryd.f95 [[0, 2], [0, 2, 4], [0], [0, 2], [0, 2, 8], [0, 2], [0, 2], [0, 2, 14], [0, 2], [0, 2], [2]] = some c196 := by kernel_rfl
set_option maxRecDepth 100000 in
theorem ft_c198 : cFunc Tryd.prog ftNames.ψ Tryd.f96 [[0, 1], [0, 1, 5], [0, 1, 5, 6], [0, 1, 6, 11], [12], [4], [4], [0, 1, 13], [4], [0, 1, 16], [4], [19], [4], [4]] = some c198 := by kernel_rfl
set_option maxRecDepth 100000 in
theorem ft_c246 : cFunc Tryd.prog ftNames.ψ Tryd.f113 [[0, 2, 3, 4, 10], [0, 2, 3, 4, 10], [0, 2, 3, 4, 10, 11], [0, 2, 3, 4, 10, 11, 18], [0, 2, 3, 4, 10, 11, 40], [0, 2, 3, 4, 10, 11], [0, 2, 3, 4, 10, 11, 58], [0, 2, 3, 4, 11], [0, 2, 3, 4, 10]] = some c246 := by kernel_rfl
set_option maxRecDepth 100000 in
theorem ft_c225 : cFunc Tryd.prog ftNames.ψ Tryd.f114 [[0], [2]] = some c225 := by kernel_rfl
set_option maxRecDepth 100000 in
theorem ft_c226 : cFunc Tryd.prog ftNames.ψ Tryd.f115 [[0], [0], [0], [0], [2]] = some c226 := by kernel_rfl
set_option maxRecDepth 100000 in
theorem ft_c247 : cFunc Tryd.prog ftNames.ψ Tryd.f116 [[0, 1, 2, 3], [8]] = some c247 := by kernel_rfl
set_option maxRecDepth 100000 in
theorem ft_c248 : cFunc Tryd.prog ftNames.ψ Tryd.f117 [[0, 1, 2, 3, 4, 5], [0, 1, 2, 3, 4, 5], [0, 1, 2, 4, 5], [2], [12]] = some c248 := by kernel_rfl
set_option maxRecDepth 100000 in
theorem ft_c230 : cFunc Tryd.prog ftNames.ψ Tryd.f118 [[0], [2]] = some c230 := by kernel_rfl
set_option maxRecDepth 100000 in
theorem ft_c256 : cFunc Tryd.prog ftNames.ψ Tryd.f140 [[0, 1, 2, 3, 4], [1, 2, 3, 22], [1, 2], [10, 11], [10, 11]] = some c256 := by kernel_rfl
theorem ftKnown : Known Tryd.prog ftNames ftG where
  ok := by kernel_rfl
  calls := by
    intro x hx
    simp only [ftNames, List.mem_cons, List.not_mem_nil, or_false] at hx
    rcases hx with rfl | rfl | rfl | rfl | rfl | rfl | rfl | rfl | rfl | rfl | rfl | rfl | rfl | rfl | rfl | rfl | rfl | rfl | rfl | rfl | rfl | rfl | rfl | rfl | rfl | rfl | rfl | rfl | rfl | rfl | rfl | rfl | rfl | rfl | rfl | rfl | rfl | rfl | rfl | rfl | rfl | rfl | rfl | rfl | rfl
    · exact Tryd.call4
    · exact Tryd.call10
    · exact Tryd.call11
    · exact Tryd.call12
    · exact Tryd.call13
    · exact Tryd.call27
    · exact Tryd.call28
    · exact Tryd.call29
    · exact Tryd.call30
    · exact Tryd.call31
    · exact Tryd.call32
    · exact Tryd.call33
    · exact Tryd.call41
    · exact Tryd.call42
    · exact Tryd.call43
    · exact Tryd.call44
    · exact Tryd.call48
    · exact Tryd.call49
    · exact Tryd.call50
    · exact Tryd.call51
    · exact Tryd.call52
    · exact Tryd.call53
    · exact Tryd.call66
    · exact Tryd.call67
    · exact Tryd.call68
    · exact Tryd.call69
    · exact Tryd.call70
    · exact Tryd.call86
    · exact Tryd.call87
    · exact Tryd.call88
    · exact Tryd.call89
    · exact Tryd.call90
    · exact Tryd.call91
    · exact Tryd.call92
    · exact Tryd.call93
    · exact Tryd.call94
    · exact Tryd.call95
    · exact Tryd.call96
    · exact Tryd.call113
    · exact Tryd.call114
    · exact Tryd.call115
    · exact Tryd.call116
    · exact Tryd.call117
    · exact Tryd.call118
    · exact Tryd.call140
  code := by
    intro x hx
    simp only [ftNames, List.mem_cons, List.not_mem_nil, or_false] at hx
    rcases hx with rfl | rfl | rfl | rfl | rfl | rfl | rfl | rfl | rfl | rfl | rfl | rfl | rfl | rfl | rfl | rfl | rfl | rfl | rfl | rfl | rfl | rfl | rfl | rfl | rfl | rfl | rfl | rfl | rfl | rfl | rfl | rfl | rfl | rfl | rfl | rfl | rfl | rfl | rfl | rfl | rfl | rfl | rfl | rfl | rfl
    · exact .inl ⟨_, _, Tryd.func4, ft_c268⟩
    · exact .inl ⟨_, _, Tryd.func10, ft_c270⟩
    · exact .inl ⟨_, _, Tryd.func11, ft_c262⟩
    · exact .inl ⟨_, _, Tryd.func12, ft_c271⟩
    · exact .inl ⟨_, _, Tryd.func13, ft_c261⟩
    · exact .inl ⟨_, _, Tryd.func27, ft_c274⟩
    · exact .inl ⟨_, _, Tryd.func28, ft_c275⟩
    · exact .inl ⟨_, _, Tryd.func29, ft_c264⟩
    · exact .inr ⟨2, rfl⟩
    · exact .inl ⟨_, _, Tryd.func31, ft_c276⟩
    · exact .inl ⟨_, _, Tryd.func32, ft_c49⟩
    · exact .inl ⟨_, _, Tryd.func33, ft_c263⟩
    · exact .inl ⟨_, _, Tryd.func41, ft_c280⟩
    · exact .inl ⟨_, _, Tryd.func42, ft_c281⟩
    · exact .inl ⟨_, _, Tryd.func43, ft_c282⟩
    · exact .inr ⟨3, rfl⟩
    · exact .inl ⟨_, _, Tryd.func48, ft_c93⟩
    · exact .inl ⟨_, _, Tryd.func49, ft_c94⟩
    · exact .inl ⟨_, _, Tryd.func50, ft_c95⟩
    · exact .inl ⟨_, _, Tryd.func51, ft_c96⟩
    · exact .inl ⟨_, _, Tryd.func52, ft_c97⟩
    · exact .inl ⟨_, _, Tryd.func53, ft_c265⟩
    · exact .inl ⟨_, _, Tryd.func66, ft_c168⟩
    · exact .inl ⟨_, _, Tryd.func67, ft_c141⟩
    · exact .inl ⟨_, _, Tryd.func68, ft_c169⟩
    · exact .inl ⟨_, _, Tryd.func69, ft_c142⟩
    · exact .inl ⟨_, _, Tryd.func70, ft_c266⟩
    · exact .inl ⟨_, _, Tryd.func86, ft_c214⟩
    · exact .inl ⟨_, _, Tryd.func87, ft_c215⟩
    · exact .inl ⟨_, _, Tryd.func88, ft_c216⟩
    · exact .inl ⟨_, _, Tryd.func89, ft_c217⟩
    · exact .inl ⟨_, _, Tryd.func90, ft_c218⟩
    · exact .inl ⟨_, _, Tryd.func91, ft_c219⟩
    · exact .inl ⟨_, _, Tryd.func92, ft_c220⟩
    · exact .inl ⟨_, _, Tryd.func93, ft_c221⟩
    · exact .inl ⟨_, _, Tryd.func94, ft_c195⟩
    · exact .inl ⟨_, _, Tryd.func95, ft_c196⟩
    · exact .inl ⟨_, _, Tryd.func96, ft_c198⟩
    · exact .inl ⟨_, _, Tryd.func113, ft_c246⟩
    · exact .inl ⟨_, _, Tryd.func114, ft_c225⟩
    · exact .inl ⟨_, _, Tryd.func115, ft_c226⟩
    · exact .inl ⟨_, _, Tryd.func116, ft_c247⟩
    · exact .inl ⟨_, _, Tryd.func117, ft_c248⟩
    · exact .inl ⟨_, _, Tryd.func118, ft_c230⟩
    · exact .inl ⟨_, _, Tryd.func140, ft_c256⟩
end Go.Jq
