/- Each function of this translation has the small code that was printed for it. -/
import Derived.Test.YtgilednciofkiaaGreatDoorRows
import Derived.KernelRfl
import Derived.Test.YtgilednciofkiaaGreatDoorM3
import Derived.Test.YtgilednciofkiaaGreatDoorC
import Derived.Test.YtgilednciofkiaaGreatDoorQ
set_option linter.unusedSimpArgs false
set_option linter.unusedVariables false
namespace Go.Jq
open Go.Proofs
def foNames : Names := [(332, 4), (270, 6), (335, 7), (340, 11), (261, 13), (336, 14), (337, 15), (262, 16), (271, 17), (274, 22), (275, 23), (341, 24), (342, 25), (343, 26), (344, 27), (345, 28), (346, 29), (349, 33), (350, 34), (351, 35), (86, 37), (87, 38), (49, 39), (263, 40), (347, 41), (348, 42), (100, 43), (149, 44), (264, 45), (276, 46), (280, 58), (281, 59), (282, 60), (295, 61), (352, 62), (142, 76), (93, 86), (94, 87), (95, 88), (96, 89), (97, 90), (265, 91), (298, 92), (291, 93), (296, 94), (297, 95), (60, 96), (113, 97), (114, 98), (116, 99), (353, 123), (354, 124), (355, 125), (356, 126), (198, 152), (168, 159), (141, 160), (169, 161), (266, 162), (299, 163), (300, 164), (111, 165), (112, 166), (174, 167), (176, 168), (357, 178), (358, 179), (359, 180), (360, 181), (230, 200), (196, 202), (214, 208), (215, 209), (216, 210), (217, 211), (218, 212), (219, 213), (220, 214), (221, 215), (195, 216), (301, 217), (175, 218), (246, 243), (225, 244), (226, 245), (247, 246), (248, 247), (222, 248), (256, 256)]
def foG : Nat → SFunc
  | 332 => c332
  | 270 => c270
  | 335 => c335
  | 340 => c340
  | 261 => c261
  | 336 => c336
  | 337 => c337
  | 262 => c262
  | 271 => c271
  | 274 => c274
  | 275 => c275
  | 341 => c341
  | 342 => c342
  | 343 => c343
  | 344 => c344
  | 345 => c345
  | 346 => c346
  | 349 => c349
  | 350 => c350
  | 351 => c351
  | 86 => c86
  | 87 => c87
  | 49 => c49
  | 263 => c263
  | 347 => c347
  | 348 => c348
  | 100 => c100
  | 149 => c149
  | 264 => c264
  | 276 => c276
  | 280 => c280
  | 281 => c281
  | 282 => c282
  | 295 => c295
  | 352 => c352
  | 142 => c142
  | 93 => c93
  | 94 => c94
  | 95 => c95
  | 96 => c96
  | 97 => c97
  | 265 => c265
  | 298 => c298
  | 291 => c291
  | 296 => c296
  | 297 => c297
  | 60 => c60
  | 113 => c113
  | 114 => c114
  | 116 => c116
  | 353 => c353
  | 354 => c354
  | 355 => c355
  | 356 => c356
  | 198 => c198
  | 168 => c168
  | 141 => c141
  | 169 => c169
  | 266 => c266
  | 299 => c299
  | 300 => c300
  | 111 => c111
  | 112 => c112
  | 174 => c174
  | 176 => c176
  | 357 => c357
  | 358 => c358
  | 359 => c359
  | 360 => c360
  | 230 => c230
  | 196 => c196
  | 214 => c214
  | 215 => c215
  | 216 => c216
  | 217 => c217
  | 218 => c218
  | 219 => c219
  | 220 => c220
  | 221 => c221
  | 195 => c195
  | 301 => c301
  | 175 => c175
  | 246 => c246
  | 225 => c225
  | 226 => c226
  | 247 => c247
  | 248 => c248
  | 222 => c222
  | 256 => c256
  | _ => ⟨0, 0, .skip, []⟩
set_option maxRecDepth 100000 in
theorem fo_c332 : cFunc Tryz.prog foNames.ψ Tryz.f4 [[0], [3], [3, 4, 5], [3, 4, 16], [2], [3, 4, 6], [3, 4, 6], [3, 4, 6, 21], [3, 4, 6, 7], [3, 4, 6, 46], [2], [3, 4, 6], [2]] = some c332 := by kernel_rfl
set_option maxRecDepth 100000 in
theorem fo_c270 : cFunc Tryz.prog foNames.ψ Tryz.f6 [[0, 1, 4], [4]] = some c270 := by kernel_rfl
set_option maxRecDepth 100000 in
theorem fo_c335 : cFunc Tryz.prog foNames.ψ Tryz.f7 [[1, 2], [1, 2, 6], [1, 2, 6, 7], [1, 2, 6, 7], [1, 2, 6, 7, 22], [1, 2, 6, 7], [1, 2, 6, 7], [1, 2, 6, 8], [1, 2, 6, 8, 9], [1, 2, 6, 8, 9], [1, 2, 6, 8, 9, 36], [1, 2, 6, 8, 9, 10], [1, 2, 6, 8, 9, 10, 11], [1, 2, 6, 8, 9, 10, 11], [1, 2, 6, 8, 9, 10, 11, 58], [1, 2, 6, 8, 9, 10, 11], [1, 2, 6, 8, 9, 10, 11, 71], [4, 5], [1, 2, 6, 8, 9, 10, 11], [1, 2, 6, 8, 9, 10, 12], [1, 2, 6, 8, 9, 10, 12], [1, 2, 6, 8, 9, 10, 12, 76], [1, 2, 6, 8, 9, 10, 12, 13], [1, 2, 6, 8, 9, 10, 12, 13], [1, 2, 6, 8, 9, 10, 12, 13, 84], [1, 2, 6, 8, 9, 10, 12, 13, 14], [1, 2, 6, 8, 9, 10, 12, 13, 14], [1, 2, 6, 8, 9, 10, 12, 13, 14, 95], [1, 2, 6, 8, 9, 10, 12, 13, 14, 15], [1, 2, 6, 8, 9, 10, 12, 13, 14, 15, 108], [1, 2, 6, 8, 9, 10, 12, 13, 14], [1, 2, 6, 8, 9, 10, 12, 13, 14], [1, 2, 6, 8, 9, 10, 12, 13], [1, 2, 6, 8, 9, 10, 12], [1, 2, 6, 8, 9, 10, 135], [1, 2, 6, 8, 9, 137], [4, 5], [1, 2, 6, 8, 9], [1, 2, 8, 16], [16, 17], [16, 145], [4, 5], [4, 5]] = some c335 := by kernel_rfl
set_option maxRecDepth 100000 in
theorem fo_c340 : cFunc Tryz.prog foNames.ψ Tryz.f11 [[2, 3], [2, 3, 5], [2, 3, 5, 15], [4], [2, 3, 6], [2, 3, 6, 23], [4], [2, 3, 7], [2, 3, 7], [2, 3, 7, 36], [2, 3, 7, 8], [2, 3, 7, 8, 51], [4], [2, 3, 7], [4]] = some c340 := by kernel_rfl
set_option maxRecDepth 100000 in
theorem fo_c261 : cFunc Tryz.prog foNames.ψ Tryz.f13 [[], [1], [1, 2], [0]] = some c261 := by kernel_rfl
set_option maxRecDepth 100000 in
theorem fo_c336 : cFunc Tryz.prog foNames.ψ Tryz.f14 [[2, 3, 4], [2, 3, 4, 5], [2, 3, 4, 5, 6], [2, 3, 4, 5, 6], [2, 3, 4, 5, 6, 22], [2, 3, 4, 5, 6, 7], [2, 3, 4, 5, 6, 7, 8], [2, 3, 4, 5, 6, 7, 8], [2, 3, 4, 5, 6, 7, 8, 29], [2, 3, 4, 5, 6, 7, 8, 47], [2, 3, 4, 5, 6, 7, 8], [2, 3, 4, 5, 6, 7, 8], [2, 3, 4, 5, 6, 10], [2, 3, 4, 5, 6], [2, 3, 4, 5, 6], [3, 4, 5, 12], [3, 4, 5, 12], [3, 4, 5, 12, 78], [3, 4, 5, 12], [3, 4, 5, 12], [4]] = some c336 := by kernel_rfl
set_option maxRecDepth 100000 in
theorem fo_c337 : cFunc Tryz.prog foNames.ψ Tryz.f15 [[2, 3, 4], [2, 3, 4, 5], [2, 3, 4, 5, 19, 20], [2, 3, 4, 5, 19, 20], [2, 3, 4, 5, 19, 20, 21], [2, 3, 4, 5, 6, 19, 20], [2, 3, 4, 5, 6, 7, 19, 20], [2, 3, 4, 5, 6, 7, 19, 20, 24, 25, 26], [2, 3, 4, 5, 6, 7, 19, 20, 24, 25, 26], [2, 3, 4, 5, 6, 7, 19, 20, 24, 25, 26, 27], [2, 3, 4, 5, 6, 7, 9, 19, 20, 24, 25, 26], [2, 3, 4, 5, 6, 7, 9, 19, 20, 24, 25, 26, 37], [2, 3, 4, 5, 6, 7, 19, 20, 24, 25, 26], [2, 3, 4, 5, 6, 7, 19, 20, 24, 25, 26], [2, 3, 4, 5, 6, 11, 19, 20], [2, 3, 4, 5, 19, 20], [2, 3, 4, 5, 19, 20], [3, 4, 5, 59, 60, 61], [3, 4, 5, 59, 60, 61], [3, 4, 5, 59, 60, 61, 62], [3, 4, 5, 13, 14, 59, 60, 61], [3, 4, 5, 13, 14, 59, 60, 61, 72], [3, 4, 5, 13, 15, 59, 60, 61], [3, 4, 5, 13, 15, 59, 60, 61, 87], [3, 4, 5, 59, 60, 61], [3, 4, 5, 59, 60, 61], [4]] = some c337 := by kernel_rfl
set_option maxRecDepth 100000 in
theorem fo_c262 : cFunc Tryz.prog foNames.ψ Tryz.f16 [[2, 3], [2, 3, 5], [2, 3, 5, 14, 15], [2, 3, 5, 14, 15], [2, 3, 5, 14, 15, 16], [2, 3, 5, 6, 14, 15], [2, 3, 5, 6, 14, 15, 21, 22], [2, 3, 5, 6, 14, 15, 21, 22], [2, 3, 5, 6, 14, 15, 21, 22, 23], [2, 3, 5, 6, 7, 8, 14, 15, 21, 22], [2, 3, 5, 6, 14, 15, 21, 22], [2, 3, 5, 6, 14, 15, 21, 22], [2, 3, 5, 14, 15], [3, 5, 42, 43, 44], [3, 5, 42, 43, 44], [3, 5, 42, 43, 44, 45], [3, 5, 9, 10, 42, 43, 44], [3, 5, 9, 10, 42, 43, 44, 50], [3, 5, 42, 43, 44], [3, 5, 42, 43, 44], [4]] = some c262 := by kernel_rfl
set_option maxRecDepth 100000 in
theorem fo_c271 : cFunc Tryz.prog foNames.ψ Tryz.f17 [[2, 3], [2, 3, 5], [2, 3, 5, 6], [2, 3, 5, 6], [2, 3, 5, 6, 17], [2, 3, 5, 6, 7], [2, 3, 5, 6, 7], [2, 3, 5, 6, 7, 21], [2, 3, 5, 6, 7, 25], [2, 3, 5, 6, 7], [2, 3, 5, 6, 7], [2, 3, 5, 6, 7], [2, 3, 5, 6], [2, 3, 5, 8], [2, 3, 5, 8], [2, 3, 5, 8, 53], [2, 3, 5, 8, 57], [2, 3, 5, 8], [2, 3, 5, 8], [2, 3, 5, 8], [4]] = some c271 := by kernel_rfl
set_option maxRecDepth 100000 in
theorem fo_c274 : cFunc Tryz.prog foNames.ψ Tryz.f22 [[1, 2], [1, 2, 3], [1, 2, 3, 4], [1, 2, 3, 4], [1, 2, 3, 4, 18], [1, 2, 3, 4, 5], [1, 2, 3, 4, 5, 6], [1, 2, 3, 4, 5, 6], [1, 2, 3, 4, 5, 6, 25], [1, 2, 3, 4, 5, 6, 40], [1, 2, 3, 4, 5, 6], [1, 2, 3, 4, 5, 6], [1, 2, 3, 4], [1, 2, 3, 4], [1, 2, 3, 7], [1, 2, 3, 7], [1, 2, 3, 7, 57], [1, 2, 3, 7, 8], [1, 2, 3, 7, 8, 9], [1, 2, 3, 7, 8, 9], [1, 2, 3, 7, 8, 9, 67], [1, 2, 3, 7, 8, 9, 10], [1, 2, 3, 7, 8, 9, 10, 80], [1, 2, 3, 7, 8, 9, 10], [1, 2, 3, 7, 8, 9], [1, 2, 3, 7, 8, 9], [1, 2, 3, 7], [1, 2, 3, 7], [2]] = some c274 := by kernel_rfl
set_option maxRecDepth 100000 in
theorem fo_c275 : cFunc Tryz.prog foNames.ψ Tryz.f23 [[1, 2, 4], [1, 2, 4, 5], [1, 2, 4, 5, 6], [1, 4, 5, 7], [1, 4, 5, 7, 8], [1, 4, 5, 7, 8, 9], [1, 4, 5, 7, 8, 9, 32], [1, 4, 5, 7, 8, 9], [1, 4, 5, 7, 8, 9, 10], [1, 4, 5, 7, 8, 9, 10, 11], [1, 4, 5, 7, 8, 9, 10, 11], [1, 4, 5, 7, 8, 9, 10, 11, 44], [1, 4, 5, 7, 8, 9, 10, 11, 12], [1, 4, 5, 7, 8, 9, 10, 11, 12, 13], [1, 4, 5, 7, 8, 9, 10, 11, 12, 13], [1, 4, 5, 7, 8, 9, 10, 11, 12, 13, 57], [1, 4, 5, 7, 8, 9, 10, 11, 12, 13, 14], [1, 4, 5, 7, 8, 9, 10, 11, 12, 13, 14, 15], [1, 4, 5, 7, 8, 9, 10, 11, 12, 13, 14, 15, 16], [1, 4, 5, 7, 8, 9, 10, 11, 12, 13, 14, 15, 16, 74], [1, 4, 5, 7, 8, 9, 10, 11, 12, 13, 14, 15, 16], [1, 4, 5, 7, 8, 9, 10, 11, 12, 13, 14, 15, 16, 17], [1, 4, 5, 7, 8, 9, 10, 11, 12, 13, 15, 16, 17, 83], [1, 4, 5, 7, 8, 9, 10, 11, 12, 13, 15, 16, 17, 83, 95], [1, 4, 5, 7, 8, 9, 10, 11, 12, 13, 15, 16, 17, 83, 95], [1, 4, 5, 7, 8, 9, 10, 11, 12, 13, 15, 16, 17, 83, 95], [1, 4, 5, 7, 8, 9, 10, 11, 12, 13, 15, 16, 17, 83, 95], [1, 4, 5, 7, 8, 9, 10, 11, 12, 13], [1, 4, 5, 7, 8, 9, 10, 11, 12, 13], [1, 4, 5, 7, 8, 9, 10, 11, 12, 13, 15, 16, 17, 83, 108], [1, 4, 5, 7, 8, 9, 10, 11, 12, 13, 15, 16, 17, 83, 108], [1, 4, 5, 7, 8, 9, 10, 11, 12, 13, 15, 16, 17, 83, 108], [1, 4, 5, 7, 8, 9, 10, 11, 12, 13, 15, 16, 17, 83, 108], [1, 4, 5, 7, 8, 9, 10, 11, 12, 13], [1, 4, 5, 7, 8, 9, 10, 11, 12, 13], [1, 4, 5, 7, 8, 9, 10, 11, 12, 13, 15, 16, 17, 83, 121], [1, 4, 5, 7, 8, 9, 10, 11, 12, 13], [1, 4, 5, 7, 8, 9, 10, 11, 12, 13, 15, 16, 17, 83, 127], [1, 4, 5, 7, 8, 9, 10, 11, 12, 13], [1, 4, 5, 7, 8, 9, 10, 11, 12, 13], [1, 4, 5, 7, 8, 9, 10, 11, 12, 13, 15, 16, 17, 139], [1, 4, 5, 7, 8, 9, 10, 11, 12, 13], [1, 4, 5, 7, 8, 9, 10, 11, 12, 13], [1, 4, 5, 7, 8, 9, 10, 11, 12, 13], [1, 4, 5, 7, 8, 9, 10, 11, 12, 13], [1, 4, 5, 7, 8, 9, 10, 11], [1, 4, 5, 7, 8, 9, 10, 11], [4, 5, 18], [4, 5, 18, 158], [4, 5], [4]] = some c275 := by kernel_rfl
set_option maxRecDepth 100000 in
theorem fo_c341 : cFunc Tryz.prog foNames.ψ Tryz.f24 [[1], [1, 3], [1, 3, 4], [1, 3, 4], [1, 3, 4, 11], [1, 3, 4, 5], [1, 3, 4, 5], [1, 3, 4, 5, 21], [1, 3, 4, 5, 6], [1, 3, 4, 5, 38], [1, 3, 4, 5], [1, 3, 4, 5], [1, 3, 4], [2]] = some c341 := by kernel_rfl
set_option maxRecDepth 100000 in
theorem fo_c342 : cFunc Tryz.prog foNames.ψ Tryz.f25 [[1, 2, 4, 5, 6, 9], [1, 2, 4, 5, 6, 9, 23], [12], [1, 2, 4, 5, 6, 9, 13, 14, 15], [1, 2, 4, 5, 6, 9, 13, 14, 34], [12], [1, 2, 4, 5, 6, 9, 16], [1, 2, 4, 5, 6, 9, 18], [1, 2, 4, 5, 6, 9, 18, 19], [1, 2, 4, 5, 6, 9, 18, 19], [1, 2, 4, 5, 6, 9, 18, 19, 53], [1, 2, 4, 5, 6, 9, 18, 19], [1, 2, 4, 5, 6, 9, 18, 19], [12]] = some c342 := by kernel_rfl
set_option maxRecDepth 100000 in
theorem fo_c343 : cFunc Tryz.prog foNames.ψ Tryz.f26 [[1], [2]] = some c343 := by kernel_rfl
set_option maxRecDepth 100000 in
theorem fo_c344 : cFunc Tryz.prog foNames.ψ Tryz.f27 [[0, 1], [0, 1, 5], [0, 1, 5], [0, 1, 5, 9], [0, 1, 5, 17], [4], [0, 1, 5], [4]] = some c344 := by kernel_rfl
set_option maxRecDepth 100000 in
theorem fo_c345 : cFunc Tryz.prog foNames.ψ Tryz.f28 [[1, 2, 4, 5, 6, 9], [1, 2, 4, 5, 6, 9, 18], [12], [1, 2, 4, 5, 6, 9, 13], [1, 2, 4, 5, 6, 9, 13], [1, 2, 4, 5, 6, 9, 13, 30], [1, 2, 4, 5, 6, 9, 13, 50], [12], [1, 2, 4, 5, 6, 9, 13], [12]] = some c345 := by kernel_rfl
set_option maxRecDepth 100000 in
theorem fo_c346 : cFunc Tryz.prog foNames.ψ Tryz.f29 [[1], [1, 3], [1, 3, 4], [1, 3, 4], [1, 3, 4, 9], [1, 3, 4], [1, 3, 4], [2]] = some c346 := by kernel_rfl
set_option maxRecDepth 100000 in
theorem fo_c349 : cFunc Tryz.prog foNames.ψ Tryz.f33 [[0, 1], [0, 1, 5], [0, 1, 5], [0, 1, 5, 19], [0, 1, 5, 6, 7], [0, 1, 5, 8], [0, 1, 5, 8, 9], [0, 1, 5, 8, 9], [0, 1, 5, 8, 9, 62], [0, 1, 5, 8, 9, 68], [4], [0, 1, 5, 8, 9], [0, 1, 5], [4]] = some c349 := by kernel_rfl
set_option maxRecDepth 100000 in
theorem fo_c350 : cFunc Tryz.prog foNames.ψ Tryz.f34 [[0, 1], [0, 1, 5], [0, 1, 5], [0, 1, 5, 16], [0, 1, 5, 6], [0, 1, 5, 6, 29], [4], [0, 1, 5], [4]] = some c350 := by kernel_rfl
set_option maxRecDepth 100000 in
theorem fo_c351 : cFunc Tryz.prog foNames.ψ Tryz.f35 [[0, 1], [0, 1, 5], [4], [9], [4], [4]] = some c351 := by kernel_rfl
set_option maxRecDepth 100000 in
theorem fo_c49 : cFunc Tryz.prog foNames.ψ Tryz.f39 [[0], [3], [3], [2]] = some c49 := by kernel_rfl
set_option maxRecDepth 100000 in
theorem fo_c263 : cFunc Tryz.prog foNames.ψ Tryz.f40 [[0, 3], [4]] = some c263 := by kernel_rfl
set_option maxRecDepth 100000 in
theorem fo_c347 : cFunc Tryz.prog foNames.ψ Tryz.f41 [[1], [2]] = some c347 := by kernel_rfl
set_option maxRecDepth 100000 in
theorem fo_c348 : cFunc Tryz.prog foNames.ψ Tryz.f42 [[1, 2, 3, 7], [1, 2, 3, 7, 19], [6, 7, 8], [1, 2, 3, 7, 9], [1, 2, 3, 7, 9, 10], [1, 2, 3, 7, 9, 10, 11], [1, 2, 3, 7, 9, 10, 11], [1, 2, 3, 7, 9, 10, 11, 12, 13], [1, 2, 3, 7, 9, 10, 11, 12, 32], [6, 7, 8], [1, 2, 3, 7, 9, 10, 11, 12, 14], [1, 2, 3, 7, 9, 10, 11, 12, 14, 42], [1, 2, 3, 7, 9, 10, 11, 12, 46], [6, 7, 8], [1, 2, 3, 7, 9, 10, 11, 12, 14], [1, 2, 3, 7, 9, 10, 11, 12, 14], [1, 2, 3, 7, 9, 10, 11, 14, 15], [1, 2, 3, 7, 9, 10, 11, 14, 15], [1, 2, 3, 7, 9, 10, 11, 14], [1, 2, 3, 7, 9, 10, 11]] = some c348 := by kernel_rfl
set_option maxRecDepth 100000 in
theorem fo_c100 : cFunc Tryz.prog foNames.ψ Tryz.f43 [[1], [2]] = some c100 := by kernel_rfl
set_option maxRecDepth 100000 in
theorem fo_c149 : cFunc Tryz.prog foNames.ψ Tryz.f44 [[1, 2, 3, 6, 7], [1, 2, 3, 6, 7], [1, 2, 3, 6, 7], [1, 2, 3, 6, 7, 9, 10], [1, 2, 3, 6, 7, 9, 25], [6, 7, 8], [1, 2, 3, 6, 7, 9, 11], [1, 2, 3, 6, 7, 9, 11, 30], [1, 2, 3, 6, 7, 9, 11], [1, 2, 3, 6, 7, 11, 12, 13], [1, 2, 3, 6, 7, 11, 12, 41], [1, 2, 3, 6, 7, 11, 12, 44], [6, 7, 8], [1, 2, 3, 6, 7, 11, 12], [1, 2, 3, 6, 7, 11, 12], [1, 2, 3, 6, 7, 11], [1, 2, 3, 6, 7]] = some c149 := by kernel_rfl
set_option maxRecDepth 100000 in
theorem fo_c264 : cFunc Tryz.prog foNames.ψ Tryz.f45 [[0], [2]] = some c264 := by kernel_rfl
set_option maxRecDepth 100000 in
theorem fo_c276 : cFunc Tryz.prog foNames.ψ Tryz.f46 [[0], [0, 3], [0, 3, 4], [3, 4, 11], [3], [3, 4], [3, 4, 5], [3, 4, 5], [3, 4, 5, 15], [3, 4, 5, 6], [3, 4, 5], [3, 4, 5], [4, 5, 7], [2]] = some c276 := by kernel_rfl
set_option maxRecDepth 100000 in
theorem fo_c280 : cFunc Tryz.prog foNames.ψ Tryz.f58 [[1], [1, 3], [1, 3, 4], [1, 3, 4], [1, 3, 4, 15], [1, 3, 4], [1, 3, 4], [1, 3, 5], [1, 3, 5], [1, 3, 5, 30], [1, 3, 5, 6], [1, 3, 5, 6], [1, 3, 5, 6, 40], [1, 3, 5, 6], [1, 3, 5, 6], [1, 3, 5], [1, 3, 7], [1, 3, 7], [1, 3, 7, 59], [1, 3, 7, 8], [1, 3, 7, 8], [1, 3, 7, 8, 70], [1, 3, 7, 8], [1, 3, 7, 8], [1, 3, 7], [3, 9], [3, 9, 10], [3, 9, 10], [3, 9, 10, 86], [3, 9, 10, 91], [3, 9, 10], [3, 9, 10], [2]] = some c280 := by kernel_rfl
set_option maxRecDepth 100000 in
theorem fo_c281 : cFunc Tryz.prog foNames.ψ Tryz.f59 [[1, 2], [1, 2, 5], [1, 2, 5], [1, 2, 5, 10], [1, 2, 5, 20], [4], [1, 2, 5], [4]] = some c281 := by kernel_rfl
set_option maxRecDepth 100000 in
theorem fo_c282 : cFunc Tryz.prog foNames.ψ Tryz.f60 [[0, 1], [0, 1], [0, 1, 8], [2], [2]] = some c282 := by kernel_rfl
set_option maxRecDepth 100000 in
theorem fo_c295 : cFunc Tryz.prog foNames.ψ Tryz.f61 [[1, 3, 5, 6], [1, 3, 5, 6, 28], [6, 7], [6, 8], [6, 8, 46], [6, 7], [6, 7]] = some c295 := by kernel_rfl
set_option maxRecDepth 100000 in
theorem fo_c352 : cFunc Tryz.prog foNames.ψ Tryz.f62 [[2, 3, 4, 5], [2, 3, 4, 5, 9], [2, 3, 4, 5, 9, 22], [2, 3, 4, 5, 9, 10], [2, 3, 4, 5, 9, 10, 11], [2, 3, 4, 5, 9, 10, 11], [2, 3, 4, 5, 9, 10, 11, 28], [2, 3, 4, 5, 9, 10, 11, 36], [2, 3, 4, 5, 9, 10, 11], [2, 3, 4, 5, 9, 10, 11], [8], [2, 3, 4, 5, 9, 12], [2, 3, 4, 5, 9, 12, 61], [8], [2, 3, 4, 5, 9, 12, 13], [2, 3, 4, 5, 9, 12, 13], [2, 3, 4, 5, 9, 12, 13, 79], [2, 3, 4, 5, 9, 12, 13, 14], [2, 3, 4, 5, 9, 12, 13, 107], [2, 3, 4, 5, 9, 12, 13, 122], [8], [2, 3, 4, 5, 9, 12, 13], [8]] = some c352 := by kernel_rfl
set_option maxRecDepth 100000 in
theorem fo_c142 : cFunc Tryz.prog foNames.ψ Tryz.f76 [[0], [0, 3], [3, 6, 7, 8], [3, 6, 7, 8], [3, 6, 7, 8, 9], [3, 5, 6, 7, 8], [3, 5, 6, 7, 8, 14], [2], [3, 6, 7, 8], [2]] = some c142 := by kernel_rfl
set_option maxRecDepth 100000 in
theorem fo_c93 : cFunc Tryz.prog foNames.ψ Tryz.f86 [[0], [0, 4], [2], [2]] = some c93 := by kernel_rfl
set_option maxRecDepth 100000 in
theorem fo_c94 : cFunc Tryz.prog foNames.ψ Tryz.f87 [[0, 1, 4], []] = some c94 := by kernel_rfl
set_option maxRecDepth 100000 in
theorem fo_c95 : cFunc Tryz.prog foNames.ψ Tryz.f88 [[2, 3], [2, 3, 7], [2, 3, 7], [2, 3, 7, 8], [2, 3, 5, 7], [2, 3, 6, 7], [2, 3, 6, 7, 20], [4], [2, 3, 7], [4]] = some c95 := by kernel_rfl
set_option maxRecDepth 100000 in
theorem fo_c96 : cFunc Tryz.prog foNames.ψ Tryz.f89 [[0], [2]] = some c96 := by kernel_rfl
set_option maxRecDepth 100000 in
theorem fo_c97 : cFunc Tryz.prog foNames.ψ Tryz.f90 [[0], [0, 8], [2], [0, 3], [0, 3], [0, 3, 13], [0, 3, 25], [0, 3, 4], [0, 3, 4, 5], [0, 3, 4, 5], [0, 3, 4, 5, 32], [0, 3, 4, 5, 44], [0, 3, 4, 5], [0, 3, 4, 5], [0, 3, 4, 5], [0, 3], [2], [0, 3], [2]] = some c97 := by kernel_rfl
set_option maxRecDepth 100000 in
theorem fo_c265 : cFunc Tryz.prog foNames.ψ Tryz.f91 [[0, 3], [4]] = some c265 := by kernel_rfl
set_option maxRecDepth 100000 in
theorem fo_c298 : cFunc Tryz.prog foNames.ψ Tryz.f92 [[1, 2], [4]] = some c298 := by kernel_rfl
set_option maxRecDepth 100000 in
theorem fo_c291 : cFunc Tryz.prog foNames.ψ Tryz.f93 [[1, 2, 4], [1, 2, 4, 8], [4], [4]] = some c291 := by kernel_rfl
set_option maxRecDepth 100000 in
theorem fo_c296 : cFunc Tryz.prog foNames.ψ Tryz.f94 [[2, 3, 4, 6], [2, 3, 4, 6, 8], [2, 3, 4, 6, 8, 9], [6], [2, 3, 4, 6, 8, 18], [6], [2, 3, 4, 6, 24], [2, 3, 4, 6, 31], [6], [6], [6]] = some c296 := by kernel_rfl
set_option maxRecDepth 100000 in
theorem fo_c297 : cFunc Tryz.prog foNames.ψ Tryz.f95 [[1, 3, 4, 6, 8], [1, 3, 4, 6, 8, 9, 10], [1, 3, 4, 6, 8, 9, 19], [8], [1, 3, 4, 6, 8, 9, 28], [1, 4, 6, 8], [1, 4, 6, 8], [8]] = some c297 := by kernel_rfl
set_option maxRecDepth 100000 in
theorem fo_c60 : cFunc Tryz.prog foNames.ψ Tryz.f96 [[1, 2, 4], [4]] = some c60 := by kernel_rfl
set_option maxRecDepth 100000 in
theorem fo_c113 : cFunc Tryz.prog foNames.ψ Tryz.f97 [[1, 3, 5, 6], [5, 6, 8], [5, 6, 8, 22], [6, 7], [6, 9], [6, 9, 36], [6, 7], [6, 7]] = some c113 := by kernel_rfl
set_option maxRecDepth 100000 in
theorem fo_c114 : cFunc Tryz.prog foNames.ψ Tryz.f98 [[2, 3, 4, 6], [2, 3, 4, 6, 9], [2, 3, 4, 6, 9, 10], [6, 7], [2, 3, 4, 6, 9, 19], [6, 7], [2, 3, 4, 6, 25], [2, 3, 4, 6, 32], [6, 7], [6, 7], [6, 7]] = some c114 := by kernel_rfl
set_option maxRecDepth 100000 in
theorem fo_c116 : cFunc Tryz.prog foNames.ψ Tryz.f99 [[1, 3, 4, 6, 8], [1, 3, 4, 6, 8, 9, 10], [1, 3, 4, 6, 8, 9, 19], [8], [1, 3, 4, 6, 8, 9, 28], [1, 4, 6, 8], [1, 4, 6, 8], [8]] = some c116 := by kernel_rfl
set_option maxRecDepth 100000 in
theorem fo_c353 : cFunc Tryz.prog foNames.ψ Tryz.f123 [[0, 2], [0, 2, 3], [0, 2, 3, 9], [2], [0, 2, 3], [0, 2, 3, 4], [0, 2, 3, 4], [0, 2, 3, 4, 17], [0, 2, 3, 4, 5], [0, 2, 3, 4, 5], [0, 2, 3, 4, 5, 23], [0, 2, 3, 4, 5, 73], [0, 2, 3, 4, 5], [0, 2, 3, 4, 5], [0, 2, 3, 4], [2]] = some c353 := by kernel_rfl
set_option maxRecDepth 100000 in
theorem fo_c354 : cFunc Tryz.prog foNames.ψ Tryz.f124 [[]] = some c354 := by kernel_rfl
set_option maxRecDepth 100000 in
theorem fo_c355 : cFunc Tryz.prog foNames.ψ Tryz.f125 [[1], [1, 3], [1, 3, 4], [1, 3, 4], [1, 3, 4, 10], [1, 3, 4, 15], [2], [1, 3, 4], [2]] = some c355 := by kernel_rfl
set_option maxRecDepth 100000 in
theorem fo_c356 : cFunc Tryz.prog foNames.ψ Tryz.f126 [[2, 3, 4, 5], [2, 3, 4, 5, 9], [2, 3, 4, 5, 9, 19], [2, 3], [8], [2, 3, 4, 5, 9, 10], [2, 3, 4, 5, 9, 10, 11], [2, 3, 4, 5, 9, 10, 11], [2, 3, 4, 5, 9, 10, 11, 37], [2, 3, 4, 5, 9, 10, 11, 60], [2, 3, 4, 5, 9, 10, 11], [2, 3, 4, 5, 9, 10, 11], [8]] = some c356 := by kernel_rfl
set_option maxRecDepth 100000 in
theorem fo_c198 : cFunc Tryz.prog foNames.ψ Tryz.f152 [[0, 1], [0, 1, 5], [0, 1, 5, 6], [0, 1, 6, 11], [12], [4], [4], [0, 1, 13], [4], [0, 1, 16], [4], [19], [4], [4]] = some c198 := by kernel_rfl
set_option maxRecDepth 100000 in
theorem fo_c168 : cFunc Tryz.prog foNames.ψ Tryz.f159 [[0, 1, 2, 3, 4, 10], [0, 1, 2, 3, 4, 10, 11], [0, 1, 2, 3, 4, 10, 11], [0, 1, 2, 3, 4, 10, 11, 12], [0, 1, 2, 3, 4, 10, 11, 12, 25], [], [0, 1, 2, 3, 4, 10, 11, 12, 32], [], [0, 1, 2, 3, 4, 10, 11, 12, 39], [0, 1, 2, 3, 4, 10, 11, 12], [0, 1, 2, 3, 4, 10, 11, 12], [0, 1, 2, 3, 4, 10, 11, 12, 13, 14], [0, 1, 2, 3, 4, 10, 11, 12, 13, 14, 56], [0, 1, 2, 3, 4, 10, 11, 12, 13], [0, 1, 2, 3, 4, 10, 11, 12, 13], [0, 1, 2, 3, 4, 10, 11, 12, 13, 14], [0, 1, 2, 3, 4, 10, 11, 12, 13, 75], [0, 1, 2, 3, 4, 10, 11, 12, 13, 80], [0, 1, 2, 3, 4, 10, 11, 12, 13, 97], [0, 2, 3, 4, 10, 11, 15], [0, 1, 2, 3, 4, 10, 11], [0, 1, 2, 3, 4, 12, 16, 17], [0, 1, 2, 3, 4, 11, 12, 16], [0, 1, 2, 3, 4, 11, 12, 16, 18, 19], [0, 1, 2, 3, 4, 11, 16, 18, 19, 20], [0, 1, 2, 3, 4, 11, 16, 18, 19, 20, 125], [0, 1, 2, 3, 4, 10, 11, 16], [0, 2, 3, 4, 10, 11, 16], [0, 1, 2, 3, 4, 10, 11], [0, 1, 2, 3, 4, 10, 11, 16], [0, 1, 3, 4, 10, 11, 16], [0, 1, 2, 3, 4, 10, 11]] = some c168 := by kernel_rfl
set_option maxRecDepth 100000 in
theorem fo_c141 : cFunc Tryz.prog foNames.ψ Tryz.f160 [[0], [2], [2]] = some c141 := by kernel_rfl
set_option maxRecDepth 100000 in
theorem fo_c169 : cFunc Tryz.prog foNames.ψ Tryz.f161 [[0, 1], [0, 1, 9, 10, 11], [0, 1, 9, 10, 11], [0, 1, 9, 10, 11, 12], [0, 1, 5, 6, 9, 10, 11], [0, 1, 5, 6, 9, 10, 11, 19], [4], [0, 1, 6, 7, 9, 10, 11], [0, 1, 8, 9, 10, 11], [0, 1, 8, 9, 10, 11, 28], [4], [0, 1, 9, 10, 11], [35], [4], [4]] = some c169 := by kernel_rfl
set_option maxRecDepth 100000 in
theorem fo_c266 : cFunc Tryz.prog foNames.ψ Tryz.f162 [[0, 3], [0, 3, 7, 8], [0, 3, 7, 8], [0, 3, 7, 8, 9], [0, 3, 5, 7, 8], [0, 3, 5, 7, 8, 16], [4], [0, 3, 7, 8], [4]] = some c266 := by kernel_rfl
set_option maxRecDepth 100000 in
theorem fo_c299 : cFunc Tryz.prog foNames.ψ Tryz.f163 [[1, 3, 5, 6], [1, 3, 5, 6], [1, 3, 5, 6, 17], [1, 3, 5, 6, 7], [1, 3, 5, 6, 7, 28], [1, 3, 5, 6, 7, 28, 30], [1, 3, 5, 6, 7, 8], [1, 3, 5, 6, 7, 8, 38], [1, 3, 5, 6, 7, 8], [1, 3, 5, 6], [1, 3, 5, 6], [1, 3, 5, 6, 7, 59], [1, 3, 5, 6, 7, 69], [1, 3, 5, 6], [1, 3, 5, 6], [6], [6]] = some c299 := by kernel_rfl
set_option maxRecDepth 100000 in
theorem fo_c300 : cFunc Tryz.prog foNames.ψ Tryz.f164 [[2, 3], [2, 3, 12], [4], [4]] = some c300 := by kernel_rfl
set_option maxRecDepth 100000 in
theorem fo_c111 : cFunc Tryz.prog foNames.ψ Tryz.f165 [[0, 3, 4], [0, 3, 4], [0, 3, 4, 19], [0, 3, 4, 5], [0, 3, 4, 5, 6, 7], [0, 3, 4, 5, 6, 7, 34], [0, 3, 4, 5, 6, 7, 34, 36], [0, 3, 4, 5, 6, 8, 9], [0, 3, 4, 5, 6, 8, 46], [0, 3, 4, 5, 6], [0, 3, 4], [0, 3, 4, 5, 6, 7, 52], [0, 3, 4, 5, 56], [0, 3, 4], [4], [0, 3, 4], [4]] = some c111 := by kernel_rfl
set_option maxRecDepth 100000 in
theorem fo_c112 : cFunc Tryz.prog foNames.ψ Tryz.f166 [[1, 2], [1, 2, 13], [4], [4]] = some c112 := by kernel_rfl
set_option maxRecDepth 100000 in
theorem fo_c174 : cFunc Tryz.prog foNames.ψ Tryz.f167 [[2, 3], [2, 3, 12], [4], [4]] = some c174 := by kernel_rfl
set_option maxRecDepth 100000 in
theorem fo_c176 : cFunc Tryz.prog foNames.ψ Tryz.f168 [[0, 1, 2, 11], []] = some c176 := by kernel_rfl
set_option maxRecDepth 100000 in
theorem fo_c357 : cFunc Tryz.prog foNames.ψ Tryz.f178 [[1, 2], [1, 2, 3], [1, 2, 3], [1, 2, 3, 8], [1, 2, 3, 4], [1, 2, 3, 4], [1, 2, 3, 4, 14], [1, 2, 3, 4, 19], [1, 2, 3, 4], [1, 2, 3, 4], [1, 2, 3], [2]] = some c357 := by kernel_rfl
set_option maxRecDepth 100000 in
theorem fo_c358 : cFunc Tryz.prog foNames.ψ Tryz.f179 [[0, 1, 2], [6]] = some c358 := by kernel_rfl
set_option maxRecDepth 100000 in
theorem fo_c359 : cFunc Tryz.prog foNames.ψ Tryz.f180 [[0, 3], [0, 3, 5, 6], [0, 3, 5, 6], [0, 3, 5, 6, 12], [0, 3, 5, 6, 7], [0, 3, 5, 6, 7, 23], [0, 3, 5, 6], [0, 3, 5, 6], [0, 3, 5, 39], [4], [0, 3, 5], [0, 3, 5], [0], [4]] = some c359 := by kernel_rfl
set_option maxRecDepth 100000 in
theorem fo_c360 : cFunc Tryz.prog foNames.ψ Tryz.f181 [[2, 3, 4, 5, 6, 7], [2, 3, 4, 5, 6, 7, 17], [12], [2, 3, 4, 5, 6, 7, 13], [2, 3, 4, 5, 6, 7, 13], [2, 3, 4, 5, 6, 7, 13, 37], [2, 3, 4, 5, 6, 7, 13, 14], [2, 3, 4, 5, 6, 7, 13, 65], [12], [2, 3, 4, 5, 6, 7, 13], [12]] = some c360 := by kernel_rfl
set_option maxRecDepth 100000 in
theorem fo_c230 : cFunc Tryz.prog foNames.ψ Tryz.f200 [[0], [2]] = some c230 := by kernel_rfl
set_option maxRecDepth 100000 in
theorem fo_c196 : cFunc Tryz.prog foNames.ψ Tryz.f202 [[0, 2], [0, 2, 4], [0], [0, 2], [0, 2, 8], [0, 2], [0, 2], [0, 2, 14], [0, 2], [0, 2], [2]] = some c196 := by kernel_rfl
set_option maxRecDepth 100000 in
theorem fo_c214 : cFunc Tryz.prog foNames.ψ Tryz.f208 [[0, 1, 2, 3, 8], [0, 1, 2, 3, 8], [0, 1, 2, 3, 8, 14], [0, 1, 2, 3, 8, 9], [0, 1, 2, 3, 8, 9], [0, 1, 2, 3, 8, 9, 34], [0, 1, 2, 3, 8, 9], [0, 1, 2, 3, 8, 9], [0, 1, 2, 3, 8]] = some c214 := by kernel_rfl
set_option maxRecDepth 100000 in
theorem fo_c215 : cFunc Tryz.prog foNames.ψ Tryz.f209 [[0, 1, 2, 3, 8], [0, 1, 2, 3, 8, 9], [0, 3, 8, 9, 10], [0, 3, 8, 9, 10, 11], [0, 3, 8, 9, 10, 11], [0, 3, 8, 9, 10, 11, 21], [0, 3, 8, 9, 10, 11], [0, 3, 8, 9, 10, 11], [0, 3, 8, 9, 12], [0, 3, 8, 9, 12], [0, 3, 8, 9, 12, 33], [0, 3, 8, 9, 12], [0, 3, 8, 9, 12], [0, 3, 8, 9, 12]] = some c215 := by kernel_rfl
set_option maxRecDepth 100000 in
theorem fo_c216 : cFunc Tryz.prog foNames.ψ Tryz.f210 [[0, 1, 8], [0, 1, 8, 17], [0, 1, 8, 9], [0, 1, 8, 9, 10], [0, 1, 8, 9, 10, 11], [0, 1, 8, 9, 10, 11], [0, 1, 8, 9, 10, 11, 35], [0, 1, 8, 9, 10, 11, 12], [0, 1, 8, 9, 10, 11, 12, 45], [0, 1, 8, 9, 10, 11, 12], [0, 1, 8, 9, 10, 11], [0, 1, 8, 9, 10, 11]] = some c216 := by kernel_rfl
set_option maxRecDepth 100000 in
theorem fo_c217 : cFunc Tryz.prog foNames.ψ Tryz.f211 [[0, 1, 2, 3], [0, 1, 3, 10], [0, 1, 3, 10, 11], [0, 1, 3, 10, 11, 12], [0, 1, 3, 10, 11, 12, 13], [0, 3, 10, 11, 12, 13, 14], [0, 3, 10, 11, 12, 13, 14, 34], [0, 3, 11, 12, 13, 14, 36], [0, 3, 11, 12, 13, 14], [0, 3, 11, 12, 13, 14], [0, 3, 11, 12, 13, 14], [11, 13], [13, 55], [13, 55, 57], [8, 9], [13, 60], [8, 9], [8, 9]] = some c217 := by kernel_rfl
set_option maxRecDepth 100000 in
theorem fo_c218 : cFunc Tryz.prog foNames.ψ Tryz.f212 [[0, 2, 8], [0, 8, 9], [0, 8, 9], [0, 8, 9, 15], [0, 8, 9], [0, 8, 9], [0, 8, 9]] = some c218 := by kernel_rfl
set_option maxRecDepth 100000 in
theorem fo_c219 : cFunc Tryz.prog foNames.ψ Tryz.f213 [[0, 1, 2, 3], [0, 1, 2, 3, 9], [0, 1, 2, 3, 9, 10], [0, 1, 2, 3, 9, 10], [0, 1, 2, 3, 9, 10, 16], [0, 1, 2, 3, 9, 10], [0, 1, 2, 3, 9, 10, 36], [0, 1, 2, 3, 9, 10], [0, 1, 2, 3, 9, 10, 41], [8], [0, 1, 2, 3, 9, 10, 45], [8], [0, 1, 2, 3, 9, 10], [0, 1, 2, 3, 9, 10, 65], [0, 1, 2, 3, 9, 10, 11], [0, 1, 2, 3, 9, 10, 11], [0, 1, 2, 3, 9, 10, 11, 69], [0, 1, 2, 3, 9, 10, 11, 84], [0, 1, 2, 3, 9, 10, 11], [0, 1, 2, 3, 9, 10, 11], [0, 1, 2, 3, 9, 10, 104], [0, 1, 2, 3, 9, 10, 12], [0, 1, 2, 3, 9, 10, 12], [0, 1, 2, 3, 9, 10, 12, 109], [0, 1, 2, 3, 9, 10, 12, 124], [0, 1, 2, 3, 9, 10, 12], [0, 1, 2, 3, 9, 10, 12], [0, 1, 2, 3, 9, 10], [8]] = some c219 := by kernel_rfl
set_option maxRecDepth 100000 in
theorem fo_c220 : cFunc Tryz.prog foNames.ψ Tryz.f214 [[0, 1, 2, 3, 4], [0, 1, 2, 4], [0, 1, 4, 11, 12], [0, 1, 4, 11, 12], [0, 1, 4, 11, 12], [0, 1, 4, 11, 12, 47], [0, 1, 4, 11, 12], [0, 1, 4, 11, 12], [0, 1, 4, 11, 12, 65], [0, 1, 4, 11, 12], [0, 1, 4, 11, 12, 70], [0, 1, 4, 11, 12], [0, 1, 4, 11, 12], [0, 1, 4, 11, 12], [10]] = some c220 := by kernel_rfl
set_option maxRecDepth 100000 in
theorem fo_c221 : cFunc Tryz.prog foNames.ψ Tryz.f215 [[0, 1, 2, 3, 4], [0, 1, 2, 4], [0, 1, 4, 12, 13], [0, 1, 4, 12, 13], [0, 1, 4, 12, 13, 47], [0, 1, 4, 12, 13], [0, 1, 4, 12, 13], [0, 1, 4, 12, 13, 66], [0, 1, 4, 12, 13], [0, 1, 4, 12, 13, 71], [13], [10, 11], [0, 1, 4, 12, 13], [0, 1, 4, 12, 13], [0, 1, 4, 12, 13], [0, 1, 4, 12, 13], [0, 1, 4, 12, 13], [0, 1, 4, 12, 13, 120], [0, 1, 4, 12, 13], [0, 1, 4, 12, 13], [0, 1, 4, 12, 13, 139], [0, 1, 4, 12, 13], [0, 1, 4, 12, 13, 144], [0, 1, 4, 12, 13], [0, 1, 4, 12, 13], [0, 1, 4, 12, 13], [13], [10, 11]] = some c221 := by kernel_rfl
set_option maxRecDepth 100000 in
theorem fo_c195 : cFunc Tryz.prog foNames.ψ Tryz.f216 [[0, 2], [0, 2, 4], [0], [0, 2], [0, 2, 8], [0, 2], [0, 2], [2]] = some c195 := by kernel_rfl
set_option maxRecDepth 100000 in
theorem fo_c301 : cFunc Tryz.prog foNames.ψ Tryz.f217 [[0, 1, 2], [0, 1, 2, 8], [0, 1, 2, 8], [1, 2, 8, 13], [1, 2, 8, 13, 14], [6, 7], [1, 2, 8, 13, 22], [6, 7], [1, 2, 8, 13, 30], [6, 7], [1, 2, 8, 13, 38], [6, 7], [1, 2, 8, 13, 43], [6, 7], [1, 2, 8, 13, 48], [6, 7], [1, 2, 8, 13, 53], [6, 7], [1, 2, 8, 13, 60], [6, 7], [1, 2, 13, 65], [9], [1, 2, 13, 70], [9], [1, 2, 75], [9], [6, 7], [80], [6, 7], [6, 7]] = some c301 := by kernel_rfl
set_option maxRecDepth 100000 in
theorem fo_c175 : cFunc Tryz.prog foNames.ψ Tryz.f218 [[0, 1, 2], [0, 1, 2, 8], [1, 2, 8, 12], [1, 2, 8, 12, 13], [6, 7], [1, 2, 8, 12, 18], [6, 7], [1, 2, 8, 12, 23], [6, 7], [1, 2, 8, 12, 28], [6, 7], [1, 2, 8, 12, 33], [6, 7], [1, 2, 8, 12, 38], [6, 7], [1, 2, 8, 12, 43], [6, 7], [1, 2, 8, 12, 48], [6, 7], [1, 2, 12, 53], [6, 7], [1, 2, 12, 59], [6, 7], [1, 2, 65], [6, 7], [6, 7]] = some c175 := by kernel_rfl
set_option maxRecDepth 100000 in
theorem fo_c246 : cFunc Tryz.prog foNames.ψ Tryz.f243 [[0, 2, 3, 4, 10], [0, 2, 3, 4, 10], [0, 2, 3, 4, 10, 11], [0, 2, 3, 4, 10, 11, 18], [0, 2, 3, 4, 10, 11, 40], [0, 2, 3, 4, 10, 11], [0, 2, 3, 4, 10, 11, 58], [0, 2, 3, 4, 11], [0, 2, 3, 4, 10]] = some c246 := by kernel_rfl
set_option maxRecDepth 100000 in
theorem fo_c225 : cFunc Tryz.prog foNames.ψ Tryz.f244 [[0], [2]] = some c225 := by kernel_rfl
set_option maxRecDepth 100000 in
theorem fo_c226 : cFunc Tryz.prog foNames.ψ Tryz.f245 [[0], [0], [0], [0], [2]] = some c226 := by kernel_rfl
set_option maxRecDepth 100000 in
theorem fo_c247 : cFunc Tryz.prog foNames.ψ Tryz.f246 [[0, 1, 2, 3], [8]] = some c247 := by kernel_rfl
set_option maxRecDepth 100000 in
theorem fo_c248 : cFunc Tryz.prog foNames.ψ Tryz.f247 [[0, 1, 2, 3, 4, 5], [0, 1, 2, 3, 4, 5], [0, 1, 2, 4, 5], [2], [12]] = some c248 := by kernel_rfl
set_option maxRecDepth 100000 in
theorem fo_c222 : cFunc Tryz.prog foNames.ψ Tryz.f248 [[0], [3], [2], [2]] = some c222 := by kernel_rfl
set_option maxRecDepth 100000 in
theorem fo_c256 : cFunc Tryz.prog foNames.ψ Tryz.f256 [[0, 1, 2, 3, 4], [1, 2, 3, 22], [1, 2], [10, 11], [10, 11]] = some c256 := by kernel_rfl
theorem foKnown : Known Tryz.prog foNames foG where
  ok := by kernel_rfl
  calls := by
    intro x hx
    simp only [foNames, List.mem_cons, List.not_mem_nil, or_false] at hx
    rcases hx with rfl | rfl | rfl | rfl | rfl | rfl | rfl | rfl | rfl | rfl | rfl | rfl | rfl | rfl | rfl | rfl | rfl | rfl | rfl | rfl | rfl | rfl | rfl | rfl | rfl | rfl | rfl | rfl | rfl | rfl | rfl | rfl | rfl | rfl | rfl | rfl | rfl | rfl | rfl | rfl | rfl | rfl | rfl | rfl | rfl | rfl | rfl | rfl | rfl | rfl | rfl | rfl | rfl | rfl | rfl | rfl | rfl | rfl | rfl | rfl | rfl | rfl | rfl | rfl | rfl | rfl | rfl | rfl | rfl | rfl | rfl | rfl | rfl | rfl | rfl | rfl | rfl | rfl | rfl | rfl | rfl | rfl | rfl | rfl | rfl | rfl | rfl | rfl | rfl
    · exact Tryz.call4
    · exact Tryz.call6
    · exact Tryz.call7
    · exact Tryz.call11
    · exact Tryz.call13
    · exact Tryz.call14
    · exact Tryz.call15
    · exact Tryz.call16
    · exact Tryz.call17
    · exact Tryz.call22
    · exact Tryz.call23
    · exact Tryz.call24
    · exact Tryz.call25
    · exact Tryz.call26
    · exact Tryz.call27
    · exact Tryz.call28
    · exact Tryz.call29
    · exact Tryz.call33
    · exact Tryz.call34
    · exact Tryz.call35
    · exact Tryz.call37
    · exact Tryz.call38
    · exact Tryz.call39
    · exact Tryz.call40
    · exact Tryz.call41
    · exact Tryz.call42
    · exact Tryz.call43
    · exact Tryz.call44
    · exact Tryz.call45
    · exact Tryz.call46
    · exact Tryz.call58
    · exact Tryz.call59
    · exact Tryz.call60
    · exact Tryz.call61
    · exact Tryz.call62
    · exact Tryz.call76
    · exact Tryz.call86
    · exact Tryz.call87
    · exact Tryz.call88
    · exact Tryz.call89
    · exact Tryz.call90
    · exact Tryz.call91
    · exact Tryz.call92
    · exact Tryz.call93
    · exact Tryz.call94
    · exact Tryz.call95
    · exact Tryz.call96
    · exact Tryz.call97
    · exact Tryz.call98
    · exact Tryz.call99
    · exact Tryz.call123
    · exact Tryz.call124
    · exact Tryz.call125
    · exact Tryz.call126
    · exact Tryz.call152
    · exact Tryz.call159
    · exact Tryz.call160
    · exact Tryz.call161
    · exact Tryz.call162
    · exact Tryz.call163
    · exact Tryz.call164
    · exact Tryz.call165
    · exact Tryz.call166
    · exact Tryz.call167
    · exact Tryz.call168
    · exact Tryz.call178
    · exact Tryz.call179
    · exact Tryz.call180
    · exact Tryz.call181
    · exact Tryz.call200
    · exact Tryz.call202
    · exact Tryz.call208
    · exact Tryz.call209
    · exact Tryz.call210
    · exact Tryz.call211
    · exact Tryz.call212
    · exact Tryz.call213
    · exact Tryz.call214
    · exact Tryz.call215
    · exact Tryz.call216
    · exact Tryz.call217
    · exact Tryz.call218
    · exact Tryz.call243
    · exact Tryz.call244
    · exact Tryz.call245
    · exact Tryz.call246
    · exact Tryz.call247
    · exact Tryz.call248
    · exact Tryz.call256
  code := by
    intro x hx
    simp only [foNames, List.mem_cons, List.not_mem_nil, or_false] at hx
    rcases hx with rfl | rfl | rfl | rfl | rfl | rfl | rfl | rfl | rfl | rfl | rfl | rfl | rfl | rfl | rfl | rfl | rfl | rfl | rfl | rfl | rfl | rfl | rfl | rfl | rfl | rfl | rfl | rfl | rfl | rfl | rfl | rfl | rfl | rfl | rfl | rfl | rfl | rfl | rfl | rfl | rfl | rfl | rfl | rfl | rfl | rfl | rfl | rfl | rfl | rfl | rfl | rfl | rfl | rfl | rfl | rfl | rfl | rfl | rfl | rfl | rfl | rfl | rfl | rfl | rfl | rfl | rfl | rfl | rfl | rfl | rfl | rfl | rfl | rfl | rfl | rfl | rfl | rfl | rfl | rfl | rfl | rfl | rfl | rfl | rfl | rfl | rfl | rfl | rfl
    · exact .inl ⟨_, _, Tryz.func4, fo_c332⟩
    · exact .inl ⟨_, _, Tryz.func6, fo_c270⟩
    · exact .inl ⟨_, _, Tryz.func7, fo_c335⟩
    · exact .inl ⟨_, _, Tryz.func11, fo_c340⟩
    · exact .inl ⟨_, _, Tryz.func13, fo_c261⟩
    · exact .inl ⟨_, _, Tryz.func14, fo_c336⟩
    · exact .inl ⟨_, _, Tryz.func15, fo_c337⟩
    · exact .inl ⟨_, _, Tryz.func16, fo_c262⟩
    · exact .inl ⟨_, _, Tryz.func17, fo_c271⟩
    · exact .inl ⟨_, _, Tryz.func22, fo_c274⟩
    · exact .inl ⟨_, _, Tryz.func23, fo_c275⟩
    · exact .inl ⟨_, _, Tryz.func24, fo_c341⟩
    · exact .inl ⟨_, _, Tryz.func25, fo_c342⟩
    · exact .inl ⟨_, _, Tryz.func26, fo_c343⟩
    · exact .inl ⟨_, _, Tryz.func27, fo_c344⟩
    · exact .inl ⟨_, _, Tryz.func28, fo_c345⟩
    · exact .inl ⟨_, _, Tryz.func29, fo_c346⟩
    · exact .inl ⟨_, _, Tryz.func33, fo_c349⟩
    · exact .inl ⟨_, _, Tryz.func34, fo_c350⟩
    · exact .inl ⟨_, _, Tryz.func35, fo_c351⟩
    · exact .inr ⟨3, rfl⟩
    · exact .inr ⟨2, rfl⟩
    · exact .inl ⟨_, _, Tryz.func39, fo_c49⟩
    · exact .inl ⟨_, _, Tryz.func40, fo_c263⟩
    · exact .inl ⟨_, _, Tryz.func41, fo_c347⟩
    · exact .inl ⟨_, _, Tryz.func42, fo_c348⟩
    · exact .inl ⟨_, _, Tryz.func43, fo_c100⟩
    · exact .inl ⟨_, _, Tryz.func44, fo_c149⟩
    · exact .inl ⟨_, _, Tryz.func45, fo_c264⟩
    · exact .inl ⟨_, _, Tryz.func46, fo_c276⟩
    · exact .inl ⟨_, _, Tryz.func58, fo_c280⟩
    · exact .inl ⟨_, _, Tryz.func59, fo_c281⟩
    · exact .inl ⟨_, _, Tryz.func60, fo_c282⟩
    · exact .inl ⟨_, _, Tryz.func61, fo_c295⟩
    · exact .inl ⟨_, _, Tryz.func62, fo_c352⟩
    · exact .inl ⟨_, _, Tryz.func76, fo_c142⟩
    · exact .inl ⟨_, _, Tryz.func86, fo_c93⟩
    · exact .inl ⟨_, _, Tryz.func87, fo_c94⟩
    · exact .inl ⟨_, _, Tryz.func88, fo_c95⟩
    · exact .inl ⟨_, _, Tryz.func89, fo_c96⟩
    · exact .inl ⟨_, _, Tryz.func90, fo_c97⟩
    · exact .inl ⟨_, _, Tryz.func91, fo_c265⟩
    · exact .inl ⟨_, _, Tryz.func92, fo_c298⟩
    · exact .inl ⟨_, _, Tryz.func93, fo_c291⟩
    · exact .inl ⟨_, _, Tryz.func94, fo_c296⟩
    · exact .inl ⟨_, _, Tryz.func95, fo_c297⟩
    · exact .inl ⟨_, _, Tryz.func96, fo_c60⟩
    · exact .inl ⟨_, _, Tryz.func97, fo_c113⟩
    · exact .inl ⟨_, _, Tryz.func98, fo_c114⟩
    · exact .inl ⟨_, _, Tryz.func99, fo_c116⟩
    · exact .inl ⟨_, _, Tryz.func123, fo_c353⟩
    · exact .inl ⟨_, _, Tryz.func124, fo_c354⟩
    · exact .inl ⟨_, _, Tryz.func125, fo_c355⟩
    · exact .inl ⟨_, _, Tryz.func126, fo_c356⟩
    · exact .inl ⟨_, _, Tryz.func152, fo_c198⟩
    · exact .inl ⟨_, _, Tryz.func159, fo_c168⟩
    · exact .inl ⟨_, _, Tryz.func160, fo_c141⟩
    · exact .inl ⟨_, _, Tryz.func161, fo_c169⟩
    · exact .inl ⟨_, _, Tryz.func162, fo_c266⟩
    · exact .inl ⟨_, _, Tryz.func163, fo_c299⟩
    · exact .inl ⟨_, _, Tryz.func164, fo_c300⟩
    · exact .inl ⟨_, _, Tryz.func165, fo_c111⟩
    · exact .inl ⟨_, _, Tryz.func166, fo_c112⟩
    · exact .inl ⟨_, _, Tryz.func167, fo_c174⟩
    · exact .inl ⟨_, _, Tryz.func168, fo_c176⟩
    · exact .inl ⟨_, _, Tryz.func178, fo_c357⟩
    · exact .inl ⟨_, _, Tryz.func179, fo_c358⟩
    · exact .inl ⟨_, _, Tryz.func180, fo_c359⟩
    · exact .inl ⟨_, _, Tryz.func181, fo_c360⟩
    · exact .inl ⟨_, _, Tryz.func200, fo_c230⟩
    · exact .inl ⟨_, _, Tryz.func202, fo_c196⟩
    · exact .inl ⟨_, _, Tryz.func208, fo_c214⟩
    · exact .inl ⟨_, _, Tryz.func209, fo_c215⟩
    · exact .inl ⟨_, _, Tryz.func210, fo_c216⟩
    · exact .inl ⟨_, _, Tryz.func211, fo_c217⟩
    · exact .inl ⟨_, _, Tryz.func212, fo_c218⟩
    · exact .inl ⟨_, _, Tryz.func213, fo_c219⟩
    · exact .inl ⟨_, _, Tryz.func214, fo_c220⟩
    · exact .inl ⟨_, _, Tryz.func215, fo_c221⟩
    · exact .inl ⟨_, _, Tryz.func216, fo_c195⟩
    · exact .inl ⟨_, _, Tryz.func217, fo_c301⟩
    · exact .inl ⟨_, _, Tryz.func218, fo_c175⟩
    · exact .inl ⟨_, _, Tryz.func243, fo_c246⟩
    · exact .inl ⟨_, _, Tryz.func244, fo_c225⟩
    · exact .inl ⟨_, _, Tryz.func245, fo_c226⟩
    · exact .inl ⟨_, _, Tryz.func246, fo_c247⟩
    · exact .inl ⟨_, _, Tryz.func247, fo_c248⟩
    · exact .inl ⟨_, _, Tryz.func248, fo_c222⟩
    · exact .inl ⟨_, _, Tryz.func256, fo_c256⟩
end Go.Jq
namespace Go.Jq
set_option maxRecDepth 10000 in
theorem foRun : ∀ x ∈ FT_list, foG x.1 = x.2 := by
  intro x hx
  simp only [FT_list, List.mem_cons, List.not_mem_nil, or_false] at hx
  repeat' rcases hx with rfl | hx
  all_goals first | rfl | (subst hx; rfl)
theorem foAll : AllG foG := by constructor <;> (repeat' (first | rfl | constructor))
theorem foComp : CompG foG := by repeat' (first | rfl | constructor)
theorem foD : FinG foG := by constructor <;> (repeat' (first | rfl | constructor))
theorem foQ : FinQ foG := by constructor <;> (repeat' (first | rfl | constructor))
theorem foT : TxtG foG := by repeat' (first | rfl | constructor)
theorem foLaw : FOfG foG txtE := FOfG.of foAll foComp foD foQ rfl foT fun _ _ k => aw13_spec foRun k
end Go.Jq
