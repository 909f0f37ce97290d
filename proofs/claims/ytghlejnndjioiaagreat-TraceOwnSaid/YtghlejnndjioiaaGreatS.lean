/- Each function of this translation has the small code that was printed for it. -/
import Derived.Test.YtghlejnndjioiaaGreatRows
import Derived.KernelRfl
import Derived.Test.YtghlejnndjioiaaGreatM3
import Derived.Test.YtghlejnndjioiaaGreatC
set_option linter.unusedSimpArgs false
set_option linter.unusedVariables false
namespace Go.Jq
open Go.Proofs
def ownNames : Names := [(285, 3), (270, 4), (286, 5), (287, 6), (91, 7), (137, 8), (30, 9), (57, 10), (139, 11), (269, 12), (274, 13), (275, 14), (288, 15), (289, 16), (290, 17), (38, 18), (164, 19), (165, 20), (56, 21), (166, 22), (167, 23), (58, 24), (98, 25), (272, 26), (20, 27), (273, 28), (280, 29), (281, 30), (282, 31), (291, 32), (292, 33), (293, 34), (294, 35), (295, 36), (296, 37), (297, 38), (102, 39), (213, 40), (103, 41), (277, 42), (278, 43), (279, 44), (298, 45), (299, 46), (300, 47), (244, 48), (245, 49), (283, 50), (46, 51), (284, 52), (147, 53), (180, 54), (79, 55), (301, 56), (88, 57), (161, 58), (92, 59), (159, 60), (223, 61), (142, 62), (143, 63), (144, 64), (145, 65), (146, 66), (59, 67), (158, 68), (60, 69), (4, 70), (211, 71), (212, 72), (113, 73), (8, 74), (11, 75), (249, 76), (250, 77), (197, 78), (198, 79), (104, 80), (105, 81), (106, 82), (107, 83), (108, 84), (109, 85), (110, 86), (208, 87), (209, 88), (210, 89), (111, 90), (112, 91), (14, 92), (114, 93), (5, 94), (101, 95), (116, 96), (10, 97), (15, 98), (229, 99), (230, 100), (171, 101), (172, 102), (173, 103), (174, 104), (175, 105), (176, 106), (222, 107)]
def ownG : Nat → SFunc
  | 285 => c285
  | 270 => c270
  | 286 => c286
  | 287 => c287
  | 91 => c91
  | 137 => c137
  | 30 => c30
  | 57 => c57
  | 139 => c139
  | 269 => c269
  | 274 => c274
  | 275 => c275
  | 288 => c288
  | 289 => c289
  | 290 => c290
  | 38 => c38
  | 164 => c164
  | 165 => c165
  | 56 => c56
  | 166 => c166
  | 167 => c167
  | 58 => c58
  | 98 => c98
  | 272 => c272
  | 20 => c20
  | 273 => c273
  | 280 => c280
  | 281 => c281
  | 282 => c282
  | 291 => c291
  | 292 => c292
  | 293 => c293
  | 294 => c294
  | 295 => c295
  | 296 => c296
  | 297 => c297
  | 102 => c102
  | 213 => c213
  | 103 => c103
  | 277 => c277
  | 278 => c278
  | 279 => c279
  | 298 => c298
  | 299 => c299
  | 300 => c300
  | 244 => c244
  | 245 => c245
  | 283 => c283
  | 46 => c46
  | 284 => c284
  | 147 => c147
  | 180 => c180
  | 79 => c79
  | 301 => c301
  | 88 => c88
  | 161 => c161
  | 92 => c92
  | 159 => c159
  | 223 => c223
  | 142 => c142
  | 143 => c143
  | 144 => c144
  | 145 => c145
  | 146 => c146
  | 59 => c59
  | 158 => c158
  | 60 => c60
  | 4 => c4
  | 211 => c211
  | 212 => c212
  | 113 => c113
  | 8 => c8
  | 11 => c11
  | 249 => c249
  | 250 => c250
  | 197 => c197
  | 198 => c198
  | 104 => c104
  | 105 => c105
  | 106 => c106
  | 107 => c107
  | 108 => c108
  | 109 => c109
  | 110 => c110
  | 208 => c208
  | 209 => c209
  | 210 => c210
  | 111 => c111
  | 112 => c112
  | 14 => c14
  | 114 => c114
  | 5 => c5
  | 101 => c101
  | 116 => c116
  | 10 => c10
  | 15 => c15
  | 229 => c229
  | 230 => c230
  | 171 => c171
  | 172 => c172
  | 173 => c173
  | 174 => c174
  | 175 => c175
  | 176 => c176
  | 222 => c222
  | _ => ⟨0, 0, .skip, []⟩
set_option maxRecDepth 100000 in
theorem own_c285 : cFunc Tryz.prog ownNames.ψ Tryz.f3 [[0, 1, 2], [1, 2, 7], [1, 2, 7], [1, 8], [1, 10], [10, 11], [10, 11, 52], [6], [10, 11, 12], [10, 11, 12], [10, 11, 12, 56], [10, 11, 12, 13], [10, 11, 12, 13], [10, 11, 12, 13, 62], [10, 11, 12, 13, 73], [6], [10, 11, 12, 13, 113], [6], [10, 11, 12, 13], [10, 11, 12], [6]] = some c285 := by kernel_rfl
set_option maxRecDepth 100000 in
theorem own_c270 : cFunc Tryz.prog ownNames.ψ Tryz.f4 [[0, 1, 4], [4]] = some c270 := by kernel_rfl
set_option maxRecDepth 100000 in
theorem own_c286 : cFunc Tryz.prog ownNames.ψ Tryz.f5 [[1, 2, 3], [2, 8], [2, 8, 9], [2, 8, 9], [2, 8, 9, 18], [2, 8, 9, 11], [2, 8, 9, 31], [6, 7], [2, 8, 9], [6, 7]] = some c286 := by kernel_rfl
set_option maxRecDepth 100000 in
theorem own_c287 : cFunc Tryz.prog ownNames.ψ Tryz.f6 [[1, 2, 3], [2, 7], [2, 7, 8], [2, 7, 8, 9], [2, 7, 8, 9], [2, 7, 8, 9, 16], [2, 7, 8, 9, 10], [2, 7, 8, 9, 10, 23], [6], [2, 7, 8, 9, 10, 11], [2, 7, 8, 9, 10, 11, 30], [2, 7, 8, 9, 10, 11], [2, 7, 8, 9, 10, 11], [2, 7, 8, 9], [2, 7, 8, 9], [6]] = some c287 := by kernel_rfl
set_option maxRecDepth 100000 in
theorem own_c91 : cFunc Tryz.prog ownNames.ψ Tryz.f7 [[0, 1, 4], [0, 1, 4, 13], [4], [0, 1, 4, 5], [0, 1, 4, 5, 18, 19, 20], [0, 1, 4, 5, 18, 19, 20], [0, 1, 4, 5, 18, 19, 20, 21], [0, 1, 4, 5, 6, 7, 18, 19, 20], [0, 1, 4, 5, 6, 7, 8, 18, 19, 20], [0, 1, 4, 5, 6, 7, 8, 18, 19, 20], [0, 1, 4, 5, 6, 7, 8, 18, 19, 20, 30], [0, 1, 4, 5, 6, 7, 8, 9, 18, 19, 20], [0, 1, 4, 5, 6, 7, 8, 9, 10, 18, 19, 20], [0, 1, 4, 5, 6, 7, 8, 18, 19, 20, 86], [0, 1, 4, 5, 6, 7, 8, 18, 19, 20], [0, 1, 4, 5, 6, 7, 8, 18, 19, 20], [0, 1, 4, 5, 6, 18, 19, 20, 92], [0, 1, 4, 5, 18, 19, 20], [0, 1, 4, 5, 18, 19, 20], [4]] = some c91 := by kernel_rfl
set_option maxRecDepth 100000 in
theorem own_c137 : cFunc Tryz.prog ownNames.ψ Tryz.f8 [[1], [2]] = some c137 := by kernel_rfl
set_option maxRecDepth 100000 in
theorem own_c30 : cFunc Tryz.prog ownNames.ψ Tryz.f9 [[1], [3], [3, 8, 9], [3, 8, 9], [3, 8, 9, 10], [3, 4, 8, 9], [3, 8, 9, 17], [2], [3, 8, 9], [2]] = some c30 := by kernel_rfl
set_option maxRecDepth 100000 in
theorem own_c57 : cFunc Tryz.prog ownNames.ψ Tryz.f10 [[1, 2], [1, 2, 6, 7], [1, 2, 6, 7], [1, 2, 6, 7, 8], [1, 2, 3, 6, 7], [1, 2, 3, 6, 7, 11, 12], [1, 2, 3, 6, 7, 11, 12], [1, 2, 3, 6, 7, 11, 12, 13], [1, 2, 3, 4, 6, 7, 11, 12], [1, 2, 3, 4, 6, 7, 11, 12, 20], [1, 2, 3, 6, 7, 11, 12], [1, 2, 3, 6, 7, 11, 12], [1, 2, 6, 7], [2]] = some c57 := by kernel_rfl
set_option maxRecDepth 100000 in
theorem own_c139 : cFunc Tryz.prog ownNames.ψ Tryz.f11 [[1, 2, 3], [6]] = some c139 := by kernel_rfl
set_option maxRecDepth 100000 in
theorem own_c269 : cFunc Tryz.prog ownNames.ψ Tryz.f12 [[], [1, 2], [1, 2, 4], [0]] = some c269 := by kernel_rfl
set_option maxRecDepth 100000 in
theorem own_c274 : cFunc Tryz.prog ownNames.ψ Tryz.f13 [[1, 2], [1, 2, 3], [1, 2, 3, 4], [1, 2, 3, 4], [1, 2, 3, 4, 18], [1, 2, 3, 4, 5], [1, 2, 3, 4, 5, 6], [1, 2, 3, 4, 5, 6], [1, 2, 3, 4, 5, 6, 25], [1, 2, 3, 4, 5, 6, 40], [1, 2, 3, 4, 5, 6], [1, 2, 3, 4, 5, 6], [1, 2, 3, 4], [1, 2, 3, 4], [1, 2, 3, 7], [1, 2, 3, 7], [1, 2, 3, 7, 57], [1, 2, 3, 7, 8], [1, 2, 3, 7, 8, 9], [1, 2, 3, 7, 8, 9], [1, 2, 3, 7, 8, 9, 67], [1, 2, 3, 7, 8, 9, 10], [1, 2, 3, 7, 8, 9, 10, 80], [1, 2, 3, 7, 8, 9, 10], [1, 2, 3, 7, 8, 9], [1, 2, 3, 7, 8, 9], [1, 2, 3, 7], [1, 2, 3, 7], [2]] = some c274 := by kernel_rfl
set_option maxRecDepth 100000 in
theorem own_c275 : cFunc Tryz.prog ownNames.ψ Tryz.f14 [[1, 2, 4], [1, 2, 4, 5], [1, 2, 4, 5, 6], [1, 4, 5, 7], [1, 4, 5, 7, 8], [1, 4, 5, 7, 8, 9], [1, 4, 5, 7, 8, 9, 32], [1, 4, 5, 7, 8, 9], [1, 4, 5, 7, 8, 9, 10], [1, 4, 5, 7, 8, 9, 10, 11], [1, 4, 5, 7, 8, 9, 10, 11], [1, 4, 5, 7, 8, 9, 10, 11, 44], [1, 4, 5, 7, 8, 9, 10, 11, 12], [1, 4, 5, 7, 8, 9, 10, 11, 12, 13], [1, 4, 5, 7, 8, 9, 10, 11, 12, 13], [1, 4, 5, 7, 8, 9, 10, 11, 12, 13, 57], [1, 4, 5, 7, 8, 9, 10, 11, 12, 13, 14], [1, 4, 5, 7, 8, 9, 10, 11, 12, 13, 14, 15], [1, 4, 5, 7, 8, 9, 10, 11, 12, 13, 14, 15, 16], [1, 4, 5, 7, 8, 9, 10, 11, 12, 13, 14, 15, 16, 74], [1, 4, 5, 7, 8, 9, 10, 11, 12, 13, 14, 15, 16], [1, 4, 5, 7, 8, 9, 10, 11, 12, 13, 14, 15, 16, 17], [1, 4, 5, 7, 8, 9, 10, 11, 12, 13, 15, 16, 17, 83], [1, 4, 5, 7, 8, 9, 10, 11, 12, 13, 15, 16, 17, 83, 95], [1, 4, 5, 7, 8, 9, 10, 11, 12, 13, 15, 16, 17, 83, 95], [1, 4, 5, 7, 8, 9, 10, 11, 12, 13, 15, 16, 17, 83, 95], [1, 4, 5, 7, 8, 9, 10, 11, 12, 13, 15, 16, 17, 83, 95], [1, 4, 5, 7, 8, 9, 10, 11, 12, 13], [1, 4, 5, 7, 8, 9, 10, 11, 12, 13], [1, 4, 5, 7, 8, 9, 10, 11, 12, 13, 15, 16, 17, 83, 108], [1, 4, 5, 7, 8, 9, 10, 11, 12, 13, 15, 16, 17, 83, 108], [1, 4, 5, 7, 8, 9, 10, 11, 12, 13, 15, 16, 17, 83, 108], [1, 4, 5, 7, 8, 9, 10, 11, 12, 13, 15, 16, 17, 83, 108], [1, 4, 5, 7, 8, 9, 10, 11, 12, 13], [1, 4, 5, 7, 8, 9, 10, 11, 12, 13], [1, 4, 5, 7, 8, 9, 10, 11, 12, 13, 15, 16, 17, 83, 121], [1, 4, 5, 7, 8, 9, 10, 11, 12, 13], [1, 4, 5, 7, 8, 9, 10, 11, 12, 13, 15, 16, 17, 83, 127], [1, 4, 5, 7, 8, 9, 10, 11, 12, 13], [1, 4, 5, 7, 8, 9, 10, 11, 12, 13], [1, 4, 5, 7, 8, 9, 10, 11, 12, 13, 15, 16, 17, 139], [1, 4, 5, 7, 8, 9, 10, 11, 12, 13], [1, 4, 5, 7, 8, 9, 10, 11, 12, 13], [1, 4, 5, 7, 8, 9, 10, 11, 12, 13], [1, 4, 5, 7, 8, 9, 10, 11, 12, 13], [1, 4, 5, 7, 8, 9, 10, 11], [1, 4, 5, 7, 8, 9, 10, 11], [4, 5, 18], [4, 5, 18, 158], [4, 5], [4]] = some c275 := by kernel_rfl
set_option maxRecDepth 100000 in
theorem own_c288 : cFunc Tryz.prog ownNames.ψ Tryz.f15 [[1, 2], [2, 5], [2, 5, 6], [2, 5, 6], [2, 5, 6, 17], [2, 5, 6], [2, 5, 6], [2, 5, 7], [2, 5, 7], [2, 5, 7, 34], [2, 5, 7], [2, 5, 7], [4]] = some c288 := by kernel_rfl
set_option maxRecDepth 100000 in
theorem own_c289 : cFunc Tryz.prog ownNames.ψ Tryz.f16 [[0, 1, 4], [0, 1, 4, 21], [4, 5], [0, 1, 4, 6], [0, 1, 4, 6, 7], [0, 1, 4, 6, 7, 8, 9, 10], [0, 1, 4, 6, 7, 8, 9, 38], [0, 4, 7, 8, 11], [0, 4, 7, 8, 11, 12], [0, 4, 7, 8, 12], [0, 4, 7, 8, 12], [0, 4, 7], [4, 7], [4, 5], [0, 1, 4, 6, 7, 13], [0, 1, 4, 6, 7, 13, 15], [0, 1, 4, 6, 7, 13, 15, 138], [0, 1, 4, 6, 7, 13, 15], [0, 1, 4, 6, 7, 13, 15, 16], [0, 1, 4, 6, 7, 13, 15, 16], [0, 1, 4, 6, 7, 13, 15, 16, 162], [0, 1, 4, 6, 7, 13, 15, 16, 177], [0, 1, 4, 6, 7, 13, 15, 16], [0, 1, 4, 6, 7, 13, 15, 16], [0, 1, 4, 6, 7, 15, 17], [0, 1, 4, 6, 7, 15, 17], [0, 1, 4, 6, 7, 15, 17, 220], [0, 1, 4, 7, 15], [0, 1, 4, 6, 7, 15, 17, 251], [0, 1, 4, 7, 15], [0, 4, 7], [4, 7], [4, 5]] = some c289 := by kernel_rfl
set_option maxRecDepth 100000 in
theorem own_c290 : cFunc Tryz.prog ownNames.ψ Tryz.f17 [[0], [0, 3], [0, 3, 4], [0, 3, 4], [0, 3, 4, 6], [0, 3, 4, 11], [0, 3, 4], [0, 3, 4], [2]] = some c290 := by kernel_rfl
set_option maxRecDepth 100000 in
theorem own_c38 : cFunc Tryz.prog ownNames.ψ Tryz.f18 [[0, 2], [2]] = some c38 := by kernel_rfl
set_option maxRecDepth 100000 in
theorem own_c164 : cFunc Tryz.prog ownNames.ψ Tryz.f19 [[1, 2], [4]] = some c164 := by kernel_rfl
set_option maxRecDepth 100000 in
theorem own_c165 : cFunc Tryz.prog ownNames.ψ Tryz.f20 [[1], [2]] = some c165 := by kernel_rfl
set_option maxRecDepth 100000 in
theorem own_c56 : cFunc Tryz.prog ownNames.ψ Tryz.f21 [[1, 2, 3, 6], [1, 2, 3, 6, 14], [3, 6], [6]] = some c56 := by kernel_rfl
set_option maxRecDepth 100000 in
theorem own_c166 : cFunc Tryz.prog ownNames.ψ Tryz.f22 [[1], [2]] = some c166 := by kernel_rfl
set_option maxRecDepth 100000 in
theorem own_c167 : cFunc Tryz.prog ownNames.ψ Tryz.f23 [[1, 2, 3, 4, 8], [1, 2, 3, 4, 8, 9], [1, 2, 3, 4, 8, 9, 10], [1, 2, 3, 4, 8, 9, 10, 25], [1, 2, 3, 4, 8, 9, 10], [1, 2, 3, 4, 8, 9, 10, 32], [8], [1, 2, 3, 4, 8, 9, 10, 42], [1, 2, 3, 4, 8, 9, 10], [1, 2, 3, 4, 8, 9, 11], [1, 2, 3, 4, 8, 9, 11], [1, 2, 3, 4, 8, 9, 11, 52], [1, 2, 3, 4, 8, 9, 11, 75], [1, 2, 3, 4, 8, 9, 11], [1, 2, 3, 4, 8, 9, 11], [8]] = some c167 := by kernel_rfl
set_option maxRecDepth 100000 in
theorem own_c58 : cFunc Tryz.prog ownNames.ψ Tryz.f24 [[0, 1], [4]] = some c58 := by kernel_rfl
set_option maxRecDepth 100000 in
theorem own_c98 : cFunc Tryz.prog ownNames.ψ Tryz.f25 [[1, 2], [4]] = some c98 := by kernel_rfl
set_option maxRecDepth 100000 in
theorem own_c272 : cFunc Tryz.prog ownNames.ψ Tryz.f26 [[1, 2, 3, 6], [1, 2, 3, 6, 8, 9, 10], [1, 3, 6, 8, 26], [6, 7], [6, 7]] = some c272 := by kernel_rfl
set_option maxRecDepth 100000 in
theorem own_c20 : cFunc Tryz.prog ownNames.ψ Tryz.f27 [[0], [0, 1], [0]] = some c20 := by kernel_rfl
set_option maxRecDepth 100000 in
theorem own_c273 : cFunc Tryz.prog ownNames.ψ Tryz.f28 [[1, 2, 3, 4], [1, 3, 4, 9, 10], [9, 10, 11, 12], [8]] = some c273 := by kernel_rfl
set_option maxRecDepth 100000 in
theorem own_c280 : cFunc Tryz.prog ownNames.ψ Tryz.f29 [[1], [1, 3], [1, 3, 4], [1, 3, 4], [1, 3, 4, 15], [1, 3, 4], [1, 3, 4], [1, 3, 5], [1, 3, 5], [1, 3, 5, 30], [1, 3, 5, 6], [1, 3, 5, 6], [1, 3, 5, 6, 40], [1, 3, 5, 6], [1, 3, 5, 6], [1, 3, 5], [1, 3, 7], [1, 3, 7], [1, 3, 7, 59], [1, 3, 7, 8], [1, 3, 7, 8], [1, 3, 7, 8, 70], [1, 3, 7, 8], [1, 3, 7, 8], [1, 3, 7], [3, 9], [3, 9, 10], [3, 9, 10], [3, 9, 10, 86], [3, 9, 10, 91], [3, 9, 10], [3, 9, 10], [2]] = some c280 := by kernel_rfl
set_option maxRecDepth 100000 in
theorem own_c281 : cFunc Tryz.prog ownNames.ψ Tryz.f30 [[1, 2], [1, 2, 5], [1, 2, 5], [1, 2, 5, 10], [1, 2, 5, 20], [4], [1, 2, 5], [4]] = some c281 := by kernel_rfl
set_option maxRecDepth 100000 in
theorem own_c282 : cFunc Tryz.prog ownNames.ψ Tryz.f31 [[0, 1], [0, 1], [0, 1, 8], [2], [2]] = some c282 := by kernel_rfl
set_option maxRecDepth 100000 in
theorem own_c291 : cFunc Tryz.prog ownNames.ψ Tryz.f32 [[1, 2, 4], [1, 2, 4, 8], [4], [4]] = some c291 := by kernel_rfl
set_option maxRecDepth 100000 in
theorem own_c292 : cFunc Tryz.prog ownNames.ψ Tryz.f33 [[0, 1], [0, 1, 15], [0, 1, 5, 6], [4], [0, 7, 8, 9], [4]] = some c292 := by kernel_rfl
set_option maxRecDepth 100000 in
theorem own_c293 : cFunc Tryz.prog ownNames.ψ Tryz.f34 [[0, 1], [0, 1, 7], [4, 5, 6], [1, 23], [4, 5, 6], [4, 5, 6]] = some c293 := by kernel_rfl
set_option maxRecDepth 100000 in
theorem own_c294 : cFunc Tryz.prog ownNames.ψ Tryz.f35 [[0, 1, 2], [0, 1, 2, 7], [0, 1, 2, 7], [0, 1, 2, 7, 16], [0, 1, 2, 7, 34], [6], [0, 1, 2, 7], [6]] = some c294 := by kernel_rfl
set_option maxRecDepth 100000 in
theorem own_c295 : cFunc Tryz.prog ownNames.ψ Tryz.f36 [[1, 3, 5, 6], [1, 3, 5, 6, 28], [6, 7], [6, 8], [6, 8, 46], [6, 7], [6, 7]] = some c295 := by kernel_rfl
set_option maxRecDepth 100000 in
theorem own_c296 : cFunc Tryz.prog ownNames.ψ Tryz.f37 [[2, 3, 4, 6], [2, 3, 4, 6, 8], [2, 3, 4, 6, 8, 9], [6], [2, 3, 4, 6, 8, 18], [6], [2, 3, 4, 6, 24], [2, 3, 4, 6, 31], [6], [6], [6]] = some c296 := by kernel_rfl
set_option maxRecDepth 100000 in
theorem own_c297 : cFunc Tryz.prog ownNames.ψ Tryz.f38 [[1, 3, 4, 6, 8], [1, 3, 4, 6, 8, 9, 10], [1, 3, 4, 6, 8, 9, 19], [8], [1, 3, 4, 6, 8, 9, 28], [1, 4, 6, 8], [1, 4, 6, 8], [8]] = some c297 := by kernel_rfl
set_option maxRecDepth 100000 in
theorem own_c102 : cFunc Tryz.prog ownNames.ψ Tryz.f39 [[0, 1], [4]] = some c102 := by kernel_rfl
set_option maxRecDepth 100000 in
theorem own_c213 : cFunc Tryz.prog ownNames.ψ Tryz.f40 [[0, 1, 5], [0, 5, 12], [6], [6]] = some c213 := by kernel_rfl
set_option maxRecDepth 100000 in
theorem own_c103 : cFunc Tryz.prog ownNames.ψ Tryz.f41 [[0], [0, 8], [2], [2]] = some c103 := by kernel_rfl
set_option maxRecDepth 100000 in
theorem own_c277 : cFunc Tryz.prog ownNames.ψ Tryz.f42 [[1, 2, 3], [7, 9], [7, 9, 18], [6, 7, 8], [6, 7, 8]] = some c277 := by kernel_rfl
set_option maxRecDepth 100000 in
theorem own_c278 : cFunc Tryz.prog ownNames.ψ Tryz.f43 [[1, 2, 3, 6], [1, 2, 3, 6, 7], [1, 2, 3, 6, 7, 8], [1, 2, 3, 6, 7, 8, 24, 25], [1, 2, 3, 6, 7, 8, 24, 25], [1, 2, 3, 6, 7, 8, 24, 25, 26], [1, 2, 3, 6, 7, 8, 9, 24, 25], [1, 2, 3, 6, 7, 8, 9, 10, 24, 25], [1, 2, 3, 6, 7, 8, 9, 10, 24, 25, 28, 29, 30], [1, 2, 3, 6, 7, 8, 9, 10, 24, 25, 28, 29, 30], [1, 2, 3, 6, 7, 8, 9, 10, 24, 25, 28, 29, 30, 31], [1, 2, 3, 6, 7, 8, 9, 10, 11, 12, 24, 25, 28, 29, 30], [1, 2, 3, 6, 7, 8, 9, 10, 11, 12, 24, 25, 28, 29, 30, 43], [1, 2, 3, 6, 7, 8, 9, 10, 12, 24, 25, 28, 29, 30], [1, 2, 3, 6, 7, 8, 9, 10, 24, 25, 28, 29, 30], [1, 2, 3, 6, 7, 8, 9, 10, 24, 25, 28, 29, 30], [1, 2, 3, 6, 7, 8, 9, 10, 24, 25, 28, 29, 30], [1, 2, 3, 6, 7, 8, 24, 25], [1, 2, 3, 6, 7, 8], [1, 2, 6, 7, 8, 78, 79], [1, 2, 6, 7, 8, 78, 79], [1, 2, 6, 7, 8, 78, 79, 80], [1, 2, 6, 7, 8, 13, 78, 79], [1, 2, 6, 7, 8, 78, 79], [1, 2, 6, 7, 8, 78, 79], [1, 6, 7, 8, 90, 91, 92], [1, 6, 7, 8, 90, 91, 92], [1, 6, 7, 8, 90, 91, 92, 93], [1, 6, 7, 8, 14, 15, 90, 91, 92], [1, 6, 7, 8, 14, 15, 90, 91, 92, 98], [1, 6, 7, 8, 14, 15, 90, 91, 92], [1, 6, 7, 8, 14, 15, 90, 91, 92, 110], [1, 6, 7, 8, 14, 15, 90, 91, 92], [1, 6, 7, 8, 14, 15, 90, 91, 92, 123], [1, 6, 7, 8, 90, 91, 92], [1, 6, 7, 8, 14, 15, 90, 91, 92, 145], [1, 6, 7, 8, 90, 91, 92], [1, 6, 7, 8, 90, 91, 92], [6]] = some c278 := by kernel_rfl
set_option maxRecDepth 100000 in
theorem own_c279 : cFunc Tryz.prog ownNames.ψ Tryz.f44 [[2, 3], [4]] = some c279 := by kernel_rfl
set_option maxRecDepth 100000 in
theorem own_c298 : cFunc Tryz.prog ownNames.ψ Tryz.f45 [[1, 2], [4]] = some c298 := by kernel_rfl
set_option maxRecDepth 100000 in
theorem own_c299 : cFunc Tryz.prog ownNames.ψ Tryz.f46 [[1, 3, 5, 6], [1, 3, 5, 6], [1, 3, 5, 6, 17], [1, 3, 5, 6, 7], [1, 3, 5, 6, 7, 28], [1, 3, 5, 6, 7, 28, 30], [1, 3, 5, 6, 7, 8], [1, 3, 5, 6, 7, 8, 38], [1, 3, 5, 6, 7, 8], [1, 3, 5, 6], [1, 3, 5, 6], [1, 3, 5, 6, 7, 59], [1, 3, 5, 6, 7, 69], [1, 3, 5, 6], [1, 3, 5, 6], [6], [6]] = some c299 := by kernel_rfl
set_option maxRecDepth 100000 in
theorem own_c300 : cFunc Tryz.prog ownNames.ψ Tryz.f47 [[2, 3], [2, 3, 12], [4], [4]] = some c300 := by kernel_rfl
set_option maxRecDepth 100000 in
theorem own_c244 : cFunc Tryz.prog ownNames.ψ Tryz.f48 [[0, 1], [0, 1, 7, 8], [0, 1, 7, 8], [0, 1, 7, 8, 9], [0, 1, 5, 7, 8], [0, 1, 5, 7, 8, 16], [4], [0, 1, 7, 8], [4]] = some c244 := by kernel_rfl
set_option maxRecDepth 100000 in
theorem own_c245 : cFunc Tryz.prog ownNames.ψ Tryz.f49 [[1, 2], [3]] = some c245 := by kernel_rfl
set_option maxRecDepth 100000 in
theorem own_c283 : cFunc Tryz.prog ownNames.ψ Tryz.f50 [[1, 2, 3], [2, 8, 9], [2, 8, 21], [6, 7], [2, 8, 22, 23, 24], [2, 8, 22, 23, 24], [2, 8, 22, 23, 24, 25], [2, 8, 10, 11, 22, 23, 24], [2, 8, 10, 13, 22, 23, 24], [2, 8, 10, 22, 23, 24, 36], [6, 7], [2, 8, 22, 23, 24], [6, 7]] = some c283 := by kernel_rfl
set_option maxRecDepth 100000 in
theorem own_c46 : cFunc Tryz.prog ownNames.ψ Tryz.f51 [[0], [2]] = some c46 := by kernel_rfl
set_option maxRecDepth 100000 in
theorem own_c284 : cFunc Tryz.prog ownNames.ψ Tryz.f52 [[0], [2]] = some c284 := by kernel_rfl
set_option maxRecDepth 100000 in
theorem own_c147 : cFunc Tryz.prog ownNames.ψ Tryz.f53 [[1], [1, 3], [3, 7, 8, 9], [3, 7, 8, 9], [3, 7, 8, 9, 10], [3, 4, 5, 7, 8, 9], [3, 7, 8, 9], [3, 7, 8, 9], [2]] = some c147 := by kernel_rfl
set_option maxRecDepth 100000 in
theorem own_c180 : cFunc Tryz.prog ownNames.ψ Tryz.f54 [[0, 1], [0, 1, 10], [0, 1], [0, 5, 6], [0, 6, 26], [0, 6], [0, 7], [7, 8], [7, 8], [7, 8, 37], [7, 8], [4]] = some c180 := by kernel_rfl
set_option maxRecDepth 100000 in
theorem own_c79 : cFunc Tryz.prog ownNames.ψ Tryz.f55 [[2, 3], [4]] = some c79 := by kernel_rfl
set_option maxRecDepth 100000 in
theorem own_c301 : cFunc Tryz.prog ownNames.ψ Tryz.f56 [[0, 1, 2], [0, 1, 2, 8], [0, 1, 2, 8], [1, 2, 8, 13], [1, 2, 8, 13, 14], [6, 7], [1, 2, 8, 13, 22], [6, 7], [1, 2, 8, 13, 30], [6, 7], [1, 2, 8, 13, 38], [6, 7], [1, 2, 8, 13, 43], [6, 7], [1, 2, 8, 13, 48], [6, 7], [1, 2, 8, 13, 53], [6, 7], [1, 2, 8, 13, 60], [6, 7], [1, 2, 13, 65], [9], [1, 2, 13, 70], [9], [1, 2, 75], [9], [6, 7], [80], [6, 7], [6, 7]] = some c301 := by kernel_rfl
set_option maxRecDepth 100000 in
theorem own_c88 : cFunc Tryz.prog ownNames.ψ Tryz.f57 [[1, 2], [1, 2, 18], [4, 5], [1, 2, 6], [1, 2, 6, 24], [1, 2, 6, 24], [1, 2, 6, 24, 25], [1, 2, 6, 7, 24], [1, 2, 6, 7, 24], [1, 2, 6, 7, 24], [1, 2, 6, 24], [1, 2, 6, 24], [6], [4, 5]] = some c88 := by kernel_rfl
set_option maxRecDepth 100000 in
theorem own_c161 : cFunc Tryz.prog ownNames.ψ Tryz.f58 [[0, 1, 4], [0, 1, 4, 11], [4, 5], [0, 1, 4, 6], [0, 1, 4, 6, 21], [0, 1, 4, 6], [0, 1, 4, 6, 27], [0, 1, 4, 6], [0, 1, 4, 6], [0, 4, 6], [4, 6], [4, 5]] = some c161 := by kernel_rfl
set_option maxRecDepth 100000 in
theorem own_c92 : cFunc Tryz.prog ownNames.ψ Tryz.f59 [[0], [0, 4], [2], [2]] = some c92 := by kernel_rfl
set_option maxRecDepth 100000 in
theorem own_c159 : cFunc Tryz.prog ownNames.ψ Tryz.f60 [[0], [0, 3], [0, 3, 13], [0, 3, 13], [0, 3, 13, 14], [0, 3, 4, 13], [0, 3, 4, 5, 6, 13], [0, 3, 4, 6, 7, 13], [0, 3, 4, 13, 52], [0, 3, 4, 13], [0, 3, 4, 13, 70], [0, 3, 4, 13], [0, 3, 4, 13, 75], [0, 3, 4, 13, 75], [0, 3, 4, 13, 75, 76], [0, 3, 4, 8, 13, 75], [0, 3, 4, 8, 12, 13, 75], [0, 3, 4, 8, 13, 75, 98], [0, 3, 4, 13, 75], [0, 3, 4, 13, 75], [0, 3, 13], [2]] = some c159 := by kernel_rfl
set_option maxRecDepth 100000 in
theorem own_c223 : cFunc Tryz.prog ownNames.ψ Tryz.f61 [[0, 1], [6, 7], [4, 5], [8, 9], [4, 5]] = some c223 := by kernel_rfl
set_option maxRecDepth 100000 in
theorem own_c142 : cFunc Tryz.prog ownNames.ψ Tryz.f62 [[0], [0, 3], [3, 6, 7, 8], [3, 6, 7, 8], [3, 6, 7, 8, 9], [3, 5, 6, 7, 8], [3, 5, 6, 7, 8, 14], [2], [3, 6, 7, 8], [2]] = some c142 := by kernel_rfl
set_option maxRecDepth 100000 in
theorem own_c143 : cFunc Tryz.prog ownNames.ψ Tryz.f63 [[0, 1, 2], [0, 1, 2, 11, 12, 13], [0, 1, 2, 11, 12, 13], [0, 1, 2, 11, 12, 13, 14], [0, 1, 2, 7, 8, 11, 12, 13], [0, 1, 2, 7, 8, 11, 12, 13, 21], [6], [0, 1, 2, 8, 9, 11, 12, 13], [0, 1, 2, 10, 11, 12, 13], [0, 1, 2, 10, 11, 12, 13, 31], [6], [0, 1, 2, 11, 12, 13], [38], [6], [6]] = some c143 := by kernel_rfl
set_option maxRecDepth 100000 in
theorem own_c144 : cFunc Tryz.prog ownNames.ψ Tryz.f64 [[2, 3], [4]] = some c144 := by kernel_rfl
set_option maxRecDepth 100000 in
theorem own_c145 : cFunc Tryz.prog ownNames.ψ Tryz.f65 [[0, 1], [0, 1, 9, 10, 11], [0, 1, 9, 10, 11], [0, 1, 9, 10, 11, 12], [0, 1, 5, 6, 9, 10, 11], [0, 1, 5, 6, 9, 10, 11, 19], [4], [0, 1, 6, 7, 9, 10, 11], [0, 1, 8, 9, 10, 11], [0, 1, 8, 9, 10, 11, 28], [4], [0, 1, 9, 10, 11], [35], [4], [4]] = some c145 := by kernel_rfl
set_option maxRecDepth 100000 in
theorem own_c146 : cFunc Tryz.prog ownNames.ψ Tryz.f66 [[0, 1, 2], [0, 1, 2, 11, 12, 13], [0, 1, 2, 11, 12, 13], [0, 1, 2, 11, 12, 13, 14], [0, 1, 2, 7, 8, 11, 12, 13], [0, 1, 2, 7, 8, 11, 12, 13, 21], [6], [0, 1, 2, 8, 9, 11, 12, 13], [0, 1, 2, 10, 11, 12, 13], [0, 1, 2, 10, 11, 12, 13, 31], [6], [0, 1, 2, 11, 12, 13], [38], [6], [6]] = some c146 := by kernel_rfl
set_option maxRecDepth 100000 in
theorem own_c59 : cFunc Tryz.prog ownNames.ψ Tryz.f67 [[1], [1, 37], [2], [1, 39, 40, 41], [1, 39, 40, 41], [1, 39, 40, 41, 42], [1, 3, 4, 39, 40, 41], [1, 39, 40, 41, 63], [2], [1, 39, 40, 41], [1, 5], [5, 67, 68, 69], [5, 67, 68, 69], [5, 67, 68, 69, 70], [5, 7, 67, 68, 69], [5, 67, 68, 69, 85], [2], [5, 67, 68, 69], [2]] = some c59 := by kernel_rfl
set_option maxRecDepth 100000 in
theorem own_c158 : cFunc Tryz.prog ownNames.ψ Tryz.f68 [[1, 2], [1, 2, 3], [2, 3, 14, 15, 16], [2, 3, 14, 15, 16], [2, 3, 14, 15, 16, 17], [2, 3, 5, 14, 15, 16], [2, 3, 14, 15, 16], [2, 3, 14, 15, 16], [2]] = some c158 := by kernel_rfl
set_option maxRecDepth 100000 in
theorem own_c60 : cFunc Tryz.prog ownNames.ψ Tryz.f69 [[1, 2, 4], [4]] = some c60 := by kernel_rfl
set_option maxRecDepth 100000 in
theorem own_c4 : cFunc Tryz.prog ownNames.ψ Tryz.f70 [[0, 2], [0, 2, 8], [0, 2], [2]] = some c4 := by kernel_rfl
set_option maxRecDepth 100000 in
theorem own_c211 : cFunc Tryz.prog ownNames.ψ Tryz.f71 [[0, 1, 4], [0, 1, 4, 5], [0, 1, 4, 5, 6], [0, 1, 4, 5, 6, 8, 9], [0, 1, 4, 5, 6, 8, 9, 10, 11, 12], [0, 1, 4, 5, 6, 8, 9, 10, 11, 59], [0, 1, 4, 5, 6, 8, 9], [0, 1, 4, 5, 8, 9, 13, 14], [0, 1, 4, 5, 8, 9, 13, 70], [0, 1, 4, 5, 8, 9, 13], [0, 1, 4, 5, 8, 9, 13, 15], [0, 1, 4, 5, 8, 9, 13, 15, 76], [0, 1, 4, 5, 8, 9, 13], [0, 1, 4, 5, 8, 9, 13, 15, 104], [0, 1, 4, 5, 8, 9, 13], [1, 4, 9, 13], [4]] = some c211 := by kernel_rfl
set_option maxRecDepth 100000 in
theorem own_c212 : cFunc Tryz.prog ownNames.ψ Tryz.f72 [[0, 1, 2, 6], [0, 1, 2, 6, 7, 8, 9], [0, 1, 6, 7, 8, 9], [1, 6, 7, 8, 9], [6]] = some c212 := by kernel_rfl
set_option maxRecDepth 100000 in
theorem own_c113 : cFunc Tryz.prog ownNames.ψ Tryz.f73 [[1, 3, 5, 6], [5, 6, 8], [5, 6, 8, 22], [6, 7], [6, 9], [6, 9, 36], [6, 7], [6, 7]] = some c113 := by kernel_rfl
set_option maxRecDepth 100000 in
theorem own_c8 : cFunc Tryz.prog ownNames.ψ Tryz.f74 [[1], [2]] = some c8 := by kernel_rfl
set_option maxRecDepth 100000 in
theorem own_c11 : cFunc Tryz.prog ownNames.ψ Tryz.f75 [[1, 2], [2, 8], [2, 8, 13], [4, 5, 6, 7], [4, 5, 6, 7]] = some c11 := by kernel_rfl
set_option maxRecDepth 100000 in
theorem own_c249 : cFunc Tryz.prog ownNames.ψ Tryz.f76 [[0, 1], [6], [4, 5]] = some c249 := by kernel_rfl
set_option maxRecDepth 100000 in
theorem own_c250 : cFunc Tryz.prog ownNames.ψ Tryz.f77 [[0, 1], [0, 1, 6], [0, 1, 6, 7], [0, 1, 6, 7, 8], [0, 1, 6, 7, 8, 9], [0, 1, 6, 7, 8, 9, 10], [0, 1, 6, 7, 9, 11], [0, 1, 6, 7, 9, 11, 12], [0, 1, 6, 7, 9, 12, 13], [0, 1, 7, 9, 12, 13], [0, 1, 4], [4, 5]] = some c250 := by kernel_rfl
set_option maxRecDepth 100000 in
theorem own_c197 : cFunc Tryz.prog ownNames.ψ Tryz.f78 [[0, 1], [0, 1, 5], [0, 1, 5, 6], [0, 1, 6, 11], [12], [4], [4], [0, 1, 13], [4], [0, 1, 16], [4], [19], [4], [4]] = some c197 := by kernel_rfl
set_option maxRecDepth 100000 in
theorem own_c198 : cFunc Tryz.prog ownNames.ψ Tryz.f79 [[0, 1], [0, 1, 5], [0, 1, 5, 6], [0, 1, 6, 11], [12], [4], [4], [0, 1, 13], [4], [0, 1, 16], [4], [19], [4], [4]] = some c198 := by kernel_rfl
set_option maxRecDepth 100000 in
theorem own_c104 : cFunc Tryz.prog ownNames.ψ Tryz.f80 [[1], [1, 3], [3, 7, 8, 9], [3, 7, 8, 9], [3, 7, 8, 9, 10], [3, 5, 7, 8, 9], [3, 7, 8, 9], [3, 7, 8, 9], [2]] = some c104 := by kernel_rfl
set_option maxRecDepth 100000 in
theorem own_c105 : cFunc Tryz.prog ownNames.ψ Tryz.f81 [[0], [2]] = some c105 := by kernel_rfl
set_option maxRecDepth 100000 in
theorem own_c106 : cFunc Tryz.prog ownNames.ψ Tryz.f82 [[0, 1], [3]] = some c106 := by kernel_rfl
set_option maxRecDepth 100000 in
theorem own_c107 : cFunc Tryz.prog ownNames.ψ Tryz.f83 [[0], [0, 5, 6, 7], [0, 5, 6, 7], [0, 5, 6, 7, 8], [0, 3, 4, 5, 6, 7], [0, 5, 6, 7, 29], [2], [0, 5, 6, 7], [2]] = some c107 := by kernel_rfl
set_option maxRecDepth 100000 in
theorem own_c108 : cFunc Tryz.prog ownNames.ψ Tryz.f84 [[0, 1], [4]] = some c108 := by kernel_rfl
set_option maxRecDepth 100000 in
theorem own_c109 : cFunc Tryz.prog ownNames.ψ Tryz.f85 [[1, 2], [3]] = some c109 := by kernel_rfl
set_option maxRecDepth 100000 in
theorem own_c110 : cFunc Tryz.prog ownNames.ψ Tryz.f86 [[1, 2], [1, 2, 5], [1, 2, 5, 6], [1, 2, 5, 6, 11], [1, 2, 5, 6, 11, 12], [1, 2, 5], [2, 5, 6], [1, 2, 5, 6, 11, 29], [1, 2, 5], [2, 5, 6], [1, 2, 5, 6, 11, 46], [1, 2, 5, 11, 48], [1, 2, 5], [2, 5, 6], [2, 5, 11, 81], [2, 5], [2, 5, 6], [2, 5, 129], [2, 5], [2, 5, 6], [4], [4]] = some c110 := by kernel_rfl
set_option maxRecDepth 100000 in
theorem own_c208 : cFunc Tryz.prog ownNames.ψ Tryz.f87 [[0], [0, 4], [2], [2]] = some c208 := by kernel_rfl
set_option maxRecDepth 100000 in
theorem own_c209 : cFunc Tryz.prog ownNames.ψ Tryz.f88 [[0], [0, 4], [2], [2]] = some c209 := by kernel_rfl
set_option maxRecDepth 100000 in
theorem own_c210 : cFunc Tryz.prog ownNames.ψ Tryz.f89 [[0], [0, 4], [2], [2]] = some c210 := by kernel_rfl
set_option maxRecDepth 100000 in
theorem own_c111 : cFunc Tryz.prog ownNames.ψ Tryz.f90 [[0, 3, 4], [0, 3, 4], [0, 3, 4, 19], [0, 3, 4, 5], [0, 3, 4, 5, 6, 7], [0, 3, 4, 5, 6, 7, 34], [0, 3, 4, 5, 6, 7, 34, 36], [0, 3, 4, 5, 6, 8, 9], [0, 3, 4, 5, 6, 8, 46], [0, 3, 4, 5, 6], [0, 3, 4], [0, 3, 4, 5, 6, 7, 52], [0, 3, 4, 5, 56], [0, 3, 4], [4], [0, 3, 4], [4]] = some c111 := by kernel_rfl
set_option maxRecDepth 100000 in
theorem own_c112 : cFunc Tryz.prog ownNames.ψ Tryz.f91 [[1, 2], [1, 2, 13], [4], [4]] = some c112 := by kernel_rfl
set_option maxRecDepth 100000 in
theorem own_c14 : cFunc Tryz.prog ownNames.ψ Tryz.f92 [[1, 2], [1, 2, 7], [1, 2, 7], [1, 2, 7, 12], [1, 2, 7, 21], [4, 5, 6], [1, 2, 7], [4, 5, 6]] = some c14 := by kernel_rfl
set_option maxRecDepth 100000 in
theorem own_c114 : cFunc Tryz.prog ownNames.ψ Tryz.f93 [[2, 3, 4, 6], [2, 3, 4, 6, 9], [2, 3, 4, 6, 9, 10], [6, 7], [2, 3, 4, 6, 9, 19], [6, 7], [2, 3, 4, 6, 25], [2, 3, 4, 6, 32], [6, 7], [6, 7], [6, 7]] = some c114 := by kernel_rfl
set_option maxRecDepth 100000 in
theorem own_c5 : cFunc Tryz.prog ownNames.ψ Tryz.f94 [[1, 2, 3, 4, 8], [1, 2, 3, 4, 8, 24], [8], [4, 8], [4, 8], [8]] = some c5 := by kernel_rfl
set_option maxRecDepth 100000 in
theorem own_c101 : cFunc Tryz.prog ownNames.ψ Tryz.f95 [[1], [2]] = some c101 := by kernel_rfl
set_option maxRecDepth 100000 in
theorem own_c116 : cFunc Tryz.prog ownNames.ψ Tryz.f96 [[1, 3, 4, 6, 8], [1, 3, 4, 6, 8, 9, 10], [1, 3, 4, 6, 8, 9, 19], [8], [1, 3, 4, 6, 8, 9, 28], [1, 4, 6, 8], [1, 4, 6, 8], [8]] = some c116 := by kernel_rfl
set_option maxRecDepth 100000 in
theorem own_c10 : cFunc Tryz.prog ownNames.ψ Tryz.f97 [[1, 2, 4], [2, 4, 5], [2, 4, 5, 10], [4], [2, 4], [2, 4], [2, 4], [4]] = some c10 := by kernel_rfl
set_option maxRecDepth 100000 in
theorem own_c15 : cFunc Tryz.prog ownNames.ψ Tryz.f98 [[1, 2], [1, 2, 7, 8], [1, 2, 7, 8], [1, 2, 7, 8, 9], [1, 2, 5, 7, 8], [1, 2, 5, 7, 8, 22], [4], [1, 2, 7, 8], [4]] = some c15 := by kernel_rfl
set_option maxRecDepth 100000 in
theorem own_c229 : cFunc Tryz.prog ownNames.ψ Tryz.f99 [[0], [2]] = some c229 := by kernel_rfl
set_option maxRecDepth 100000 in
theorem own_c230 : cFunc Tryz.prog ownNames.ψ Tryz.f100 [[0], [2]] = some c230 := by kernel_rfl
set_option maxRecDepth 100000 in
theorem own_c171 : cFunc Tryz.prog ownNames.ψ Tryz.f101 [[0, 1], [0, 1, 7, 8], [0, 1, 7, 8], [0, 1, 7, 8, 9], [0, 1, 5, 7, 8], [0, 1, 5, 7, 8, 16], [4], [0, 1, 7, 8], [4]] = some c171 := by kernel_rfl
set_option maxRecDepth 100000 in
theorem own_c172 : cFunc Tryz.prog ownNames.ψ Tryz.f102 [[1], [2]] = some c172 := by kernel_rfl
set_option maxRecDepth 100000 in
theorem own_c173 : cFunc Tryz.prog ownNames.ψ Tryz.f103 [[0], [2]] = some c173 := by kernel_rfl
set_option maxRecDepth 100000 in
theorem own_c174 : cFunc Tryz.prog ownNames.ψ Tryz.f104 [[2, 3], [2, 3, 12], [4], [4]] = some c174 := by kernel_rfl
set_option maxRecDepth 100000 in
theorem own_c175 : cFunc Tryz.prog ownNames.ψ Tryz.f105 [[0, 1, 2], [0, 1, 2, 8], [1, 2, 8, 12], [1, 2, 8, 12, 13], [6, 7], [1, 2, 8, 12, 18], [6, 7], [1, 2, 8, 12, 23], [6, 7], [1, 2, 8, 12, 28], [6, 7], [1, 2, 8, 12, 33], [6, 7], [1, 2, 8, 12, 38], [6, 7], [1, 2, 8, 12, 43], [6, 7], [1, 2, 8, 12, 48], [6, 7], [1, 2, 12, 53], [6, 7], [1, 2, 12, 59], [6, 7], [1, 2, 65], [6, 7], [6, 7]] = some c175 := by kernel_rfl
set_option maxRecDepth 100000 in
theorem own_c176 : cFunc Tryz.prog ownNames.ψ Tryz.f106 [[0, 1, 2, 11], []] = some c176 := by kernel_rfl
set_option maxRecDepth 100000 in
theorem own_c222 : cFunc Tryz.prog ownNames.ψ Tryz.f107 [[0], [3], [2], [2]] = some c222 := by kernel_rfl
theorem ownKnown : Known Tryz.prog ownNames ownG where
  ok := by kernel_rfl
  calls := by
    intro x hx
    simp only [ownNames, List.mem_cons, List.not_mem_nil, or_false] at hx
    rcases hx with rfl | rfl | rfl | rfl | rfl | rfl | rfl | rfl | rfl | rfl | rfl | rfl | rfl | rfl | rfl | rfl | rfl | rfl | rfl | rfl | rfl | rfl | rfl | rfl | rfl | rfl | rfl | rfl | rfl | rfl | rfl | rfl | rfl | rfl | rfl | rfl | rfl | rfl | rfl | rfl | rfl | rfl | rfl | rfl | rfl | rfl | rfl | rfl | rfl | rfl | rfl | rfl | rfl | rfl | rfl | rfl | rfl | rfl | rfl | rfl | rfl | rfl | rfl | rfl | rfl | rfl | rfl | rfl | rfl | rfl | rfl | rfl | rfl | rfl | rfl | rfl | rfl | rfl | rfl | rfl | rfl | rfl | rfl | rfl | rfl | rfl | rfl | rfl | rfl | rfl | rfl | rfl | rfl | rfl | rfl | rfl | rfl | rfl | rfl | rfl | rfl | rfl | rfl | rfl | rfl
    · exact Tryz.call3
    · exact Tryz.call4
    · exact Tryz.call5
    · exact Tryz.call6
    · exact Tryz.call7
    · exact Tryz.call8
    · exact Tryz.call9
    · exact Tryz.call10
    · exact Tryz.call11
    · exact Tryz.call12
    · exact Tryz.call13
    · exact Tryz.call14
    · exact Tryz.call15
    · exact Tryz.call16
    · exact Tryz.call17
    · exact Tryz.call18
    · exact Tryz.call19
    · exact Tryz.call20
    · exact Tryz.call21
    · exact Tryz.call22
    · exact Tryz.call23
    · exact Tryz.call24
    · exact Tryz.call25
    · exact Tryz.call26
    · exact Tryz.call27
    · exact Tryz.call28
    · exact Tryz.call29
    · exact Tryz.call30
    · exact Tryz.call31
    · exact Tryz.call32
    · exact Tryz.call33
    · exact Tryz.call34
    · exact Tryz.call35
    · exact Tryz.call36
    · exact Tryz.call37
    · exact Tryz.call38
    · exact Tryz.call39
    · exact Tryz.call40
    · exact Tryz.call41
    · exact Tryz.call42
    · exact Tryz.call43
    · exact Tryz.call44
    · exact Tryz.call45
    · exact Tryz.call46
    · exact Tryz.call47
    · exact Tryz.call48
    · exact Tryz.call49
    · exact Tryz.call50
    · exact Tryz.call51
    · exact Tryz.call52
    · exact Tryz.call53
    · exact Tryz.call54
    · exact Tryz.call55
    · exact Tryz.call56
    · exact Tryz.call57
    · exact Tryz.call58
    · exact Tryz.call59
    · exact Tryz.call60
    · exact Tryz.call61
    · exact Tryz.call62
    · exact Tryz.call63
    · exact Tryz.call64
    · exact Tryz.call65
    · exact Tryz.call66
    · exact Tryz.call67
    · exact Tryz.call68
    · exact Tryz.call69
    · exact Tryz.call70
    · exact Tryz.call71
    · exact Tryz.call72
    · exact Tryz.call73
    · exact Tryz.call74
    · exact Tryz.call75
    · exact Tryz.call76
    · exact Tryz.call77
    · exact Tryz.call78
    · exact Tryz.call79
    · exact Tryz.call80
    · exact Tryz.call81
    · exact Tryz.call82
    · exact Tryz.call83
    · exact Tryz.call84
    · exact Tryz.call85
    · exact Tryz.call86
    · exact Tryz.call87
    · exact Tryz.call88
    · exact Tryz.call89
    · exact Tryz.call90
    · exact Tryz.call91
    · exact Tryz.call92
    · exact Tryz.call93
    · exact Tryz.call94
    · exact Tryz.call95
    · exact Tryz.call96
    · exact Tryz.call97
    · exact Tryz.call98
    · exact Tryz.call99
    · exact Tryz.call100
    · exact Tryz.call101
    · exact Tryz.call102
    · exact Tryz.call103
    · exact Tryz.call104
    · exact Tryz.call105
    · exact Tryz.call106
    · exact Tryz.call107
  code := by
    intro x hx
    simp only [ownNames, List.mem_cons, List.not_mem_nil, or_false] at hx
    rcases hx with rfl | rfl | rfl | rfl | rfl | rfl | rfl | rfl | rfl | rfl | rfl | rfl | rfl | rfl | rfl | rfl | rfl | rfl | rfl | rfl | rfl | rfl | rfl | rfl | rfl | rfl | rfl | rfl | rfl | rfl | rfl | rfl | rfl | rfl | rfl | rfl | rfl | rfl | rfl | rfl | rfl | rfl | rfl | rfl | rfl | rfl | rfl | rfl | rfl | rfl | rfl | rfl | rfl | rfl | rfl | rfl | rfl | rfl | rfl | rfl | rfl | rfl | rfl | rfl | rfl | rfl | rfl | rfl | rfl | rfl | rfl | rfl | rfl | rfl | rfl | rfl | rfl | rfl | rfl | rfl | rfl | rfl | rfl | rfl | rfl | rfl | rfl | rfl | rfl | rfl | rfl | rfl | rfl | rfl | rfl | rfl | rfl | rfl | rfl | rfl | rfl | rfl | rfl | rfl | rfl
    · exact .inl ⟨_, _, Tryz.func3, own_c285⟩
    · exact .inl ⟨_, _, Tryz.func4, own_c270⟩
    · exact .inl ⟨_, _, Tryz.func5, own_c286⟩
    · exact .inl ⟨_, _, Tryz.func6, own_c287⟩
    · exact .inl ⟨_, _, Tryz.func7, own_c91⟩
    · exact .inl ⟨_, _, Tryz.func8, own_c137⟩
    · exact .inl ⟨_, _, Tryz.func9, own_c30⟩
    · exact .inl ⟨_, _, Tryz.func10, own_c57⟩
    · exact .inl ⟨_, _, Tryz.func11, own_c139⟩
    · exact .inl ⟨_, _, Tryz.func12, own_c269⟩
    · exact .inl ⟨_, _, Tryz.func13, own_c274⟩
    · exact .inl ⟨_, _, Tryz.func14, own_c275⟩
    · exact .inl ⟨_, _, Tryz.func15, own_c288⟩
    · exact .inl ⟨_, _, Tryz.func16, own_c289⟩
    · exact .inl ⟨_, _, Tryz.func17, own_c290⟩
    · exact .inl ⟨_, _, Tryz.func18, own_c38⟩
    · exact .inl ⟨_, _, Tryz.func19, own_c164⟩
    · exact .inl ⟨_, _, Tryz.func20, own_c165⟩
    · exact .inl ⟨_, _, Tryz.func21, own_c56⟩
    · exact .inl ⟨_, _, Tryz.func22, own_c166⟩
    · exact .inl ⟨_, _, Tryz.func23, own_c167⟩
    · exact .inl ⟨_, _, Tryz.func24, own_c58⟩
    · exact .inl ⟨_, _, Tryz.func25, own_c98⟩
    · exact .inl ⟨_, _, Tryz.func26, own_c272⟩
    · exact .inl ⟨_, _, Tryz.func27, own_c20⟩
    · exact .inl ⟨_, _, Tryz.func28, own_c273⟩
    · exact .inl ⟨_, _, Tryz.func29, own_c280⟩
    · exact .inl ⟨_, _, Tryz.func30, own_c281⟩
    · exact .inl ⟨_, _, Tryz.func31, own_c282⟩
    · exact .inl ⟨_, _, Tryz.func32, own_c291⟩
    · exact .inl ⟨_, _, Tryz.func33, own_c292⟩
    · exact .inl ⟨_, _, Tryz.func34, own_c293⟩
    · exact .inl ⟨_, _, Tryz.func35, own_c294⟩
    · exact .inl ⟨_, _, Tryz.func36, own_c295⟩
    · exact .inl ⟨_, _, Tryz.func37, own_c296⟩
    · exact .inl ⟨_, _, Tryz.func38, own_c297⟩
    · exact .inl ⟨_, _, Tryz.func39, own_c102⟩
    · exact .inl ⟨_, _, Tryz.func40, own_c213⟩
    · exact .inl ⟨_, _, Tryz.func41, own_c103⟩
    · exact .inl ⟨_, _, Tryz.func42, own_c277⟩
    · exact .inl ⟨_, _, Tryz.func43, own_c278⟩
    · exact .inl ⟨_, _, Tryz.func44, own_c279⟩
    · exact .inl ⟨_, _, Tryz.func45, own_c298⟩
    · exact .inl ⟨_, _, Tryz.func46, own_c299⟩
    · exact .inl ⟨_, _, Tryz.func47, own_c300⟩
    · exact .inl ⟨_, _, Tryz.func48, own_c244⟩
    · exact .inl ⟨_, _, Tryz.func49, own_c245⟩
    · exact .inl ⟨_, _, Tryz.func50, own_c283⟩
    · exact .inl ⟨_, _, Tryz.func51, own_c46⟩
    · exact .inl ⟨_, _, Tryz.func52, own_c284⟩
    · exact .inl ⟨_, _, Tryz.func53, own_c147⟩
    · exact .inl ⟨_, _, Tryz.func54, own_c180⟩
    · exact .inl ⟨_, _, Tryz.func55, own_c79⟩
    · exact .inl ⟨_, _, Tryz.func56, own_c301⟩
    · exact .inl ⟨_, _, Tryz.func57, own_c88⟩
    · exact .inl ⟨_, _, Tryz.func58, own_c161⟩
    · exact .inl ⟨_, _, Tryz.func59, own_c92⟩
    · exact .inl ⟨_, _, Tryz.func60, own_c159⟩
    · exact .inl ⟨_, _, Tryz.func61, own_c223⟩
    · exact .inl ⟨_, _, Tryz.func62, own_c142⟩
    · exact .inl ⟨_, _, Tryz.func63, own_c143⟩
    · exact .inl ⟨_, _, Tryz.func64, own_c144⟩
    · exact .inl ⟨_, _, Tryz.func65, own_c145⟩
    · exact .inl ⟨_, _, Tryz.func66, own_c146⟩
    · exact .inl ⟨_, _, Tryz.func67, own_c59⟩
    · exact .inl ⟨_, _, Tryz.func68, own_c158⟩
    · exact .inl ⟨_, _, Tryz.func69, own_c60⟩
    · exact .inl ⟨_, _, Tryz.func70, own_c4⟩
    · exact .inl ⟨_, _, Tryz.func71, own_c211⟩
    · exact .inl ⟨_, _, Tryz.func72, own_c212⟩
    · exact .inl ⟨_, _, Tryz.func73, own_c113⟩
    · exact .inl ⟨_, _, Tryz.func74, own_c8⟩
    · exact .inl ⟨_, _, Tryz.func75, own_c11⟩
    · exact .inl ⟨_, _, Tryz.func76, own_c249⟩
    · exact .inl ⟨_, _, Tryz.func77, own_c250⟩
    · exact .inl ⟨_, _, Tryz.func78, own_c197⟩
    · exact .inl ⟨_, _, Tryz.func79, own_c198⟩
    · exact .inl ⟨_, _, Tryz.func80, own_c104⟩
    · exact .inl ⟨_, _, Tryz.func81, own_c105⟩
    · exact .inl ⟨_, _, Tryz.func82, own_c106⟩
    · exact .inl ⟨_, _, Tryz.func83, own_c107⟩
    · exact .inl ⟨_, _, Tryz.func84, own_c108⟩
    · exact .inl ⟨_, _, Tryz.func85, own_c109⟩
    · exact .inl ⟨_, _, Tryz.func86, own_c110⟩
    · exact .inl ⟨_, _, Tryz.func87, own_c208⟩
    · exact .inl ⟨_, _, Tryz.func88, own_c209⟩
    · exact .inl ⟨_, _, Tryz.func89, own_c210⟩
    · exact .inl ⟨_, _, Tryz.func90, own_c111⟩
    · exact .inl ⟨_, _, Tryz.func91, own_c112⟩
    · exact .inl ⟨_, _, Tryz.func92, own_c14⟩
    · exact .inl ⟨_, _, Tryz.func93, own_c114⟩
    · exact .inl ⟨_, _, Tryz.func94, own_c5⟩
    · exact .inl ⟨_, _, Tryz.func95, own_c101⟩
    · exact .inl ⟨_, _, Tryz.func96, own_c116⟩
    · exact .inl ⟨_, _, Tryz.func97, own_c10⟩
    · exact .inl ⟨_, _, Tryz.func98, own_c15⟩
    · exact .inl ⟨_, _, Tryz.func99, own_c229⟩
    · exact .inl ⟨_, _, Tryz.func100, own_c230⟩
    · exact .inl ⟨_, _, Tryz.func101, own_c171⟩
    · exact .inl ⟨_, _, Tryz.func102, own_c172⟩
    · exact .inl ⟨_, _, Tryz.func103, own_c173⟩
    · exact .inl ⟨_, _, Tryz.func104, own_c174⟩
    · exact .inl ⟨_, _, Tryz.func105, own_c175⟩
    · exact .inl ⟨_, _, Tryz.func106, own_c176⟩
    · exact .inl ⟨_, _, Tryz.func107, own_c222⟩
end Go.Jq
