/- Each function of this translation has the small code that was printed for it. -/
import Derived.Test.YtghlejnndjioiaaDoorRows
import Derived.KernelRfl
import Derived.Test.YtghlejnndjioiaaDoorM3
import Derived.Test.YtghlejnndjioiaaDoorC
set_option linter.unusedSimpArgs false
set_option linter.unusedVariables false
namespace Go.Jq
open Go.Proofs

def manyNames : Names := [(267, 3), (91, 5), (137, 6), (269, 7), (139, 8), (138, 9), (38, 14), (164, 15), (165, 16), (56, 17), (166, 18), (167, 19), (57, 20), (272, 21), (20, 22), (273, 23), (98, 24), (58, 25), (54, 26), (102, 34), (213, 35), (277, 36), (278, 37), (279, 38), (103, 39), (99, 40), (244, 54), (245, 55), (283, 56), (46, 57), (284, 58), (147, 59), (180, 60), (79, 61), (170, 62), (142, 69), (88, 71), (161, 72), (92, 73), (159, 74), (223, 75), (143, 76), (144, 77), (145, 78), (146, 79), (198, 96), (59, 97), (158, 98), (60, 99), (4, 100), (211, 101), (212, 102), (113, 103), (8, 104), (11, 105), (249, 106), (250, 107), (197, 108), (230, 118), (104, 119), (105, 120), (106, 121), (107, 122), (108, 123), (109, 124), (110, 125), (208, 126), (209, 127), (210, 128), (111, 129), (112, 130), (14, 131), (114, 132), (5, 133), (101, 134), (116, 135), (10, 136), (15, 137), (229, 138), (171, 141), (172, 142), (173, 143), (174, 144), (175, 145), (176, 146), (222, 147)]
def manyG : Nat → SFunc
  | 267 => c267
  | 91 => c91
  | 137 => c137
  | 269 => c269
  | 139 => c139
  | 138 => c138
  | 38 => c38
  | 164 => c164
  | 165 => c165
  | 56 => c56
  | 166 => c166
  | 167 => c167
  | 57 => c57
  | 272 => c272
  | 20 => c20
  | 273 => c273
  | 98 => c98
  | 58 => c58
  | 54 => c54
  | 102 => c102
  | 213 => c213
  | 277 => c277
  | 278 => c278
  | 279 => c279
  | 103 => c103
  | 99 => c99
  | 244 => c244
  | 245 => c245
  | 283 => c283
  | 46 => c46
  | 284 => c284
  | 147 => c147
  | 180 => c180
  | 79 => c79
  | 170 => c170
  | 142 => c142
  | 88 => c88
  | 161 => c161
  | 92 => c92
  | 159 => c159
  | 223 => c223
  | 143 => c143
  | 144 => c144
  | 145 => c145
  | 146 => c146
  | 198 => c198
  | 59 => c59
  | 158 => c158
  | 60 => c60
  | 4 => c4
  | 211 => c211
  | 212 => c212
  | 113 => c113
  | 8 => c8
  | 11 => c11
  | 249 => c249
  | 250 => c250
  | 197 => c197
  | 230 => c230
  | 104 => c104
  | 105 => c105
  | 106 => c106
  | 107 => c107
  | 108 => c108
  | 109 => c109
  | 110 => c110
  | 208 => c208
  | 209 => c209
  | 210 => c210
  | 111 => c111
  | 112 => c112
  | 14 => c14
  | 114 => c114
  | 5 => c5
  | 101 => c101
  | 116 => c116
  | 10 => c10
  | 15 => c15
  | 229 => c229
  | 171 => c171
  | 172 => c172
  | 173 => c173
  | 174 => c174
  | 175 => c175
  | 176 => c176
  | 222 => c222
  | _ => ⟨0, 0, .skip, []⟩

set_option maxRecDepth 100000 in
theorem many_c267 : cFunc Tryd.prog manyNames.ψ Tryd.f3 [[0, 1], [0, 1], [0, 1, 5], [0, 1, 5, 15, 16], [0, 1, 5, 15, 16], [0, 1, 5, 15, 16, 17], [0, 1, 5, 6, 15, 16], [0, 1, 5, 15, 16], [0, 1, 5, 15, 16], [0, 7], [0, 7, 31], [4], [4]] = some c267 := by kernel_rfl
set_option maxRecDepth 100000 in
theorem many_c91 : cFunc Tryd.prog manyNames.ψ Tryd.f5 [[0, 1, 4], [0, 1, 4, 13], [4], [0, 1, 4, 5], [0, 1, 4, 5, 18, 19, 20], [0, 1, 4, 5, 18, 19, 20], [0, 1, 4, 5, 18, 19, 20, 21], [0, 1, 4, 5, 6, 7, 18, 19, 20], [0, 1, 4, 5, 6, 7, 8, 18, 19, 20], [0, 1, 4, 5, 6, 7, 8, 18, 19, 20], [0, 1, 4, 5, 6, 7, 8, 18, 19, 20, 30], [0, 1, 4, 5, 6, 7, 8, 9, 18, 19, 20], [0, 1, 4, 5, 6, 7, 8, 9, 10, 18, 19, 20], [0, 1, 4, 5, 6, 7, 8, 18, 19, 20, 86], [0, 1, 4, 5, 6, 7, 8, 18, 19, 20], [0, 1, 4, 5, 6, 7, 8, 18, 19, 20], [0, 1, 4, 5, 6, 18, 19, 20, 92], [0, 1, 4, 5, 18, 19, 20], [0, 1, 4, 5, 18, 19, 20], [4]] = some c91 := by kernel_rfl
set_option maxRecDepth 100000 in
theorem many_c137 : cFunc Tryd.prog manyNames.ψ Tryd.f6 [[1], [2]] = some c137 := by kernel_rfl
set_option maxRecDepth 100000 in
theorem many_c269 : cFunc Tryd.prog manyNames.ψ Tryd.f7 [[], [1, 2], [1, 2, 4], [0]] = some c269 := by kernel_rfl
set_option maxRecDepth 100000 in
theorem many_c139 : cFunc Tryd.prog manyNames.ψ Tryd.f8 [[1, 2, 3], [6]] = some c139 := by kernel_rfl
set_option maxRecDepth 100000 in
theorem many_c138 : cFunc Tryd.prog manyNames.ψ Tryd.f9 [[1], [1, 3], [1, 3, 8, 9], [1, 3, 8, 9], [1, 3, 8, 9, 10], [1, 3, 4, 8, 9], [1, 3, 4, 8, 9, 16, 17, 18], [1, 3, 4, 8, 9, 16, 17, 18], [1, 3, 4, 8, 9, 16, 17, 18, 19], [1, 3, 4, 6, 8, 9, 16, 17, 18], [1, 3, 4, 8, 9, 16, 17, 18], [1, 3, 4, 8, 9, 16, 17, 18], [1, 3, 8, 9], [2]] = some c138 := by kernel_rfl
set_option maxRecDepth 100000 in
theorem many_c38 : cFunc Tryd.prog manyNames.ψ Tryd.f14 [[0, 2], [2]] = some c38 := by kernel_rfl
set_option maxRecDepth 100000 in
theorem many_c164 : cFunc Tryd.prog manyNames.ψ Tryd.f15 [[1, 2], [4]] = some c164 := by kernel_rfl
set_option maxRecDepth 100000 in
theorem many_c165 : cFunc Tryd.prog manyNames.ψ Tryd.f16 [[1], [2]] = some c165 := by kernel_rfl
set_option maxRecDepth 100000 in
theorem many_c56 : cFunc Tryd.prog manyNames.ψ Tryd.f17 [[1, 2, 3, 6], [1, 2, 3, 6, 14], [3, 6], [6]] = some c56 := by kernel_rfl
set_option maxRecDepth 100000 in
theorem many_c166 : cFunc Tryd.prog manyNames.ψ Tryd.f18 [[1], [2]] = some c166 := by kernel_rfl
set_option maxRecDepth 100000 in
theorem many_c167 : cFunc Tryd.prog manyNames.ψ Tryd.f19 [[1, 2, 3, 4, 8], [1, 2, 3, 4, 8, 9], [1, 2, 3, 4, 8, 9, 10], [1, 2, 3, 4, 8, 9, 10, 25], [1, 2, 3, 4, 8, 9, 10], [1, 2, 3, 4, 8, 9, 10, 32], [8], [1, 2, 3, 4, 8, 9, 10, 42], [1, 2, 3, 4, 8, 9, 10], [1, 2, 3, 4, 8, 9, 11], [1, 2, 3, 4, 8, 9, 11], [1, 2, 3, 4, 8, 9, 11, 52], [1, 2, 3, 4, 8, 9, 11, 75], [1, 2, 3, 4, 8, 9, 11], [1, 2, 3, 4, 8, 9, 11], [8]] = some c167 := by kernel_rfl
set_option maxRecDepth 100000 in
theorem many_c57 : cFunc Tryd.prog manyNames.ψ Tryd.f20 [[1, 2], [1, 2, 6, 7], [1, 2, 6, 7], [1, 2, 6, 7, 8], [1, 2, 3, 6, 7], [1, 2, 3, 6, 7, 11, 12], [1, 2, 3, 6, 7, 11, 12], [1, 2, 3, 6, 7, 11, 12, 13], [1, 2, 3, 4, 6, 7, 11, 12], [1, 2, 3, 4, 6, 7, 11, 12, 20], [1, 2, 3, 6, 7, 11, 12], [1, 2, 3, 6, 7, 11, 12], [1, 2, 6, 7], [2]] = some c57 := by kernel_rfl
set_option maxRecDepth 100000 in
theorem many_c272 : cFunc Tryd.prog manyNames.ψ Tryd.f21 [[1, 2, 3, 6], [1, 2, 3, 6, 8, 9, 10], [1, 3, 6, 8, 26], [6, 7], [6, 7]] = some c272 := by kernel_rfl
set_option maxRecDepth 100000 in
theorem many_c20 : cFunc Tryd.prog manyNames.ψ Tryd.f22 [[0], [0, 1], [0]] = some c20 := by kernel_rfl
set_option maxRecDepth 100000 in
theorem many_c273 : cFunc Tryd.prog manyNames.ψ Tryd.f23 [[1, 2, 3, 4], [1, 3, 4, 9, 10], [9, 10, 11, 12], [8]] = some c273 := by kernel_rfl
set_option maxRecDepth 100000 in
theorem many_c98 : cFunc Tryd.prog manyNames.ψ Tryd.f24 [[1, 2], [4]] = some c98 := by kernel_rfl
set_option maxRecDepth 100000 in
theorem many_c58 : cFunc Tryd.prog manyNames.ψ Tryd.f25 [[0, 1], [4]] = some c58 := by kernel_rfl
set_option maxRecDepth 100000 in
theorem many_c54 : cFunc Tryd.prog manyNames.ψ Tryd.f26 [[0], [0, 3], [0, 3], [0, 3, 5], [0, 3], [0, 3], [2]] = some c54 := by kernel_rfl
set_option maxRecDepth 100000 in
theorem many_c102 : cFunc Tryd.prog manyNames.ψ Tryd.f34 [[0, 1], [4]] = some c102 := by kernel_rfl
set_option maxRecDepth 100000 in
theorem many_c213 : cFunc Tryd.prog manyNames.ψ Tryd.f35 [[0, 1, 5], [0, 5, 12], [6], [6]] = some c213 := by kernel_rfl
set_option maxRecDepth 100000 in
theorem many_c277 : cFunc Tryd.prog manyNames.ψ Tryd.f36 [[1, 2, 3], [7, 9], [7, 9, 18], [6, 7, 8], [6, 7, 8]] = some c277 := by kernel_rfl
set_option maxRecDepth 100000 in
theorem many_c278 : cFunc Tryd.prog manyNames.ψ Tryd.f37 [[1, 2, 3, 6], [1, 2, 3, 6, 7], [1, 2, 3, 6, 7, 8], [1, 2, 3, 6, 7, 8, 24, 25], [1, 2, 3, 6, 7, 8, 24, 25], [1, 2, 3, 6, 7, 8, 24, 25, 26], [1, 2, 3, 6, 7, 8, 9, 24, 25], [1, 2, 3, 6, 7, 8, 9, 10, 24, 25], [1, 2, 3, 6, 7, 8, 9, 10, 24, 25, 28, 29, 30], [1, 2, 3, 6, 7, 8, 9, 10, 24, 25, 28, 29, 30], [1, 2, 3, 6, 7, 8, 9, 10, 24, 25, 28, 29, 30, 31], [1, 2, 3, 6, 7, 8, 9, 10, 11, 12, 24, 25, 28, 29, 30], [1, 2, 3, 6, 7, 8, 9, 10, 11, 12, 24, 25, 28, 29, 30, 43], [1, 2, 3, 6, 7, 8, 9, 10, 12, 24, 25, 28, 29, 30], [1, 2, 3, 6, 7, 8, 9, 10, 24, 25, 28, 29, 30], [1, 2, 3, 6, 7, 8, 9, 10, 24, 25, 28, 29, 30], [1, 2, 3, 6, 7, 8, 9, 10, 24, 25, 28, 29, 30], [1, 2, 3, 6, 7, 8, 24, 25], [1, 2, 3, 6, 7, 8], [1, 2, 6, 7, 8, 78, 79], [1, 2, 6, 7, 8, 78, 79], [1, 2, 6, 7, 8, 78, 79, 80], [1, 2, 6, 7, 8, 13, 78, 79], [1, 2, 6, 7, 8, 78, 79], [1, 2, 6, 7, 8, 78, 79], [1, 6, 7, 8, 90, 91, 92], [1, 6, 7, 8, 90, 91, 92], [1, 6, 7, 8, 90, 91, 92, 93], [1, 6, 7, 8, 14, 15, 90, 91, 92], [1, 6, 7, 8, 14, 15, 90, 91, 92, 98], [1, 6, 7, 8, 14, 15, 90, 91, 92], [1, 6, 7, 8, 14, 15, 90, 91, 92, 110], [1, 6, 7, 8, 14, 15, 90, 91, 92], [1, 6, 7, 8, 14, 15, 90, 91, 92, 123], [1, 6, 7, 8, 90, 91, 92], [1, 6, 7, 8, 14, 15, 90, 91, 92, 145], [1, 6, 7, 8, 90, 91, 92], [1, 6, 7, 8, 90, 91, 92], [6]] = some c278 := by kernel_rfl
set_option maxRecDepth 100000 in
theorem many_c279 : cFunc Tryd.prog manyNames.ψ Tryd.f38 [[2, 3], [4]] = some c279 := by kernel_rfl
set_option maxRecDepth 100000 in
theorem many_c103 : cFunc Tryd.prog manyNames.ψ Tryd.f39 [[0], [0, 8], [2], [2]] = some c103 := by kernel_rfl
set_option maxRecDepth 100000 in
theorem many_c99 : cFunc Tryd.prog manyNames.ψ Tryd.f40 [[0], [0, 4], [2], [2]] = some c99 := by kernel_rfl
set_option maxRecDepth 100000 in
theorem many_c244 : cFunc Tryd.prog manyNames.ψ Tryd.f54 [[0, 1], [0, 1, 7, 8], [0, 1, 7, 8], [0, 1, 7, 8, 9], [0, 1, 5, 7, 8], [0, 1, 5, 7, 8, 16], [4], [0, 1, 7, 8], [4]] = some c244 := by kernel_rfl
set_option maxRecDepth 100000 in
theorem many_c245 : cFunc Tryd.prog manyNames.ψ Tryd.f55 [[1, 2], [3]] = some c245 := by kernel_rfl
set_option maxRecDepth 100000 in
theorem many_c283 : cFunc Tryd.prog manyNames.ψ Tryd.f56 [[1, 2, 3], [2, 8, 9], [2, 8, 21], [6, 7], [2, 8, 22, 23, 24], [2, 8, 22, 23, 24], [2, 8, 22, 23, 24, 25], [2, 8, 10, 11, 22, 23, 24], [2, 8, 10, 13, 22, 23, 24], [2, 8, 10, 22, 23, 24, 36], [6, 7], [2, 8, 22, 23, 24], [6, 7]] = some c283 := by kernel_rfl
set_option maxRecDepth 100000 in
theorem many_c46 : cFunc Tryd.prog manyNames.ψ Tryd.f57 [[0], [2]] = some c46 := by kernel_rfl
set_option maxRecDepth 100000 in
theorem many_c284 : cFunc Tryd.prog manyNames.ψ Tryd.f58 [[0], [2]] = some c284 := by kernel_rfl
set_option maxRecDepth 100000 in
theorem many_c147 : cFunc Tryd.prog manyNames.ψ Tryd.f59 [[1], [1, 3], [3, 7, 8, 9], [3, 7, 8, 9], [3, 7, 8, 9, 10], [3, 4, 5, 7, 8, 9], [3, 7, 8, 9], [3, 7, 8, 9], [2]] = some c147 := by kernel_rfl
set_option maxRecDepth 100000 in
theorem many_c180 : cFunc Tryd.prog manyNames.ψ Tryd.f60 [[0, 1], [0, 1, 10], [0, 1], [0, 5, 6], [0, 6, 26], [0, 6], [0, 7], [7, 8], [7, 8], [7, 8, 37], [7, 8], [4]] = some c180 := by kernel_rfl
set_option maxRecDepth 100000 in
theorem many_c79 : cFunc Tryd.prog manyNames.ψ Tryd.f61 [[2, 3], [4]] = some c79 := by kernel_rfl
set_option maxRecDepth 100000 in
theorem many_c142 : cFunc Tryd.prog manyNames.ψ Tryd.f69 [[0], [0, 3], [3, 6, 7, 8], [3, 6, 7, 8], [3, 6, 7, 8, 9], [3, 5, 6, 7, 8], [3, 5, 6, 7, 8, 14], [2], [3, 6, 7, 8], [2]] = some c142 := by kernel_rfl
set_option maxRecDepth 100000 in
theorem many_c88 : cFunc Tryd.prog manyNames.ψ Tryd.f71 [[1, 2], [1, 2, 18], [4, 5], [1, 2, 6], [1, 2, 6, 24], [1, 2, 6, 24], [1, 2, 6, 24, 25], [1, 2, 6, 7, 24], [1, 2, 6, 7, 24], [1, 2, 6, 7, 24], [1, 2, 6, 24], [1, 2, 6, 24], [6], [4, 5]] = some c88 := by kernel_rfl
set_option maxRecDepth 100000 in
theorem many_c161 : cFunc Tryd.prog manyNames.ψ Tryd.f72 [[0, 1, 4], [0, 1, 4, 11], [4, 5], [0, 1, 4, 6], [0, 1, 4, 6, 21], [0, 1, 4, 6], [0, 1, 4, 6, 27], [0, 1, 4, 6], [0, 1, 4, 6], [0, 4, 6], [4, 6], [4, 5]] = some c161 := by kernel_rfl
set_option maxRecDepth 100000 in
theorem many_c92 : cFunc Tryd.prog manyNames.ψ Tryd.f73 [[0], [0, 4], [2], [2]] = some c92 := by kernel_rfl
set_option maxRecDepth 100000 in
theorem many_c159 : cFunc Tryd.prog manyNames.ψ Tryd.f74 [[0], [0, 3], [0, 3, 13], [0, 3, 13], [0, 3, 13, 14], [0, 3, 4, 13], [0, 3, 4, 5, 6, 13], [0, 3, 4, 6, 7, 13], [0, 3, 4, 13, 52], [0, 3, 4, 13], [0, 3, 4, 13, 70], [0, 3, 4, 13], [0, 3, 4, 13, 75], [0, 3, 4, 13, 75], [0, 3, 4, 13, 75, 76], [0, 3, 4, 8, 13, 75], [0, 3, 4, 8, 12, 13, 75], [0, 3, 4, 8, 13, 75, 98], [0, 3, 4, 13, 75], [0, 3, 4, 13, 75], [0, 3, 13], [2]] = some c159 := by kernel_rfl
set_option maxRecDepth 100000 in
theorem many_c223 : cFunc Tryd.prog manyNames.ψ Tryd.f75 [[0, 1], [6, 7], [4, 5], [8, 9], [4, 5]] = some c223 := by kernel_rfl
set_option maxRecDepth 100000 in
theorem many_c143 : cFunc Tryd.prog manyNames.ψ Tryd.f76 [[0, 1, 2], [0, 1, 2, 11, 12, 13], [0, 1, 2, 11, 12, 13], [0, 1, 2, 11, 12, 13, 14], [0, 1, 2, 7, 8, 11, 12, 13], [0, 1, 2, 7, 8, 11, 12, 13, 21], [6], [0, 1, 2, 8, 9, 11, 12, 13], [0, 1, 2, 10, 11, 12, 13], [0, 1, 2, 10, 11, 12, 13, 31], [6], [0, 1, 2, 11, 12, 13], [38], [6], [6]] = some c143 := by kernel_rfl
set_option maxRecDepth 100000 in
theorem many_c144 : cFunc Tryd.prog manyNames.ψ Tryd.f77 [[2, 3], [4]] = some c144 := by kernel_rfl
set_option maxRecDepth 100000 in
theorem many_c145 : cFunc Tryd.prog manyNames.ψ Tryd.f78 [[0, 1], [0, 1, 9, 10, 11], [0, 1, 9, 10, 11], [0, 1, 9, 10, 11, 12], [0, 1, 5, 6, 9, 10, 11], [0, 1, 5, 6, 9, 10, 11, 19], [4], [0, 1, 6, 7, 9, 10, 11], [0, 1, 8, 9, 10, 11], [0, 1, 8, 9, 10, 11, 28], [4], [0, 1, 9, 10, 11], [35], [4], [4]] = some c145 := by kernel_rfl
set_option maxRecDepth 100000 in
theorem many_c146 : cFunc Tryd.prog manyNames.ψ Tryd.f79 [[0, 1, 2], [0, 1, 2, 11, 12, 13], [0, 1, 2, 11, 12, 13], [0, 1, 2, 11, 12, 13, 14], [0, 1, 2, 7, 8, 11, 12, 13], [0, 1, 2, 7, 8, 11, 12, 13, 21], [6], [0, 1, 2, 8, 9, 11, 12, 13], [0, 1, 2, 10, 11, 12, 13], [0, 1, 2, 10, 11, 12, 13, 31], [6], [0, 1, 2, 11, 12, 13], [38], [6], [6]] = some c146 := by kernel_rfl
set_option maxRecDepth 100000 in
theorem many_c198 : cFunc Tryd.prog manyNames.ψ Tryd.f96 [[0, 1], [0, 1, 5], [0, 1, 5, 6], [0, 1, 6, 11], [12], [4], [4], [0, 1, 13], [4], [0, 1, 16], [4], [19], [4], [4]] = some c198 := by kernel_rfl
set_option maxRecDepth 100000 in
theorem many_c59 : cFunc Tryd.prog manyNames.ψ Tryd.f97 [[1], [1, 37], [2], [1, 39, 40, 41], [1, 39, 40, 41], [1, 39, 40, 41, 42], [1, 3, 4, 39, 40, 41], [1, 39, 40, 41, 63], [2], [1, 39, 40, 41], [1, 5], [5, 67, 68, 69], [5, 67, 68, 69], [5, 67, 68, 69, 70], [5, 7, 67, 68, 69], [5, 67, 68, 69, 85], [2], [5, 67, 68, 69], [2]] = some c59 := by kernel_rfl
set_option maxRecDepth 100000 in
theorem many_c158 : cFunc Tryd.prog manyNames.ψ Tryd.f98 [[1, 2], [1, 2, 3], [2, 3, 14, 15, 16], [2, 3, 14, 15, 16], [2, 3, 14, 15, 16, 17], [2, 3, 5, 14, 15, 16], [2, 3, 14, 15, 16], [2, 3, 14, 15, 16], [2]] = some c158 := by kernel_rfl
set_option maxRecDepth 100000 in
theorem many_c60 : cFunc Tryd.prog manyNames.ψ Tryd.f99 [[1, 2, 4], [4]] = some c60 := by kernel_rfl
set_option maxRecDepth 100000 in
theorem many_c4 : cFunc Tryd.prog manyNames.ψ Tryd.f100 [[0, 2], [0, 2, 8], [0, 2], [2]] = some c4 := by kernel_rfl
set_option maxRecDepth 100000 in
theorem many_c211 : cFunc Tryd.prog manyNames.ψ Tryd.f101 [[0, 1, 4], [0, 1, 4, 5], [0, 1, 4, 5, 6], [0, 1, 4, 5, 6, 8, 9], [0, 1, 4, 5, 6, 8, 9, 10, 11, 12], [0, 1, 4, 5, 6, 8, 9, 10, 11, 59], [0, 1, 4, 5, 6, 8, 9], [0, 1, 4, 5, 8, 9, 13, 14], [0, 1, 4, 5, 8, 9, 13, 70], [0, 1, 4, 5, 8, 9, 13], [0, 1, 4, 5, 8, 9, 13, 15], [0, 1, 4, 5, 8, 9, 13, 15, 76], [0, 1, 4, 5, 8, 9, 13], [0, 1, 4, 5, 8, 9, 13, 15, 104], [0, 1, 4, 5, 8, 9, 13], [1, 4, 9, 13], [4]] = some c211 := by kernel_rfl
set_option maxRecDepth 100000 in
theorem many_c212 : cFunc Tryd.prog manyNames.ψ Tryd.f102 [[0, 1, 2, 6], [0, 1, 2, 6, 7, 8, 9], [0, 1, 6, 7, 8, 9], [1, 6, 7, 8, 9], [6]] = some c212 := by kernel_rfl
set_option maxRecDepth 100000 in
theorem many_c113 : cFunc Tryd.prog manyNames.ψ Tryd.f103 [[1, 3, 5, 6], [5, 6, 8], [5, 6, 8, 22], [6, 7], [6, 9], [6, 9, 36], [6, 7], [6, 7]] = some c113 := by kernel_rfl
set_option maxRecDepth 100000 in
theorem many_c8 : cFunc Tryd.prog manyNames.ψ Tryd.f104 [[1], [2]] = some c8 := by kernel_rfl
set_option maxRecDepth 100000 in
theorem many_c11 : cFunc Tryd.prog manyNames.ψ Tryd.f105 [[1, 2], [2, 8], [2, 8, 13], [4, 5, 6, 7], [4, 5, 6, 7]] = some c11 := by kernel_rfl
set_option maxRecDepth 100000 in
theorem many_c249 : cFunc Tryd.prog manyNames.ψ Tryd.f106 [[0, 1], [6], [4, 5]] = some c249 := by kernel_rfl
set_option maxRecDepth 100000 in
theorem many_c250 : cFunc Tryd.prog manyNames.ψ Tryd.f107 [[0, 1], [0, 1, 6], [0, 1, 6, 7], [0, 1, 6, 7, 8], [0, 1, 6, 7, 8, 9], [0, 1, 6, 7, 8, 9, 10], [0, 1, 6, 7, 9, 11], [0, 1, 6, 7, 9, 11, 12], [0, 1, 6, 7, 9, 12, 13], [0, 1, 7, 9, 12, 13], [0, 1, 4], [4, 5]] = some c250 := by kernel_rfl
set_option maxRecDepth 100000 in
theorem many_c197 : cFunc Tryd.prog manyNames.ψ Tryd.f108 [[0, 1], [0, 1, 5], [0, 1, 5, 6], [0, 1, 6, 11], [12], [4], [4], [0, 1, 13], [4], [0, 1, 16], [4], [19], [4], [4]] = some c197 := by kernel_rfl
set_option maxRecDepth 100000 in
theorem many_c230 : cFunc Tryd.prog manyNames.ψ Tryd.f118 [[0], [2]] = some c230 := by kernel_rfl
set_option maxRecDepth 100000 in
theorem many_c104 : cFunc Tryd.prog manyNames.ψ Tryd.f119 [[1], [1, 3], [3, 7, 8, 9], [3, 7, 8, 9], [3, 7, 8, 9, 10], [3, 5, 7, 8, 9], [3, 7, 8, 9], [3, 7, 8, 9], [2]] = some c104 := by kernel_rfl
set_option maxRecDepth 100000 in
theorem many_c105 : cFunc Tryd.prog manyNames.ψ Tryd.f120 [[0], [2]] = some c105 := by kernel_rfl
set_option maxRecDepth 100000 in
theorem many_c106 : cFunc Tryd.prog manyNames.ψ Tryd.f121 [[0, 1], [3]] = some c106 := by kernel_rfl
set_option maxRecDepth 100000 in
theorem many_c107 : cFunc Tryd.prog manyNames.ψ Tryd.f122 [[0], [0, 5, 6, 7], [0, 5, 6, 7], [0, 5, 6, 7, 8], [0, 3, 4, 5, 6, 7], [0, 5, 6, 7, 29], [2], [0, 5, 6, 7], [2]] = some c107 := by kernel_rfl
set_option maxRecDepth 100000 in
theorem many_c108 : cFunc Tryd.prog manyNames.ψ Tryd.f123 [[0, 1], [4]] = some c108 := by kernel_rfl
set_option maxRecDepth 100000 in
theorem many_c109 : cFunc Tryd.prog manyNames.ψ Tryd.f124 [[1, 2], [3]] = some c109 := by kernel_rfl
set_option maxRecDepth 100000 in
theorem many_c110 : cFunc Tryd.prog manyNames.ψ Tryd.f125 [[1, 2], [1, 2, 5], [1, 2, 5, 6], [1, 2, 5, 6, 11], [1, 2, 5, 6, 11, 12], [1, 2, 5], [2, 5, 6], [1, 2, 5, 6, 11, 29], [1, 2, 5], [2, 5, 6], [1, 2, 5, 6, 11, 46], [1, 2, 5, 11, 48], [1, 2, 5], [2, 5, 6], [2, 5, 11, 81], [2, 5], [2, 5, 6], [2, 5, 129], [2, 5], [2, 5, 6], [4], [4]] = some c110 := by kernel_rfl
set_option maxRecDepth 100000 in
theorem many_c208 : cFunc Tryd.prog manyNames.ψ Tryd.f126 [[0], [0, 4], [2], [2]] = some c208 := by kernel_rfl
set_option maxRecDepth 100000 in
theorem many_c209 : cFunc Tryd.prog manyNames.ψ Tryd.f127 [[0], [0, 4], [2], [2]] = some c209 := by kernel_rfl
set_option maxRecDepth 100000 in
theorem many_c210 : cFunc Tryd.prog manyNames.ψ Tryd.f128 [[0], [0, 4], [2], [2]] = some c210 := by kernel_rfl
set_option maxRecDepth 100000 in
theorem many_c111 : cFunc Tryd.prog manyNames.ψ Tryd.f129 [[0, 3, 4], [0, 3, 4], [0, 3, 4, 19], [0, 3, 4, 5], [0, 3, 4, 5, 6, 7], [0, 3, 4, 5, 6, 7, 34], [0, 3, 4, 5, 6, 7, 34, 36], [0, 3, 4, 5, 6, 8, 9], [0, 3, 4, 5, 6, 8, 46], [0, 3, 4, 5, 6], [0, 3, 4], [0, 3, 4, 5, 6, 7, 52], [0, 3, 4, 5, 56], [0, 3, 4], [4], [0, 3, 4], [4]] = some c111 := by kernel_rfl
set_option maxRecDepth 100000 in
theorem many_c112 : cFunc Tryd.prog manyNames.ψ Tryd.f130 [[1, 2], [1, 2, 13], [4], [4]] = some c112 := by kernel_rfl
set_option maxRecDepth 100000 in
theorem many_c14 : cFunc Tryd.prog manyNames.ψ Tryd.f131 [[1, 2], [1, 2, 7], [1, 2, 7], [1, 2, 7, 12], [1, 2, 7, 21], [4, 5, 6], [1, 2, 7], [4, 5, 6]] = some c14 := by kernel_rfl
set_option maxRecDepth 100000 in
theorem many_c114 : cFunc Tryd.prog manyNames.ψ Tryd.f132 [[2, 3, 4, 6], [2, 3, 4, 6, 9], [2, 3, 4, 6, 9, 10], [6, 7], [2, 3, 4, 6, 9, 19], [6, 7], [2, 3, 4, 6, 25], [2, 3, 4, 6, 32], [6, 7], [6, 7], [6, 7]] = some c114 := by kernel_rfl
set_option maxRecDepth 100000 in
theorem many_c5 : cFunc Tryd.prog manyNames.ψ Tryd.f133 [[1, 2, 3, 4, 8], [1, 2, 3, 4, 8, 24], [8], [4, 8], [4, 8], [8]] = some c5 := by kernel_rfl
set_option maxRecDepth 100000 in
theorem many_c101 : cFunc Tryd.prog manyNames.ψ Tryd.f134 [[1], [2]] = some c101 := by kernel_rfl
set_option maxRecDepth 100000 in
theorem many_c116 : cFunc Tryd.prog manyNames.ψ Tryd.f135 [[1, 3, 4, 6, 8], [1, 3, 4, 6, 8, 9, 10], [1, 3, 4, 6, 8, 9, 19], [8], [1, 3, 4, 6, 8, 9, 28], [1, 4, 6, 8], [1, 4, 6, 8], [8]] = some c116 := by kernel_rfl
set_option maxRecDepth 100000 in
theorem many_c10 : cFunc Tryd.prog manyNames.ψ Tryd.f136 [[1, 2, 4], [2, 4, 5], [2, 4, 5, 10], [4], [2, 4], [2, 4], [2, 4], [4]] = some c10 := by kernel_rfl
set_option maxRecDepth 100000 in
theorem many_c15 : cFunc Tryd.prog manyNames.ψ Tryd.f137 [[1, 2], [1, 2, 7, 8], [1, 2, 7, 8], [1, 2, 7, 8, 9], [1, 2, 5, 7, 8], [1, 2, 5, 7, 8, 22], [4], [1, 2, 7, 8], [4]] = some c15 := by kernel_rfl
set_option maxRecDepth 100000 in
theorem many_c229 : cFunc Tryd.prog manyNames.ψ Tryd.f138 [[0], [2]] = some c229 := by kernel_rfl
set_option maxRecDepth 100000 in
theorem many_c171 : cFunc Tryd.prog manyNames.ψ Tryd.f141 [[0, 1], [0, 1, 7, 8], [0, 1, 7, 8], [0, 1, 7, 8, 9], [0, 1, 5, 7, 8], [0, 1, 5, 7, 8, 16], [4], [0, 1, 7, 8], [4]] = some c171 := by kernel_rfl
set_option maxRecDepth 100000 in
theorem many_c172 : cFunc Tryd.prog manyNames.ψ Tryd.f142 [[1], [2]] = some c172 := by kernel_rfl
set_option maxRecDepth 100000 in
theorem many_c173 : cFunc Tryd.prog manyNames.ψ Tryd.f143 [[0], [2]] = some c173 := by kernel_rfl
set_option maxRecDepth 100000 in
theorem many_c174 : cFunc Tryd.prog manyNames.ψ Tryd.f144 [[2, 3], [2, 3, 12], [4], [4]] = some c174 := by kernel_rfl
set_option maxRecDepth 100000 in
theorem many_c175 : cFunc Tryd.prog manyNames.ψ Tryd.f145 [[0, 1, 2], [0, 1, 2, 8], [1, 2, 8, 12], [1, 2, 8, 12, 13], [6, 7], [1, 2, 8, 12, 18], [6, 7], [1, 2, 8, 12, 23], [6, 7], [1, 2, 8, 12, 28], [6, 7], [1, 2, 8, 12, 33], [6, 7], [1, 2, 8, 12, 38], [6, 7], [1, 2, 8, 12, 43], [6, 7], [1, 2, 8, 12, 48], [6, 7], [1, 2, 12, 53], [6, 7], [1, 2, 12, 59], [6, 7], [1, 2, 65], [6, 7], [6, 7]] = some c175 := by kernel_rfl
set_option maxRecDepth 100000 in
theorem many_c176 : cFunc Tryd.prog manyNames.ψ Tryd.f146 [[0, 1, 2, 11], []] = some c176 := by kernel_rfl
set_option maxRecDepth 100000 in
theorem many_c222 : cFunc Tryd.prog manyNames.ψ Tryd.f147 [[0], [3], [2], [2]] = some c222 := by kernel_rfl

theorem manyKnown : Known Tryd.prog manyNames manyG where
  ok := by kernel_rfl
  calls := by
    intro x hx
    simp only [manyNames, List.mem_cons, List.not_mem_nil, or_false] at hx
    rcases hx with rfl | rfl | rfl | rfl | rfl | rfl | rfl | rfl | rfl | rfl | rfl | rfl | rfl | rfl | rfl | rfl | rfl | rfl | rfl | rfl | rfl | rfl | rfl | rfl | rfl | rfl | rfl | rfl | rfl | rfl | rfl | rfl | rfl | rfl | rfl | rfl | rfl | rfl | rfl | rfl | rfl | rfl | rfl | rfl | rfl | rfl | rfl | rfl | rfl | rfl | rfl | rfl | rfl | rfl | rfl | rfl | rfl | rfl | rfl | rfl | rfl | rfl | rfl | rfl | rfl | rfl | rfl | rfl | rfl | rfl | rfl | rfl | rfl | rfl | rfl | rfl | rfl | rfl | rfl | rfl | rfl | rfl | rfl | rfl | rfl | rfl
    · exact Tryd.call3
    · exact Tryd.call5
    · exact Tryd.call6
    · exact Tryd.call7
    · exact Tryd.call8
    · exact Tryd.call9
    · exact Tryd.call14
    · exact Tryd.call15
    · exact Tryd.call16
    · exact Tryd.call17
    · exact Tryd.call18
    · exact Tryd.call19
    · exact Tryd.call20
    · exact Tryd.call21
    · exact Tryd.call22
    · exact Tryd.call23
    · exact Tryd.call24
    · exact Tryd.call25
    · exact Tryd.call26
    · exact Tryd.call34
    · exact Tryd.call35
    · exact Tryd.call36
    · exact Tryd.call37
    · exact Tryd.call38
    · exact Tryd.call39
    · exact Tryd.call40
    · exact Tryd.call54
    · exact Tryd.call55
    · exact Tryd.call56
    · exact Tryd.call57
    · exact Tryd.call58
    · exact Tryd.call59
    · exact Tryd.call60
    · exact Tryd.call61
    · exact Tryd.call62
    · exact Tryd.call69
    · exact Tryd.call71
    · exact Tryd.call72
    · exact Tryd.call73
    · exact Tryd.call74
    · exact Tryd.call75
    · exact Tryd.call76
    · exact Tryd.call77
    · exact Tryd.call78
    · exact Tryd.call79
    · exact Tryd.call96
    · exact Tryd.call97
    · exact Tryd.call98
    · exact Tryd.call99
    · exact Tryd.call100
    · exact Tryd.call101
    · exact Tryd.call102
    · exact Tryd.call103
    · exact Tryd.call104
    · exact Tryd.call105
    · exact Tryd.call106
    · exact Tryd.call107
    · exact Tryd.call108
    · exact Tryd.call118
    · exact Tryd.call119
    · exact Tryd.call120
    · exact Tryd.call121
    · exact Tryd.call122
    · exact Tryd.call123
    · exact Tryd.call124
    · exact Tryd.call125
    · exact Tryd.call126
    · exact Tryd.call127
    · exact Tryd.call128
    · exact Tryd.call129
    · exact Tryd.call130
    · exact Tryd.call131
    · exact Tryd.call132
    · exact Tryd.call133
    · exact Tryd.call134
    · exact Tryd.call135
    · exact Tryd.call136
    · exact Tryd.call137
    · exact Tryd.call138
    · exact Tryd.call141
    · exact Tryd.call142
    · exact Tryd.call143
    · exact Tryd.call144
    · exact Tryd.call145
    · exact Tryd.call146
    · exact Tryd.call147
  code := by
    intro x hx
    simp only [manyNames, List.mem_cons, List.not_mem_nil, or_false] at hx
    rcases hx with rfl | rfl | rfl | rfl | rfl | rfl | rfl | rfl | rfl | rfl | rfl | rfl | rfl | rfl | rfl | rfl | rfl | rfl | rfl | rfl | rfl | rfl | rfl | rfl | rfl | rfl | rfl | rfl | rfl | rfl | rfl | rfl | rfl | rfl | rfl | rfl | rfl | rfl | rfl | rfl | rfl | rfl | rfl | rfl | rfl | rfl | rfl | rfl | rfl | rfl | rfl | rfl | rfl | rfl | rfl | rfl | rfl | rfl | rfl | rfl | rfl | rfl | rfl | rfl | rfl | rfl | rfl | rfl | rfl | rfl | rfl | rfl | rfl | rfl | rfl | rfl | rfl | rfl | rfl | rfl | rfl | rfl | rfl | rfl | rfl | rfl
    · exact .inl ⟨_, _, Tryd.func3, many_c267⟩
    · exact .inl ⟨_, _, Tryd.func5, many_c91⟩
    · exact .inl ⟨_, _, Tryd.func6, many_c137⟩
    · exact .inl ⟨_, _, Tryd.func7, many_c269⟩
    · exact .inl ⟨_, _, Tryd.func8, many_c139⟩
    · exact .inl ⟨_, _, Tryd.func9, many_c138⟩
    · exact .inl ⟨_, _, Tryd.func14, many_c38⟩
    · exact .inl ⟨_, _, Tryd.func15, many_c164⟩
    · exact .inl ⟨_, _, Tryd.func16, many_c165⟩
    · exact .inl ⟨_, _, Tryd.func17, many_c56⟩
    · exact .inl ⟨_, _, Tryd.func18, many_c166⟩
    · exact .inl ⟨_, _, Tryd.func19, many_c167⟩
    · exact .inl ⟨_, _, Tryd.func20, many_c57⟩
    · exact .inl ⟨_, _, Tryd.func21, many_c272⟩
    · exact .inl ⟨_, _, Tryd.func22, many_c20⟩
    · exact .inl ⟨_, _, Tryd.func23, many_c273⟩
    · exact .inl ⟨_, _, Tryd.func24, many_c98⟩
    · exact .inl ⟨_, _, Tryd.func25, many_c58⟩
    · exact .inl ⟨_, _, Tryd.func26, many_c54⟩
    · exact .inl ⟨_, _, Tryd.func34, many_c102⟩
    · exact .inl ⟨_, _, Tryd.func35, many_c213⟩
    · exact .inl ⟨_, _, Tryd.func36, many_c277⟩
    · exact .inl ⟨_, _, Tryd.func37, many_c278⟩
    · exact .inl ⟨_, _, Tryd.func38, many_c279⟩
    · exact .inl ⟨_, _, Tryd.func39, many_c103⟩
    · exact .inl ⟨_, _, Tryd.func40, many_c99⟩
    · exact .inl ⟨_, _, Tryd.func54, many_c244⟩
    · exact .inl ⟨_, _, Tryd.func55, many_c245⟩
    · exact .inl ⟨_, _, Tryd.func56, many_c283⟩
    · exact .inl ⟨_, _, Tryd.func57, many_c46⟩
    · exact .inl ⟨_, _, Tryd.func58, many_c284⟩
    · exact .inl ⟨_, _, Tryd.func59, many_c147⟩
    · exact .inl ⟨_, _, Tryd.func60, many_c180⟩
    · exact .inl ⟨_, _, Tryd.func61, many_c79⟩
    · exact .inr ⟨0, rfl⟩
    · exact .inl ⟨_, _, Tryd.func69, many_c142⟩
    · exact .inl ⟨_, _, Tryd.func71, many_c88⟩
    · exact .inl ⟨_, _, Tryd.func72, many_c161⟩
    · exact .inl ⟨_, _, Tryd.func73, many_c92⟩
    · exact .inl ⟨_, _, Tryd.func74, many_c159⟩
    · exact .inl ⟨_, _, Tryd.func75, many_c223⟩
    · exact .inl ⟨_, _, Tryd.func76, many_c143⟩
    · exact .inl ⟨_, _, Tryd.func77, many_c144⟩
    · exact .inl ⟨_, _, Tryd.func78, many_c145⟩
    · exact .inl ⟨_, _, Tryd.func79, many_c146⟩
    · exact .inl ⟨_, _, Tryd.func96, many_c198⟩
    · exact .inl ⟨_, _, Tryd.func97, many_c59⟩
    · exact .inl ⟨_, _, Tryd.func98, many_c158⟩
    · exact .inl ⟨_, _, Tryd.func99, many_c60⟩
    · exact .inl ⟨_, _, Tryd.func100, many_c4⟩
    · exact .inl ⟨_, _, Tryd.func101, many_c211⟩
    · exact .inl ⟨_, _, Tryd.func102, many_c212⟩
    · exact .inl ⟨_, _, Tryd.func103, many_c113⟩
    · exact .inl ⟨_, _, Tryd.func104, many_c8⟩
    · exact .inl ⟨_, _, Tryd.func105, many_c11⟩
    · exact .inl ⟨_, _, Tryd.func106, many_c249⟩
    · exact .inl ⟨_, _, Tryd.func107, many_c250⟩
    · exact .inl ⟨_, _, Tryd.func108, many_c197⟩
    · exact .inl ⟨_, _, Tryd.func118, many_c230⟩
    · exact .inl ⟨_, _, Tryd.func119, many_c104⟩
    · exact .inl ⟨_, _, Tryd.func120, many_c105⟩
    · exact .inl ⟨_, _, Tryd.func121, many_c106⟩
    · exact .inl ⟨_, _, Tryd.func122, many_c107⟩
    · exact .inl ⟨_, _, Tryd.func123, many_c108⟩
    · exact .inl ⟨_, _, Tryd.func124, many_c109⟩
    · exact .inl ⟨_, _, Tryd.func125, many_c110⟩
    · exact .inl ⟨_, _, Tryd.func126, many_c208⟩
    · exact .inl ⟨_, _, Tryd.func127, many_c209⟩
    · exact .inl ⟨_, _, Tryd.func128, many_c210⟩
    · exact .inl ⟨_, _, Tryd.func129, many_c111⟩
    · exact .inl ⟨_, _, Tryd.func130, many_c112⟩
    · exact .inl ⟨_, _, Tryd.func131, many_c14⟩
    · exact .inl ⟨_, _, Tryd.func132, many_c114⟩
    · exact .inl ⟨_, _, Tryd.func133, many_c5⟩
    · exact .inl ⟨_, _, Tryd.func134, many_c101⟩
    · exact .inl ⟨_, _, Tryd.func135, many_c116⟩
    · exact .inl ⟨_, _, Tryd.func136, many_c10⟩
    · exact .inl ⟨_, _, Tryd.func137, many_c15⟩
    · exact .inl ⟨_, _, Tryd.func138, many_c229⟩
    · exact .inl ⟨_, _, Tryd.func141, many_c171⟩
    · exact .inl ⟨_, _, Tryd.func142, many_c172⟩
    · exact .inl ⟨_, _, Tryd.func143, many_c173⟩
    · exact .inl ⟨_, _, Tryd.func144, many_c174⟩
    · exact .inl ⟨_, _, Tryd.func145, many_c175⟩
    · exact .inl ⟨_, _, Tryd.func146, many_c176⟩
    · exact .inl ⟨_, _, Tryd.func147, many_c222⟩

end Go.Jq

