/- Each function of this translation has the small code that was printed for it. -/
import Derived.Test.YthooijibekdekaaGreatDoorRows
import Derived.KernelRfl
import Derived.Test.YthooijibekdekaaGreatDoorM3
import Derived.Test.YthooijibekdekaaGreatDoorC2
set_option linter.unusedSimpArgs false
set_option linter.unusedVariables false
namespace Go.Jq
open Go.Proofs
def ecNames : Names := [(17, 3), (22, 4), (23, 5), (31, 6), (37, 7), (33, 8), (38, 9), (39, 10), (36, 11), (40, 12), (41, 13), (59, 14), (60, 15), (61, 16), (62, 17), (63, 18), (64, 19), (65, 20), (66, 21), (53, 22), (67, 23), (68, 24), (69, 25), (70, 26), (78, 27), (79, 28), (80, 29), (81, 30), (82, 31), (83, 32), (84, 33), (85, 34), (86, 35), (87, 36), (104, 37), (105, 38), (106, 39), (107, 40), (108, 41), (109, 42), (110, 43), (111, 44), (112, 45), (113, 46), (114, 47), (115, 48), (116, 49), (117, 50), (118, 51), (119, 52), (120, 53), (101, 54), (99, 55), (102, 56), (121, 57), (58, 58), (122, 59), (98, 60), (123, 61), (124, 62), (140, 63), (141, 64), (142, 65), (143, 66), (144, 67), (145, 68), (146, 69), (147, 70), (148, 71), (100, 72), (149, 73), (52, 74), (56, 75), (30, 76), (150, 77), (151, 78), (152, 79), (153, 80), (154, 81), (171, 85), (172, 86), (173, 87), (174, 88), (175, 89), (176, 90), (177, 91), (178, 92), (179, 93), (180, 94), (181, 95), (170, 96), (103, 97), (187, 98), (188, 99), (189, 100), (190, 101), (191, 102), (192, 103), (193, 104), (194, 105), (195, 106), (196, 107), (197, 108), (198, 109), (199, 110), (57, 111), (200, 112), (201, 113), (222, 120), (223, 121), (224, 122), (225, 123), (226, 124), (227, 125), (228, 126), (229, 127), (230, 128), (231, 129), (232, 130), (233, 131), (234, 132), (235, 133), (236, 134), (237, 135), (238, 136), (239, 137), (249, 144), (250, 145), (251, 146), (252, 147), (253, 148), (254, 149), (257, 151)]
def ecG : Nat → SFunc
  | 17 => c17
  | 22 => c22
  | 23 => c23
  | 31 => c31
  | 37 => c37
  | 33 => c33
  | 38 => c38
  | 39 => c39
  | 36 => c36
  | 40 => c40
  | 41 => c41
  | 59 => c59
  | 60 => c60
  | 61 => c61
  | 62 => c62
  | 63 => c63
  | 64 => c64
  | 65 => c65
  | 66 => c66
  | 53 => c53
  | 67 => c67
  | 68 => c68
  | 69 => c69
  | 70 => c70
  | 78 => c78
  | 79 => c79
  | 80 => c80
  | 81 => c81
  | 82 => c82
  | 83 => c83
  | 84 => c84
  | 85 => c85
  | 86 => c86
  | 87 => c87
  | 104 => c104
  | 105 => c105
  | 106 => c106
  | 107 => c107
  | 108 => c108
  | 109 => c109
  | 110 => c110
  | 111 => c111
  | 112 => c112
  | 113 => c113
  | 114 => c114
  | 115 => c115
  | 116 => c116
  | 117 => c117
  | 118 => c118
  | 119 => c119
  | 120 => c120
  | 101 => c101
  | 99 => c99
  | 102 => c102
  | 121 => c121
  | 58 => c58
  | 122 => c122
  | 98 => c98
  | 123 => c123
  | 124 => c124
  | 140 => c140
  | 141 => c141
  | 142 => c142
  | 143 => c143
  | 144 => c144
  | 145 => c145
  | 146 => c146
  | 147 => c147
  | 148 => c148
  | 100 => c100
  | 149 => c149
  | 52 => c52
  | 56 => c56
  | 30 => c30
  | 150 => c150
  | 151 => c151
  | 152 => c152
  | 153 => c153
  | 154 => c154
  | 171 => c171
  | 172 => c172
  | 173 => c173
  | 174 => c174
  | 175 => c175
  | 176 => c176
  | 177 => c177
  | 178 => c178
  | 179 => c179
  | 180 => c180
  | 181 => c181
  | 170 => c170
  | 103 => c103
  | 187 => c187
  | 188 => c188
  | 189 => c189
  | 190 => c190
  | 191 => c191
  | 192 => c192
  | 193 => c193
  | 194 => c194
  | 195 => c195
  | 196 => c196
  | 197 => c197
  | 198 => c198
  | 199 => c199
  | 57 => c57
  | 200 => c200
  | 201 => c201
  | 222 => c222
  | 223 => c223
  | 224 => c224
  | 225 => c225
  | 226 => c226
  | 227 => c227
  | 228 => c228
  | 229 => c229
  | 230 => c230
  | 231 => c231
  | 232 => c232
  | 233 => c233
  | 234 => c234
  | 235 => c235
  | 236 => c236
  | 237 => c237
  | 238 => c238
  | 239 => c239
  | 249 => c249
  | 250 => c250
  | 251 => c251
  | 252 => c252
  | 253 => c253
  | 254 => c254
  | 257 => c257
  | _ => ⟨0, 0, .skip, []⟩
set_option maxRecDepth 100000 in
theorem ec_c17 : cFunc Tryz.prog ecNames.ψ Tryz.f3 [[0], [0], [0, 3], [0, 3, 4], [0, 3, 4, 5], [0, 3, 4, 5], [0, 3, 4, 5, 22], [0, 3, 4, 5], [0, 3, 4, 5], [0, 3, 4, 5], [0, 3, 4, 6, 7], [0, 3, 4, 6, 7], [0, 3, 4, 6, 7, 8, 9], [0, 4, 6, 7, 8, 9, 11], [2]] = some c17 := by kernel_rfl
set_option maxRecDepth 100000 in
theorem ec_c22 : cFunc Tryz.prog ecNames.ψ Tryz.f4 [[2, 3], [2, 3], [2, 3, 6], [3, 6], [6, 16], [4, 5], [6], [4, 5]] = some c22 := by kernel_rfl
set_option maxRecDepth 100000 in
theorem ec_c23 : cFunc Tryz.prog ecNames.ψ Tryz.f5 [[], [1], [1, 2, 3], [0]] = some c23 := by kernel_rfl
set_option maxRecDepth 100000 in
theorem ec_c31 : cFunc Tryz.prog ecNames.ψ Tryz.f6 [[1, 2, 3], [1, 2, 3, 12], [3, 6], [3, 6, 23, 24, 25], [3, 6, 23, 24, 25], [3, 6, 23, 24, 25, 26], [3, 6, 7, 8, 23, 24, 25], [3, 6, 23, 24, 25], [3, 6, 23, 24, 25], [3, 6, 48, 49], [3, 6, 48, 49], [3, 6, 48, 49, 50], [3, 6, 9, 48, 49], [3, 6, 9, 48, 49], [3, 6, 48, 49], [3, 6, 48, 49], []] = some c31 := by kernel_rfl
set_option maxRecDepth 100000 in
theorem ec_c37 : cFunc Tryz.prog ecNames.ψ Tryz.f7 [[0, 1, 2, 3, 4], [7]] = some c37 := by kernel_rfl
set_option maxRecDepth 100000 in
theorem ec_c33 : cFunc Tryz.prog ecNames.ψ Tryz.f8 [[5, 6, 7, 8, 9], [6, 7, 8, 9, 11], [6, 7, 9, 11, 12], [6, 7, 9, 11, 13], [10]] = some c33 := by kernel_rfl
set_option maxRecDepth 100000 in
theorem ec_c38 : cFunc Tryz.prog ecNames.ψ Tryz.f9 [[0, 2], [2]] = some c38 := by kernel_rfl
set_option maxRecDepth 100000 in
theorem ec_c39 : cFunc Tryz.prog ecNames.ψ Tryz.f10 [[1, 2, 3], [1, 2], [4]] = some c39 := by kernel_rfl
set_option maxRecDepth 100000 in
theorem ec_c36 : cFunc Tryz.prog ecNames.ψ Tryz.f11 [[]] = some c36 := by kernel_rfl
set_option maxRecDepth 100000 in
theorem ec_c40 : cFunc Tryz.prog ecNames.ψ Tryz.f12 [[2, 3], [2, 3, 38], [4], [3, 5], [3, 5, 48], [4], [5, 50, 51, 52], [5, 50, 51, 52], [5, 50, 51, 52, 53], [5, 6, 7, 50, 51, 52], [5, 6, 7, 50, 51, 52, 71], [4], [5, 6, 8, 50, 51, 52], [5, 50, 51, 52, 81], [4], [5, 50, 51, 52], [4]] = some c40 := by kernel_rfl
set_option maxRecDepth 100000 in
theorem ec_c41 : cFunc Tryz.prog ecNames.ψ Tryz.f13 [[1], [1, 3], [1, 3, 16, 17, 18], [1, 3, 16, 17, 18], [1, 3, 16, 17, 18, 19], [1, 3, 4, 5, 16, 17, 18], [1, 3, 4, 5, 6, 16, 17, 18], [1, 3, 4, 5, 6, 16, 17, 18, 27], [1, 3, 5, 6, 16, 17, 18], [1, 3, 5, 6, 7, 16, 17, 18], [1, 3, 5, 6, 7, 16, 17, 18, 41, 42, 43], [1, 3, 5, 6, 7, 16, 17, 18, 41, 42, 43], [1, 3, 5, 6, 7, 16, 17, 18, 41, 42, 43, 44], [1, 3, 5, 6, 7, 9, 16, 17, 18, 41, 42, 43], [1, 3, 5, 6, 7, 16, 17, 18, 41, 42, 43], [1, 3, 5, 6, 7, 16, 17, 18, 41, 42, 43], [1, 3, 16, 17, 18], [1, 3, 16, 17, 18], [3, 72, 73, 74], [3, 72, 73, 74], [3, 72, 73, 74, 75], [3, 11, 72, 73, 74], [3, 11, 12, 72, 73, 74], [3, 12, 72, 73, 74, 78, 79, 80], [3, 12, 72, 73, 74, 78, 79, 80], [3, 12, 72, 73, 74, 78, 79, 80, 81], [3, 12, 14, 72, 73, 74, 78, 79, 80], [3, 12, 72, 73, 74, 78, 79, 80], [3, 12, 72, 73, 74, 78, 79, 80], [3, 72, 73, 74], [3, 72, 73, 74], [2]] = some c41 := by kernel_rfl
set_option maxRecDepth 100000 in
theorem ec_c59 : cFunc Tryz.prog ecNames.ψ Tryz.f14 [[1], [1, 37], [2], [1, 39, 40, 41], [1, 39, 40, 41], [1, 39, 40, 41, 42], [1, 3, 4, 39, 40, 41], [1, 39, 40, 41, 63], [2], [1, 39, 40, 41], [1, 5], [5, 67, 68, 69], [5, 67, 68, 69], [5, 67, 68, 69, 70], [5, 7, 67, 68, 69], [5, 67, 68, 69, 85], [2], [5, 67, 68, 69], [2]] = some c59 := by kernel_rfl
set_option maxRecDepth 100000 in
theorem ec_c60 : cFunc Tryz.prog ecNames.ψ Tryz.f15 [[1, 2, 4], [4]] = some c60 := by kernel_rfl
set_option maxRecDepth 100000 in
theorem ec_c61 : cFunc Tryz.prog ecNames.ψ Tryz.f16 [[0, 1, 4], [0, 1, 4], [0, 1, 4, 5, 6], [0, 1, 4, 5, 6], [0, 1, 4, 5, 32], [0, 1, 4, 5, 7, 8], [0, 1, 4, 5, 7, 42], [], [0, 1, 4], [0, 1, 4]] = some c61 := by kernel_rfl
set_option maxRecDepth 100000 in
theorem ec_c62 : cFunc Tryz.prog ecNames.ψ Tryz.f17 [[0], [0, 3], [0, 3, 4], [0, 3, 4], [0, 3, 4, 21, 22, 23], [0, 3, 4, 21, 22, 23], [0, 3, 4, 21, 22, 23, 24], [0, 3, 4, 5, 6, 21, 22, 23], [0, 3, 4, 5, 6, 21, 22, 23, 30], [0, 3, 4, 5, 6, 21, 22, 23], [0, 3, 4, 5, 6, 7, 21, 22, 23], [0, 3, 4, 5, 6, 7, 21, 22, 23], [0, 3, 4, 5, 6, 7, 21, 22, 23, 39], [0, 3, 4, 5, 6, 7, 21, 22, 23, 53], [0, 3, 4, 5, 6, 7, 8, 21, 22, 23], [0, 3, 4, 5, 6, 7, 8, 21, 22, 23], [0, 3, 4, 5, 6, 7, 8, 21, 22, 23], [0, 3, 4, 5, 6, 7, 8, 21, 22, 23, 77], [0, 3, 4, 5, 6, 7, 21, 22, 23, 79], [2], [0, 3, 4, 5, 6, 7, 21, 22, 23], [0, 3, 4, 5, 21, 22, 23, 86], [2], [0, 3, 4, 21, 22, 23], [0, 3, 4, 21, 22, 23], [2]] = some c62 := by kernel_rfl
set_option maxRecDepth 100000 in
theorem ec_c63 : cFunc Tryz.prog ecNames.ψ Tryz.f18 [[1, 2], [1, 5], [5, 12, 13, 14], [5, 12, 13, 14], [5, 12, 13, 14, 15], [5, 6, 7, 12, 13, 14], [5, 6, 7, 12, 13, 14, 20], [5, 12, 13, 14], [5, 12, 13, 14], [4]] = some c63 := by kernel_rfl
set_option maxRecDepth 100000 in
theorem ec_c64 : cFunc Tryz.prog ecNames.ψ Tryz.f19 [[1, 2], [1, 2, 3], [1, 2, 3, 10, 11], [1, 2, 3, 10, 11], [1, 2, 3, 10, 11, 12], [1, 2, 3, 4, 10, 11], [1, 2, 3, 4, 5, 10, 11], [1, 2, 3, 4, 5, 10, 11], [1, 2, 3, 4, 5, 10, 11, 19], [1, 2, 3, 4, 5, 10, 11], [1, 2, 3, 4, 5, 10, 11], [1, 2, 3, 10, 11], [2]] = some c64 := by kernel_rfl
set_option maxRecDepth 100000 in
theorem ec_c65 : cFunc Tryz.prog ecNames.ψ Tryz.f20 [[0, 1, 2, 3], [6]] = some c65 := by kernel_rfl
set_option maxRecDepth 100000 in
theorem ec_c66 : cFunc Tryz.prog ecNames.ψ Tryz.f21 [[3, 4, 5], [3, 4, 5, 7], [3, 4, 5, 7, 8], [3, 8], [6]] = some c66 := by kernel_rfl
set_option maxRecDepth 100000 in
theorem ec_c53 : cFunc Tryz.prog ecNames.ψ Tryz.f22 [[1, 2], [1, 2, 8], [4], [4]] = some c53 := by kernel_rfl
set_option maxRecDepth 100000 in
theorem ec_c67 : cFunc Tryz.prog ecNames.ψ Tryz.f23 [[3, 4, 5], [3, 4, 5, 7], [3, 4, 5, 7, 8], [8], [6]] = some c67 := by kernel_rfl
set_option maxRecDepth 100000 in
theorem ec_c68 : cFunc Tryz.prog ecNames.ψ Tryz.f24 [[0, 1, 2, 3], [5]] = some c68 := by kernel_rfl
set_option maxRecDepth 100000 in
theorem ec_c69 : cFunc Tryz.prog ecNames.ψ Tryz.f25 [[0], [0, 4], [2], [2]] = some c69 := by kernel_rfl
set_option maxRecDepth 100000 in
theorem ec_c70 : cFunc Tryz.prog ecNames.ψ Tryz.f26 [[0], [0, 4], [2], [2]] = some c70 := by kernel_rfl
set_option maxRecDepth 100000 in
theorem ec_c78 : cFunc Tryz.prog ecNames.ψ Tryz.f27 [[0, 1, 4], []] = some c78 := by kernel_rfl
set_option maxRecDepth 100000 in
theorem ec_c79 : cFunc Tryz.prog ecNames.ψ Tryz.f28 [[2, 3], [4]] = some c79 := by kernel_rfl
set_option maxRecDepth 100000 in
theorem ec_c80 : cFunc Tryz.prog ecNames.ψ Tryz.f29 [[1, 2], [1, 2, 5], [1, 2, 5, 27], [4], [1, 2], [1, 2, 34, 35], [1, 2, 34, 35], [1, 2, 34, 35, 36], [1, 2, 6, 34, 35], [1, 2, 6, 7, 34, 35], [1, 2, 6, 7, 8, 34, 35], [1, 2, 6, 7, 8, 34, 35], [1, 2, 6, 7, 8, 34, 35, 50], [1, 2, 6, 7, 8, 34, 35, 55], [1, 2, 6, 7, 8, 34, 35], [1, 2, 6, 7, 8, 34, 35], [1, 2, 7, 9, 11, 34, 35], [1, 2, 7, 34, 35, 82], [4], [1, 2, 34, 35], [1, 2, 34, 35], [4]] = some c80 := by kernel_rfl
set_option maxRecDepth 100000 in
theorem ec_c81 : cFunc Tryz.prog ecNames.ψ Tryz.f30 [[1], [1, 3], [1, 3, 12, 13, 14], [1, 3, 12, 13, 14], [1, 3, 12, 13, 14, 15], [1, 3, 4, 5, 12, 13, 14], [1, 3, 4, 5, 6, 12, 13, 14], [1, 3, 4, 5, 6, 12, 13, 14, 26], [1, 3, 12, 13, 14, 28], [2], [1, 3, 4, 5, 6, 12, 13, 14, 42], [2], [1, 3, 4, 5, 6, 7, 12, 13, 14], [1, 3, 4, 6, 12, 13, 14, 64], [2], [1, 3, 12, 13, 14], [1, 3, 12, 13, 14], [2]] = some c81 := by kernel_rfl
set_option maxRecDepth 100000 in
theorem ec_c82 : cFunc Tryz.prog ecNames.ψ Tryz.f31 [[0], [3], [3], [2]] = some c82 := by kernel_rfl
set_option maxRecDepth 100000 in
theorem ec_c83 : cFunc Tryz.prog ecNames.ψ Tryz.f32 [[1], [2]] = some c83 := by kernel_rfl
set_option maxRecDepth 100000 in
theorem ec_c84 : cFunc Tryz.prog ecNames.ψ Tryz.f33 [[0, 1], [0, 1, 10], [4], [0, 1, 12, 13], [0, 1, 12, 13], [0, 1, 12, 13, 14], [0, 1, 5, 12, 13], [0, 1, 12, 13, 24], [4], [0, 1, 12, 13], [4]] = some c84 := by kernel_rfl
set_option maxRecDepth 100000 in
theorem ec_c85 : cFunc Tryz.prog ecNames.ψ Tryz.f34 [[0], [2]] = some c85 := by kernel_rfl
set_option maxRecDepth 100000 in
theorem ec_c104 : cFunc Tryz.prog ecNames.ψ Tryz.f37 [[1], [1, 3], [3, 7, 8, 9], [3, 7, 8, 9], [3, 7, 8, 9, 10], [3, 5, 7, 8, 9], [3, 7, 8, 9], [3, 7, 8, 9], [2]] = some c104 := by kernel_rfl
set_option maxRecDepth 100000 in
theorem ec_c105 : cFunc Tryz.prog ecNames.ψ Tryz.f38 [[0], [2]] = some c105 := by kernel_rfl
set_option maxRecDepth 100000 in
theorem ec_c106 : cFunc Tryz.prog ecNames.ψ Tryz.f39 [[0, 1], [3]] = some c106 := by kernel_rfl
set_option maxRecDepth 100000 in
theorem ec_c107 : cFunc Tryz.prog ecNames.ψ Tryz.f40 [[0], [0, 5, 6, 7], [0, 5, 6, 7], [0, 5, 6, 7, 8], [0, 3, 4, 5, 6, 7], [0, 5, 6, 7, 29], [2], [0, 5, 6, 7], [2]] = some c107 := by kernel_rfl
set_option maxRecDepth 100000 in
theorem ec_c108 : cFunc Tryz.prog ecNames.ψ Tryz.f41 [[0, 1], [4]] = some c108 := by kernel_rfl
set_option maxRecDepth 100000 in
theorem ec_c109 : cFunc Tryz.prog ecNames.ψ Tryz.f42 [[1, 2], [3]] = some c109 := by kernel_rfl
set_option maxRecDepth 100000 in
theorem ec_c110 : cFunc Tryz.prog ecNames.ψ Tryz.f43 [[1, 2], [1, 2, 5], [1, 2, 5, 6], [1, 2, 5, 6, 11], [1, 2, 5, 6, 11, 12], [1, 2, 5], [2, 5, 6], [1, 2, 5, 6, 11, 29], [1, 2, 5], [2, 5, 6], [1, 2, 5, 6, 11, 46], [1, 2, 5, 11, 48], [1, 2, 5], [2, 5, 6], [2, 5, 11, 81], [2, 5], [2, 5, 6], [2, 5, 129], [2, 5], [2, 5, 6], [4], [4]] = some c110 := by kernel_rfl
set_option maxRecDepth 100000 in
theorem ec_c111 : cFunc Tryz.prog ecNames.ψ Tryz.f44 [[0, 3, 4], [0, 3, 4], [0, 3, 4, 19], [0, 3, 4, 5], [0, 3, 4, 5, 6, 7], [0, 3, 4, 5, 6, 7, 34], [0, 3, 4, 5, 6, 7, 34, 36], [0, 3, 4, 5, 6, 8, 9], [0, 3, 4, 5, 6, 8, 46], [0, 3, 4, 5, 6], [0, 3, 4], [0, 3, 4, 5, 6, 7, 52], [0, 3, 4, 5, 56], [0, 3, 4], [4], [0, 3, 4], [4]] = some c111 := by kernel_rfl
set_option maxRecDepth 100000 in
theorem ec_c112 : cFunc Tryz.prog ecNames.ψ Tryz.f45 [[1, 2], [1, 2, 13], [4], [4]] = some c112 := by kernel_rfl
set_option maxRecDepth 100000 in
theorem ec_c113 : cFunc Tryz.prog ecNames.ψ Tryz.f46 [[1, 3, 5, 6], [5, 6, 8], [5, 6, 8, 22], [6, 7], [6, 9], [6, 9, 36], [6, 7], [6, 7]] = some c113 := by kernel_rfl
set_option maxRecDepth 100000 in
theorem ec_c114 : cFunc Tryz.prog ecNames.ψ Tryz.f47 [[2, 3, 4, 6], [2, 3, 4, 6, 9], [2, 3, 4, 6, 9, 10], [6, 7], [2, 3, 4, 6, 9, 19], [6, 7], [2, 3, 4, 6, 25], [2, 3, 4, 6, 32], [6, 7], [6, 7], [6, 7]] = some c114 := by kernel_rfl
set_option maxRecDepth 100000 in
theorem ec_c115 : cFunc Tryz.prog ecNames.ψ Tryz.f48 [[0, 1, 3, 6], [0, 1, 3, 6, 8], [0, 1, 3, 6, 8], [0, 1, 3, 6, 8], [0, 1, 6], [0, 1, 6, 46], []] = some c115 := by kernel_rfl
set_option maxRecDepth 100000 in
theorem ec_c116 : cFunc Tryz.prog ecNames.ψ Tryz.f49 [[1, 3, 4, 6, 8], [1, 3, 4, 6, 8, 9, 10], [1, 3, 4, 6, 8, 9, 19], [8], [1, 3, 4, 6, 8, 9, 28], [1, 4, 6, 8], [1, 4, 6, 8], [8]] = some c116 := by kernel_rfl
set_option maxRecDepth 100000 in
theorem ec_c117 : cFunc Tryz.prog ecNames.ψ Tryz.f50 [[0], [0, 4], [2], [2]] = some c117 := by kernel_rfl
set_option maxRecDepth 100000 in
theorem ec_c118 : cFunc Tryz.prog ecNames.ψ Tryz.f51 [[0, 1, 2, 6], [0, 1, 2, 6, 7], [0, 1, 2, 6, 7, 8], [0, 1, 6, 7], [0, 1, 6], [0, 1], []] = some c118 := by kernel_rfl
set_option maxRecDepth 100000 in
theorem ec_c119 : cFunc Tryz.prog ecNames.ψ Tryz.f52 [[0], [0, 4], [0, 4, 5], [0, 4, 5, 6], [0, 4, 5, 6, 33, 34, 35], [0, 4, 5, 6, 33, 34, 35], [0, 4, 5, 6, 33, 34, 35, 36], [0, 4, 5, 6, 7, 8, 33, 34, 35], [0, 4, 5, 6, 8, 33, 34, 35], [0, 4, 5, 6, 33, 34, 35], [0, 4, 5, 6, 33, 34, 35], [0, 4, 5, 6, 53, 54, 55], [0, 4, 5, 6, 53, 54, 55], [0, 4, 5, 6, 53, 54, 55, 56], [0, 4, 5, 6, 10, 53, 54, 55], [0, 4, 5, 6, 53, 54, 55, 60, 61, 62], [0, 4, 5, 6, 53, 54, 55, 60, 61, 62], [0, 4, 5, 6, 53, 54, 55, 60, 61, 62, 63], [0, 4, 5, 6, 12, 53, 54, 55, 60, 61, 62], [0, 4, 5, 6, 12, 13, 53, 54, 55, 60, 61, 62], [0, 4, 5, 6, 12, 13, 53, 54, 55, 60, 61, 62, 67], [0, 4, 5, 6, 12, 13, 53, 54, 55, 60, 61, 62], [0, 4, 5, 6, 13, 14, 53, 54, 55, 60, 61, 62], [0, 4, 5, 6, 13, 14, 53, 54, 55, 60, 61, 62, 85], [0, 4, 5, 6, 13, 53, 54, 55, 60, 61, 62], [0, 4, 5, 6, 53, 54, 55, 60, 61, 62], [0, 4, 5, 6, 53, 54, 55, 60, 61, 62], [0, 4, 5, 6, 53, 54, 55], [2, 3]] = some c119 := by kernel_rfl
set_option maxRecDepth 100000 in
theorem ec_c120 : cFunc Tryz.prog ecNames.ψ Tryz.f53 [[0, 1, 5], [0, 1, 5, 12, 13, 14], [0, 1, 5, 12, 13, 14], [0, 1, 5, 12, 13, 14, 15], [0, 1, 5, 7, 8, 12, 13, 14], [0, 1, 5, 7, 8, 12, 13, 14, 26], [0, 1, 5, 12, 13, 14, 40], [6], [0, 1, 5, 12, 13, 14], [6]] = some c120 := by kernel_rfl
set_option maxRecDepth 100000 in
theorem ec_c101 : cFunc Tryz.prog ecNames.ψ Tryz.f54 [[1], [2]] = some c101 := by kernel_rfl
set_option maxRecDepth 100000 in
theorem ec_c99 : cFunc Tryz.prog ecNames.ψ Tryz.f55 [[0], [0, 4], [2], [2]] = some c99 := by kernel_rfl
set_option maxRecDepth 100000 in
theorem ec_c102 : cFunc Tryz.prog ecNames.ψ Tryz.f56 [[0, 1], [4]] = some c102 := by kernel_rfl
set_option maxRecDepth 100000 in
theorem ec_c121 : cFunc Tryz.prog ecNames.ψ Tryz.f57 [[0, 1, 2, 3, 4, 5], [0, 1, 2, 3, 4, 5, 15], [7], [0, 1, 2, 4, 5, 19, 20, 21], [0, 1, 2, 4, 5, 19, 20, 21], [0, 1, 2, 4, 5, 19, 20, 21, 22], [0, 1, 2, 4, 5, 9, 19, 20, 21], [0, 1, 2, 4, 5, 9, 19, 20, 21, 38], [0, 1, 2, 4, 5, 9, 19, 20, 21], [0, 1, 2, 4, 5, 10, 19, 20, 21], [0, 1, 2, 4, 5, 10, 19, 20, 21], [0, 1, 2, 4, 5, 19, 20, 21, 54], [7], [0, 1, 2, 4, 5, 19, 20, 21], [7]] = some c121 := by kernel_rfl
set_option maxRecDepth 100000 in
theorem ec_c58 : cFunc Tryz.prog ecNames.ψ Tryz.f58 [[0, 1], [4]] = some c58 := by kernel_rfl
set_option maxRecDepth 100000 in
theorem ec_c122 : cFunc Tryz.prog ecNames.ψ Tryz.f59 [[0], [0, 3], [3, 6, 7, 8], [3, 6, 7, 8], [3, 6, 7, 8, 9], [3, 5, 6, 7, 8], [3, 6, 7, 8], [3, 6, 7, 8], [2]] = some c122 := by kernel_rfl
set_option maxRecDepth 100000 in
theorem ec_c98 : cFunc Tryz.prog ecNames.ψ Tryz.f60 [[1, 2], [4]] = some c98 := by kernel_rfl
set_option maxRecDepth 100000 in
theorem ec_c123 : cFunc Tryz.prog ecNames.ψ Tryz.f61 [[1, 2, 3, 4, 5, 6], [1, 2, 3, 4, 5, 6, 13], [2, 3, 8], [3, 8, 16, 17, 18], [3, 8, 16, 17, 18], [3, 8, 16, 17, 18, 19], [3, 8, 9, 10, 16, 17, 18], [3, 8, 16, 17, 18], [3, 8, 16, 17, 18], [7], [7]] = some c123 := by kernel_rfl
set_option maxRecDepth 100000 in
theorem ec_c124 : cFunc Tryz.prog ecNames.ψ Tryz.f62 [[0, 1, 2, 3], [2, 3], [5]] = some c124 := by kernel_rfl
set_option maxRecDepth 100000 in
theorem ec_c140 : cFunc Tryz.prog ecNames.ψ Tryz.f63 [[0, 1, 2, 3, 4, 10], [0, 1, 2, 3, 4, 10, 11], [0, 1, 2, 3, 4, 10, 11], [0, 1, 2, 3, 4, 10, 11, 12], [0, 1, 2, 3, 4, 10, 11, 12, 25], [], [0, 1, 2, 3, 4, 10, 11, 12, 32], [], [0, 1, 2, 3, 4, 10, 11, 12, 39], [0, 1, 2, 3, 4, 10, 11, 12], [0, 1, 2, 3, 4, 10, 11, 12], [0, 1, 2, 3, 4, 10, 11, 12, 13, 14], [0, 1, 2, 3, 4, 10, 11, 12, 13, 14, 56], [0, 1, 2, 3, 4, 10, 11, 12, 13], [0, 1, 2, 3, 4, 10, 11, 12, 13], [0, 1, 2, 3, 4, 10, 11, 12, 13, 14], [0, 1, 2, 3, 4, 10, 11, 12, 13, 75], [0, 1, 2, 3, 4, 10, 11, 12, 13, 80], [0, 1, 2, 3, 4, 10, 11, 12, 13, 97], [0, 2, 3, 4, 10, 11, 15], [0, 1, 2, 3, 4, 10, 11], [0, 1, 2, 3, 4, 12, 16, 17], [0, 1, 2, 3, 4, 11, 12, 16], [0, 1, 2, 3, 4, 11, 12, 16, 18, 19], [0, 1, 2, 3, 4, 11, 16, 18, 19, 20], [0, 1, 2, 3, 4, 11, 16, 18, 19, 20, 125], [0, 1, 2, 3, 4, 10, 11, 16], [0, 2, 3, 4, 10, 11, 16], [0, 1, 2, 3, 4, 10, 11], [0, 1, 2, 3, 4, 10, 11, 16], [0, 1, 3, 4, 10, 11, 16], [0, 1, 2, 3, 4, 10, 11]] = some c140 := by kernel_rfl
set_option maxRecDepth 100000 in
theorem ec_c141 : cFunc Tryz.prog ecNames.ψ Tryz.f64 [[0], [2], [2]] = some c141 := by kernel_rfl
set_option maxRecDepth 100000 in
theorem ec_c142 : cFunc Tryz.prog ecNames.ψ Tryz.f65 [[0], [0, 3], [3, 6, 7, 8], [3, 6, 7, 8], [3, 6, 7, 8, 9], [3, 5, 6, 7, 8], [3, 5, 6, 7, 8, 14], [2], [3, 6, 7, 8], [2]] = some c142 := by kernel_rfl
set_option maxRecDepth 100000 in
theorem ec_c143 : cFunc Tryz.prog ecNames.ψ Tryz.f66 [[0, 1, 2], [0, 1, 2, 11, 12, 13], [0, 1, 2, 11, 12, 13], [0, 1, 2, 11, 12, 13, 14], [0, 1, 2, 7, 8, 11, 12, 13], [0, 1, 2, 7, 8, 11, 12, 13, 21], [6], [0, 1, 2, 8, 9, 11, 12, 13], [0, 1, 2, 10, 11, 12, 13], [0, 1, 2, 10, 11, 12, 13, 31], [6], [0, 1, 2, 11, 12, 13], [38], [6], [6]] = some c143 := by kernel_rfl
set_option maxRecDepth 100000 in
theorem ec_c144 : cFunc Tryz.prog ecNames.ψ Tryz.f67 [[2, 3], [4]] = some c144 := by kernel_rfl
set_option maxRecDepth 100000 in
theorem ec_c145 : cFunc Tryz.prog ecNames.ψ Tryz.f68 [[0, 1], [0, 1, 9, 10, 11], [0, 1, 9, 10, 11], [0, 1, 9, 10, 11, 12], [0, 1, 5, 6, 9, 10, 11], [0, 1, 5, 6, 9, 10, 11, 19], [4], [0, 1, 6, 7, 9, 10, 11], [0, 1, 8, 9, 10, 11], [0, 1, 8, 9, 10, 11, 28], [4], [0, 1, 9, 10, 11], [35], [4], [4]] = some c145 := by kernel_rfl
set_option maxRecDepth 100000 in
theorem ec_c146 : cFunc Tryz.prog ecNames.ψ Tryz.f69 [[0, 1, 2], [0, 1, 2, 11, 12, 13], [0, 1, 2, 11, 12, 13], [0, 1, 2, 11, 12, 13, 14], [0, 1, 2, 7, 8, 11, 12, 13], [0, 1, 2, 7, 8, 11, 12, 13, 21], [6], [0, 1, 2, 8, 9, 11, 12, 13], [0, 1, 2, 10, 11, 12, 13], [0, 1, 2, 10, 11, 12, 13, 31], [6], [0, 1, 2, 11, 12, 13], [38], [6], [6]] = some c146 := by kernel_rfl
set_option maxRecDepth 100000 in
theorem ec_c147 : cFunc Tryz.prog ecNames.ψ Tryz.f70 [[1], [1, 3], [3, 7, 8, 9], [3, 7, 8, 9], [3, 7, 8, 9, 10], [3, 4, 5, 7, 8, 9], [3, 7, 8, 9], [3, 7, 8, 9], [2]] = some c147 := by kernel_rfl
set_option maxRecDepth 100000 in
theorem ec_c148 : cFunc Tryz.prog ecNames.ψ Tryz.f71 [[0, 1], [4]] = some c148 := by kernel_rfl
set_option maxRecDepth 100000 in
theorem ec_c100 : cFunc Tryz.prog ecNames.ψ Tryz.f72 [[1], [2]] = some c100 := by kernel_rfl
set_option maxRecDepth 100000 in
theorem ec_c149 : cFunc Tryz.prog ecNames.ψ Tryz.f73 [[1, 2, 3, 6, 7], [1, 2, 3, 6, 7], [1, 2, 3, 6, 7], [1, 2, 3, 6, 7, 9, 10], [1, 2, 3, 6, 7, 9, 25], [6, 7, 8], [1, 2, 3, 6, 7, 9, 11], [1, 2, 3, 6, 7, 9, 11, 30], [1, 2, 3, 6, 7, 9, 11], [1, 2, 3, 6, 7, 11, 12, 13], [1, 2, 3, 6, 7, 11, 12, 41], [1, 2, 3, 6, 7, 11, 12, 44], [6, 7, 8], [1, 2, 3, 6, 7, 11, 12], [1, 2, 3, 6, 7, 11, 12], [1, 2, 3, 6, 7, 11], [1, 2, 3, 6, 7]] = some c149 := by kernel_rfl
set_option maxRecDepth 100000 in
theorem ec_c52 : cFunc Tryz.prog ecNames.ψ Tryz.f74 [[0, 2], [0, 2, 10], [2], [0, 2, 3], [0, 2, 3, 15, 16, 17], [0, 2, 3, 15, 16, 17], [0, 2, 3, 15, 16, 17, 18], [0, 2, 3, 4, 5, 15, 16, 17], [0, 2, 3, 4, 5, 15, 16, 17, 22, 23, 24], [0, 2, 3, 4, 5, 15, 16, 17, 22, 23, 24], [0, 2, 3, 4, 5, 15, 16, 17, 22, 23, 24, 25], [0, 2, 3, 4, 5, 6, 7, 15, 16, 17, 22, 23, 24], [0, 2, 3, 4, 5, 6, 15, 16, 17, 22, 23, 24, 55], [0, 2, 3, 4, 5, 15, 16, 17, 22, 23, 24], [0, 2, 3, 4, 5, 15, 16, 17, 22, 23, 24], [0, 2, 3, 15, 16, 17], [2]] = some c52 := by kernel_rfl
set_option maxRecDepth 100000 in
theorem ec_c56 : cFunc Tryz.prog ecNames.ψ Tryz.f75 [[1, 2, 3, 6], [1, 2, 3, 6, 14], [3, 6], [6]] = some c56 := by kernel_rfl
set_option maxRecDepth 100000 in
theorem ec_c30 : cFunc Tryz.prog ecNames.ψ Tryz.f76 [[1], [3], [3, 8, 9], [3, 8, 9], [3, 8, 9, 10], [3, 4, 8, 9], [3, 8, 9, 17], [2], [3, 8, 9], [2]] = some c30 := by kernel_rfl
set_option maxRecDepth 100000 in
theorem ec_c150 : cFunc Tryz.prog ecNames.ψ Tryz.f77 [[0], [2]] = some c150 := by kernel_rfl
set_option maxRecDepth 100000 in
theorem ec_c151 : cFunc Tryz.prog ecNames.ψ Tryz.f78 [[0, 2], []] = some c151 := by kernel_rfl
set_option maxRecDepth 100000 in
theorem ec_c152 : cFunc Tryz.prog ecNames.ψ Tryz.f79 [[0, 5, 6, 7], [0, 5, 6, 7], [0, 5, 6, 7, 8], [0, 4, 5, 6, 7], [0, 5, 6, 7, 14], [0, 5, 6, 7]] = some c152 := by kernel_rfl
set_option maxRecDepth 100000 in
theorem ec_c153 : cFunc Tryz.prog ecNames.ψ Tryz.f80 [[0], [2]] = some c153 := by kernel_rfl
set_option maxRecDepth 100000 in
theorem ec_c171 : cFunc Tryz.prog ecNames.ψ Tryz.f85 [[0, 1], [0, 1, 7, 8], [0, 1, 7, 8], [0, 1, 7, 8, 9], [0, 1, 5, 7, 8], [0, 1, 5, 7, 8, 16], [4], [0, 1, 7, 8], [4]] = some c171 := by kernel_rfl
set_option maxRecDepth 100000 in
theorem ec_c172 : cFunc Tryz.prog ecNames.ψ Tryz.f86 [[1], [2]] = some c172 := by kernel_rfl
set_option maxRecDepth 100000 in
theorem ec_c173 : cFunc Tryz.prog ecNames.ψ Tryz.f87 [[0], [2]] = some c173 := by kernel_rfl
set_option maxRecDepth 100000 in
theorem ec_c174 : cFunc Tryz.prog ecNames.ψ Tryz.f88 [[2, 3], [2, 3, 12], [4], [4]] = some c174 := by kernel_rfl
set_option maxRecDepth 100000 in
theorem ec_c175 : cFunc Tryz.prog ecNames.ψ Tryz.f89 [[0, 1, 2], [0, 1, 2, 8], [1, 2, 8, 12], [1, 2, 8, 12, 13], [6, 7], [1, 2, 8, 12, 18], [6, 7], [1, 2, 8, 12, 23], [6, 7], [1, 2, 8, 12, 28], [6, 7], [1, 2, 8, 12, 33], [6, 7], [1, 2, 8, 12, 38], [6, 7], [1, 2, 8, 12, 43], [6, 7], [1, 2, 8, 12, 48], [6, 7], [1, 2, 12, 53], [6, 7], [1, 2, 12, 59], [6, 7], [1, 2, 65], [6, 7], [6, 7]] = some c175 := by kernel_rfl
set_option maxRecDepth 100000 in
theorem ec_c176 : cFunc Tryz.prog ecNames.ψ Tryz.f90 [[0, 1, 2, 11], []] = some c176 := by kernel_rfl
set_option maxRecDepth 100000 in
theorem ec_c177 : cFunc Tryz.prog ecNames.ψ Tryz.f91 [[0], [2]] = some c177 := by kernel_rfl
set_option maxRecDepth 100000 in
theorem ec_c178 : cFunc Tryz.prog ecNames.ψ Tryz.f92 [[0], [2]] = some c178 := by kernel_rfl
set_option maxRecDepth 100000 in
theorem ec_c179 : cFunc Tryz.prog ecNames.ψ Tryz.f93 [[0], [2]] = some c179 := by kernel_rfl
set_option maxRecDepth 100000 in
theorem ec_c180 : cFunc Tryz.prog ecNames.ψ Tryz.f94 [[0, 1], [0, 1, 10], [0, 1], [0, 5, 6], [0, 6, 26], [0, 6], [0, 7], [7, 8], [7, 8], [7, 8, 37], [7, 8], [4]] = some c180 := by kernel_rfl
set_option maxRecDepth 100000 in
theorem ec_c181 : cFunc Tryz.prog ecNames.ψ Tryz.f95 [[1, 2], [3]] = some c181 := by kernel_rfl
set_option maxRecDepth 100000 in
theorem ec_c103 : cFunc Tryz.prog ecNames.ψ Tryz.f97 [[0], [0, 8], [2], [2]] = some c103 := by kernel_rfl
set_option maxRecDepth 100000 in
theorem ec_c187 : cFunc Tryz.prog ecNames.ψ Tryz.f98 [[0, 1, 2, 3, 8], [0, 1, 2, 3, 8], [0, 1, 2, 3, 8, 14], [0, 1, 2, 3, 8, 9], [0, 1, 2, 3, 8, 9], [0, 1, 2, 3, 8, 9, 34], [0, 1, 2, 3, 8, 9], [0, 1, 2, 3, 8, 9], [0, 1, 2, 3, 8]] = some c187 := by kernel_rfl
set_option maxRecDepth 100000 in
theorem ec_c188 : cFunc Tryz.prog ecNames.ψ Tryz.f99 [[0, 1, 2, 3, 8], [0, 1, 2, 3, 8, 9], [0, 3, 8, 9, 10], [0, 3, 8, 9, 10, 11], [0, 3, 8, 9, 10, 11], [0, 3, 8, 9, 10, 11, 21], [0, 3, 8, 9, 10, 11], [0, 3, 8, 9, 10, 11], [0, 3, 8, 9, 12], [0, 3, 8, 9, 12], [0, 3, 8, 9, 12, 33], [0, 3, 8, 9, 12], [0, 3, 8, 9, 12], [0, 3, 8, 9, 12]] = some c188 := by kernel_rfl
set_option maxRecDepth 100000 in
theorem ec_c189 : cFunc Tryz.prog ecNames.ψ Tryz.f100 [[0, 1, 8], [0, 1, 8, 17], [0, 1, 8, 9], [0, 1, 8, 9, 10], [0, 1, 8, 9, 10, 11], [0, 1, 8, 9, 10, 11], [0, 1, 8, 9, 10, 11, 35], [0, 1, 8, 9, 10, 11, 12], [0, 1, 8, 9, 10, 11, 12, 45], [0, 1, 8, 9, 10, 11, 12], [0, 1, 8, 9, 10, 11], [0, 1, 8, 9, 10, 11]] = some c189 := by kernel_rfl
set_option maxRecDepth 100000 in
theorem ec_c190 : cFunc Tryz.prog ecNames.ψ Tryz.f101 [[0, 1, 2, 3], [0, 1, 3, 10], [0, 1, 3, 10, 11], [0, 1, 3, 10, 11, 12], [0, 1, 3, 10, 11, 12, 13], [0, 3, 10, 11, 12, 13, 14], [0, 3, 10, 11, 12, 13, 14, 34], [0, 3, 11, 12, 13, 14, 36], [0, 3, 11, 12, 13, 14], [0, 3, 11, 12, 13, 14], [0, 3, 11, 12, 13, 14], [11, 13], [13, 55], [13, 55, 57], [8, 9], [13, 60], [8, 9], [8, 9]] = some c190 := by kernel_rfl
set_option maxRecDepth 100000 in
theorem ec_c191 : cFunc Tryz.prog ecNames.ψ Tryz.f102 [[0, 2, 8], [0, 8, 9], [0, 8, 9], [0, 8, 9, 15], [0, 8, 9], [0, 8, 9], [0, 8, 9]] = some c191 := by kernel_rfl
set_option maxRecDepth 100000 in
theorem ec_c192 : cFunc Tryz.prog ecNames.ψ Tryz.f103 [[0, 1, 2, 3], [0, 1, 2, 3, 9], [0, 1, 2, 3, 9, 10], [0, 1, 2, 3, 9, 10], [0, 1, 2, 3, 9, 10, 16], [0, 1, 2, 3, 9, 10], [0, 1, 2, 3, 9, 10, 36], [0, 1, 2, 3, 9, 10], [0, 1, 2, 3, 9, 10, 41], [8], [0, 1, 2, 3, 9, 10, 45], [8], [0, 1, 2, 3, 9, 10], [0, 1, 2, 3, 9, 10, 65], [0, 1, 2, 3, 9, 10, 11], [0, 1, 2, 3, 9, 10, 11], [0, 1, 2, 3, 9, 10, 11, 69], [0, 1, 2, 3, 9, 10, 11, 84], [0, 1, 2, 3, 9, 10, 11], [0, 1, 2, 3, 9, 10, 11], [0, 1, 2, 3, 9, 10, 104], [0, 1, 2, 3, 9, 10, 12], [0, 1, 2, 3, 9, 10, 12], [0, 1, 2, 3, 9, 10, 12, 109], [0, 1, 2, 3, 9, 10, 12, 124], [0, 1, 2, 3, 9, 10, 12], [0, 1, 2, 3, 9, 10, 12], [0, 1, 2, 3, 9, 10], [8]] = some c192 := by kernel_rfl
set_option maxRecDepth 100000 in
theorem ec_c193 : cFunc Tryz.prog ecNames.ψ Tryz.f104 [[0, 1, 2, 3, 4], [0, 1, 2, 4], [0, 1, 4, 11, 12], [0, 1, 4, 11, 12], [0, 1, 4, 11, 12], [0, 1, 4, 11, 12, 47], [0, 1, 4, 11, 12], [0, 1, 4, 11, 12], [0, 1, 4, 11, 12, 65], [0, 1, 4, 11, 12], [0, 1, 4, 11, 12, 70], [0, 1, 4, 11, 12], [0, 1, 4, 11, 12], [0, 1, 4, 11, 12], [10]] = some c193 := by kernel_rfl
set_option maxRecDepth 100000 in
theorem ec_c194 : cFunc Tryz.prog ecNames.ψ Tryz.f105 [[0, 1, 2, 3, 4], [0, 1, 2, 4], [0, 1, 4, 12, 13], [0, 1, 4, 12, 13], [0, 1, 4, 12, 13, 47], [0, 1, 4, 12, 13], [0, 1, 4, 12, 13], [0, 1, 4, 12, 13, 66], [0, 1, 4, 12, 13], [0, 1, 4, 12, 13, 71], [13], [10, 11], [0, 1, 4, 12, 13], [0, 1, 4, 12, 13], [0, 1, 4, 12, 13], [0, 1, 4, 12, 13], [0, 1, 4, 12, 13], [0, 1, 4, 12, 13, 120], [0, 1, 4, 12, 13], [0, 1, 4, 12, 13], [0, 1, 4, 12, 13, 139], [0, 1, 4, 12, 13], [0, 1, 4, 12, 13, 144], [0, 1, 4, 12, 13], [0, 1, 4, 12, 13], [0, 1, 4, 12, 13], [13], [10, 11]] = some c194 := by kernel_rfl
set_option maxRecDepth 100000 in
theorem ec_c195 : cFunc Tryz.prog ecNames.ψ Tryz.f106 [[0, 2], [0, 2, 4], [0], [0, 2], [0, 2, 8], [0, 2], [0, 2], [2]] = some c195 := by kernel_rfl
set_option maxRecDepth 100000 in
theorem ec_c196 : cFunc Tryz.prog ecNames.ψ Tryz.f107 [[0, 2], [0, 2, 4], [0], [0, 2], [0, 2, 8], [0, 2], [0, 2], [0, 2, 14], [0, 2], [0, 2], [2]] = some c196 := by kernel_rfl
set_option maxRecDepth 100000 in
theorem ec_c197 : cFunc Tryz.prog ecNames.ψ Tryz.f108 [[0, 1], [0, 1, 5], [0, 1, 5, 6], [0, 1, 6, 11], [12], [4], [4], [0, 1, 13], [4], [0, 1, 16], [4], [19], [4], [4]] = some c197 := by kernel_rfl
set_option maxRecDepth 100000 in
theorem ec_c198 : cFunc Tryz.prog ecNames.ψ Tryz.f109 [[0, 1], [0, 1, 5], [0, 1, 5, 6], [0, 1, 6, 11], [12], [4], [4], [0, 1, 13], [4], [0, 1, 16], [4], [19], [4], [4]] = some c198 := by kernel_rfl
set_option maxRecDepth 100000 in
theorem ec_c199 : cFunc Tryz.prog ecNames.ψ Tryz.f110 [[0, 1], [0, 1, 10], [4], [0, 1, 12, 13], [0, 1, 12, 13], [0, 1, 12, 13, 14], [0, 1, 5, 12, 13], [0, 1, 12, 13, 24], [4], [0, 1, 12, 13], [4]] = some c199 := by kernel_rfl
set_option maxRecDepth 100000 in
theorem ec_c57 : cFunc Tryz.prog ecNames.ψ Tryz.f111 [[1, 2], [1, 2, 6, 7], [1, 2, 6, 7], [1, 2, 6, 7, 8], [1, 2, 3, 6, 7], [1, 2, 3, 6, 7, 11, 12], [1, 2, 3, 6, 7, 11, 12], [1, 2, 3, 6, 7, 11, 12, 13], [1, 2, 3, 4, 6, 7, 11, 12], [1, 2, 3, 4, 6, 7, 11, 12, 20], [1, 2, 3, 6, 7, 11, 12], [1, 2, 3, 6, 7, 11, 12], [1, 2, 6, 7], [2]] = some c57 := by kernel_rfl
set_option maxRecDepth 100000 in
theorem ec_c201 : cFunc Tryz.prog ecNames.ψ Tryz.f113 [[0, 1, 2, 3, 8], [0, 1, 2, 3, 8, 9], [0, 1, 2, 3, 8, 9], [0, 1, 2, 3, 8, 9, 10], [0, 1, 2, 3, 8, 9, 10, 23], [], [0, 1, 2, 3, 8, 9, 10, 29], [], [0, 1, 2, 3, 8, 9, 10, 35], [0, 1, 2, 3, 8, 9, 10], [0, 1, 2, 3, 8, 9, 10], [0, 1, 2, 3, 8, 9, 10, 11, 12], [0, 1, 2, 3, 8, 9, 10, 11, 12, 50], [0, 1, 2, 3, 8, 9, 10, 11], [0, 1, 2, 3, 8, 9, 10, 11], [0, 1, 2, 3, 8, 9, 10, 11, 12], [0, 1, 2, 3, 8, 9, 10, 11, 68], [0, 1, 2, 3, 8, 9, 10, 11, 72], [0, 1, 2, 3, 8, 9, 10, 11, 87], [0, 2, 3, 8, 9, 13], [0, 1, 2, 3, 8, 9], [0, 1, 2, 3, 10, 14, 15], [0, 1, 2, 3, 9, 10, 14], [0, 1, 2, 3, 9, 10, 14, 16, 17], [0, 1, 2, 3, 9, 14, 16, 17, 18], [0, 1, 2, 3, 9, 14, 16, 17, 18, 113], [0, 1, 2, 3, 8, 9, 14], [0, 2, 3, 8, 9, 14], [0, 1, 2, 3, 8, 9], [0, 1, 2, 3, 8, 9, 14], [0, 1, 3, 8, 9, 14], [0, 1, 2, 3, 8, 9]] = some c201 := by kernel_rfl
set_option maxRecDepth 100000 in
theorem ec_c222 : cFunc Tryz.prog ecNames.ψ Tryz.f120 [[0], [3], [2], [2]] = some c222 := by kernel_rfl
set_option maxRecDepth 100000 in
theorem ec_c223 : cFunc Tryz.prog ecNames.ψ Tryz.f121 [[0, 1], [6, 7], [4, 5], [8, 9], [4, 5]] = some c223 := by kernel_rfl
set_option maxRecDepth 100000 in
theorem ec_c224 : cFunc Tryz.prog ecNames.ψ Tryz.f122 [[0, 2, 3, 4, 10], [0, 2, 3, 4, 10], [0, 2, 3, 4, 10, 11], [0, 2, 3, 4, 10, 11, 18], [0, 2, 3, 4, 10, 11, 40], [0, 2, 3, 4, 10, 11], [0, 2, 3, 4, 10, 11, 58], [0, 2, 3, 4, 11], [0, 2, 3, 4, 10]] = some c224 := by kernel_rfl
set_option maxRecDepth 100000 in
theorem ec_c225 : cFunc Tryz.prog ecNames.ψ Tryz.f123 [[0], [2]] = some c225 := by kernel_rfl
set_option maxRecDepth 100000 in
theorem ec_c226 : cFunc Tryz.prog ecNames.ψ Tryz.f124 [[0], [0], [0], [0], [2]] = some c226 := by kernel_rfl
set_option maxRecDepth 100000 in
theorem ec_c227 : cFunc Tryz.prog ecNames.ψ Tryz.f125 [[0, 1, 2, 3], [8]] = some c227 := by kernel_rfl
set_option maxRecDepth 100000 in
theorem ec_c228 : cFunc Tryz.prog ecNames.ψ Tryz.f126 [[0, 1, 2, 3, 4, 5], [0, 1, 2, 3, 4, 5], [0, 1, 2, 4, 5], [2], [12]] = some c228 := by kernel_rfl
set_option maxRecDepth 100000 in
theorem ec_c229 : cFunc Tryz.prog ecNames.ψ Tryz.f127 [[0], [2]] = some c229 := by kernel_rfl
set_option maxRecDepth 100000 in
theorem ec_c230 : cFunc Tryz.prog ecNames.ψ Tryz.f128 [[0], [2]] = some c230 := by kernel_rfl
set_option maxRecDepth 100000 in
theorem ec_c231 : cFunc Tryz.prog ecNames.ψ Tryz.f129 [[0, 1, 2, 6], [0, 1, 2, 6], [0, 1, 2, 6, 12], [0, 1, 2, 6, 7], [0, 1, 2, 6, 7], [0, 1, 2, 6, 7, 30], [0, 1, 2, 6, 7], [0, 1, 2, 6, 7], [0, 1, 2, 6]] = some c231 := by kernel_rfl
set_option maxRecDepth 100000 in
theorem ec_c232 : cFunc Tryz.prog ecNames.ψ Tryz.f130 [[0, 1, 2, 6], [0, 1, 2, 6, 7], [0, 6, 7, 8], [0, 6, 7, 8, 9], [0, 6, 7, 8, 9], [0, 6, 7, 8, 9, 19], [0, 6, 7, 8, 9], [0, 6, 7, 8, 9], [0, 6, 7, 10], [0, 6, 7, 10], [0, 6, 7, 10, 30], [0, 6, 7, 10], [0, 6, 7, 10], [0, 6, 7, 10]] = some c232 := by kernel_rfl
set_option maxRecDepth 100000 in
theorem ec_c233 : cFunc Tryz.prog ecNames.ψ Tryz.f131 [[0, 1, 6], [0, 1, 6, 15], [0, 1, 6, 7], [0, 1, 6, 7, 8], [0, 1, 6, 7, 8, 9], [0, 1, 6, 7, 8, 9], [0, 1, 6, 7, 8, 9, 33], [0, 1, 6, 7, 8, 9, 10], [0, 1, 6, 7, 8, 9, 10, 43], [0, 1, 6, 7, 8, 9, 10], [0, 1, 6, 7, 8, 9], [0, 1, 6, 7, 8, 9]] = some c233 := by kernel_rfl
set_option maxRecDepth 100000 in
theorem ec_c234 : cFunc Tryz.prog ecNames.ψ Tryz.f132 [[0, 1, 2], [0, 1, 8], [0, 1, 8, 9], [0, 1, 8, 9, 10], [0, 1, 8, 9, 10, 11], [0, 8, 9, 10, 11, 12], [0, 8, 9, 10, 11, 12, 32], [0, 9, 10, 11, 12, 34], [0, 9, 10, 11, 12], [0, 9, 10, 11, 12], [0, 9, 10, 11, 12], [9, 11], [11, 49], [11, 49, 51], [6, 7], [11, 54], [6, 7], [6, 7]] = some c234 := by kernel_rfl
set_option maxRecDepth 100000 in
theorem ec_c235 : cFunc Tryz.prog ecNames.ψ Tryz.f133 [[0, 2, 6], [0, 6, 7], [0, 6, 7], [0, 6, 7, 13], [0, 6, 7], [0, 6, 7], [0, 6, 7]] = some c235 := by kernel_rfl
set_option maxRecDepth 100000 in
theorem ec_c236 : cFunc Tryz.prog ecNames.ψ Tryz.f134 [[0, 1, 2], [0, 1, 2, 7], [0, 1, 2, 7, 8], [0, 1, 2, 7, 8], [0, 1, 2, 7, 8, 14], [0, 1, 2, 7, 8], [0, 1, 2, 7, 8, 32], [0, 1, 2, 7, 8], [0, 1, 2, 7, 8, 37], [6], [0, 1, 2, 7, 8, 41], [6], [0, 1, 2, 7, 8], [0, 1, 2, 7, 8, 61], [0, 1, 2, 7, 8, 9], [0, 1, 2, 7, 8, 9], [0, 1, 2, 7, 8, 9, 65], [0, 1, 2, 7, 8, 9, 78], [0, 1, 2, 7, 8, 9], [0, 1, 2, 7, 8, 9], [0, 1, 2, 7, 8, 98], [0, 1, 2, 7, 8, 10], [0, 1, 2, 7, 8, 10], [0, 1, 2, 7, 8, 10, 103], [0, 1, 2, 7, 8, 10, 116], [0, 1, 2, 7, 8, 10], [0, 1, 2, 7, 8, 10], [0, 1, 2, 7, 8], [6]] = some c236 := by kernel_rfl
set_option maxRecDepth 100000 in
theorem ec_c237 : cFunc Tryz.prog ecNames.ψ Tryz.f135 [[0, 1], [4]] = some c237 := by kernel_rfl
set_option maxRecDepth 100000 in
theorem ec_c238 : cFunc Tryz.prog ecNames.ψ Tryz.f136 [[0, 1, 2, 3], [0, 1, 2], [0, 1, 9, 10], [0, 1, 9, 10], [0, 1, 9, 10], [0, 1, 9, 10, 43], [0, 1, 9, 10], [0, 1, 9, 10], [0, 1, 9, 10, 59], [0, 1, 9, 10], [0, 1, 9, 10, 64], [0, 1, 9, 10], [0, 1, 9, 10], [0, 1, 9, 10], [8]] = some c238 := by kernel_rfl
set_option maxRecDepth 100000 in
theorem ec_c239 : cFunc Tryz.prog ecNames.ψ Tryz.f137 [[0, 1, 2, 3], [0, 1, 2], [0, 1, 10, 11], [0, 1, 10, 11], [0, 1, 10, 11, 43], [0, 1, 10, 11], [0, 1, 10, 11], [0, 1, 10, 11, 60], [0, 1, 10, 11], [0, 1, 10, 11, 65], [11], [8, 9], [0, 1, 10, 11], [0, 1, 10, 11], [0, 1, 10, 11], [0, 1, 10, 11], [0, 1, 10, 11], [0, 1, 10, 11, 112], [0, 1, 10, 11], [0, 1, 10, 11], [0, 1, 10, 11, 129], [0, 1, 10, 11], [0, 1, 10, 11, 134], [0, 1, 10, 11], [0, 1, 10, 11], [0, 1, 10, 11], [11], [8, 9]] = some c239 := by kernel_rfl
set_option maxRecDepth 100000 in
theorem ec_c249 : cFunc Tryz.prog ecNames.ψ Tryz.f144 [[0, 1], [6], [4, 5]] = some c249 := by kernel_rfl
set_option maxRecDepth 100000 in
theorem ec_c250 : cFunc Tryz.prog ecNames.ψ Tryz.f145 [[0, 1], [0, 1, 6], [0, 1, 6, 7], [0, 1, 6, 7, 8], [0, 1, 6, 7, 8, 9], [0, 1, 6, 7, 8, 9, 10], [0, 1, 6, 7, 9, 11], [0, 1, 6, 7, 9, 11, 12], [0, 1, 6, 7, 9, 12, 13], [0, 1, 7, 9, 12, 13], [0, 1, 4], [4, 5]] = some c250 := by kernel_rfl
set_option maxRecDepth 100000 in
theorem ec_c251 : cFunc Tryz.prog ecNames.ψ Tryz.f146 [[0, 1, 2, 3, 4], [1, 2, 3, 22], [1, 2], [10, 11], [10, 11]] = some c251 := by kernel_rfl
set_option maxRecDepth 100000 in
theorem ec_c252 : cFunc Tryz.prog ecNames.ψ Tryz.f147 [[0, 2, 3, 8], [0, 2, 3, 8], [0, 2, 3, 8, 9], [0, 2, 3, 8, 9, 16], [0, 2, 3, 8, 9, 36], [0, 2, 3, 8, 9], [0, 2, 3, 8, 9, 52], [0, 2, 3, 9], [0, 2, 3, 8]] = some c252 := by kernel_rfl
set_option maxRecDepth 100000 in
theorem ec_c253 : cFunc Tryz.prog ecNames.ψ Tryz.f148 [[0, 1, 2], [6]] = some c253 := by kernel_rfl
set_option maxRecDepth 100000 in
theorem ec_c254 : cFunc Tryz.prog ecNames.ψ Tryz.f149 [[0, 1, 2, 3, 4], [0, 1, 2, 3, 4], [0, 1, 2, 4], [2], [10]] = some c254 := by kernel_rfl
set_option maxRecDepth 100000 in
theorem ec_c257 : cFunc Tryz.prog ecNames.ψ Tryz.f151 [[0, 1, 2, 3], [1, 2, 3, 18], [1, 2], [8, 9], [8, 9]] = some c257 := by kernel_rfl
theorem ecKnown : Known Tryz.prog ecNames ecG where
  ok := by kernel_rfl
  calls := by
    intro x hx
    simp only [ecNames, List.mem_cons, List.not_mem_nil, or_false] at hx
    rcases hx with rfl | rfl | rfl | rfl | rfl | rfl | rfl | rfl | rfl | rfl | rfl | rfl | rfl | rfl | rfl | rfl | rfl | rfl | rfl | rfl | rfl | rfl | rfl | rfl | rfl | rfl | rfl | rfl | rfl | rfl | rfl | rfl | rfl | rfl | rfl | rfl | rfl | rfl | rfl | rfl | rfl | rfl | rfl | rfl | rfl | rfl | rfl | rfl | rfl | rfl | rfl | rfl | rfl | rfl | rfl | rfl | rfl | rfl | rfl | rfl | rfl | rfl | rfl | rfl | rfl | rfl | rfl | rfl | rfl | rfl | rfl | rfl | rfl | rfl | rfl | rfl | rfl | rfl | rfl | rfl | rfl | rfl | rfl | rfl | rfl | rfl | rfl | rfl | rfl | rfl | rfl | rfl | rfl | rfl | rfl | rfl | rfl | rfl | rfl | rfl | rfl | rfl | rfl | rfl | rfl | rfl | rfl | rfl | rfl | rfl | rfl | rfl | rfl | rfl | rfl | rfl | rfl | rfl | rfl | rfl | rfl | rfl | rfl | rfl | rfl | rfl | rfl | rfl | rfl | rfl | rfl | rfl | rfl
    · exact Tryz.call3
    · exact Tryz.call4
    · exact Tryz.call5
    · exact Tryz.call6
    · exact Tryz.call7
    · exact Tryz.call8
    · exact Tryz.call9
    · exact Tryz.call10
    · exact Tryz.call11
    · exact Tryz.call12
    · exact Tryz.call13
    · exact Tryz.call14
    · exact Tryz.call15
    · exact Tryz.call16
    · exact Tryz.call17
    · exact Tryz.call18
    · exact Tryz.call19
    · exact Tryz.call20
    · exact Tryz.call21
    · exact Tryz.call22
    · exact Tryz.call23
    · exact Tryz.call24
    · exact Tryz.call25
    · exact Tryz.call26
    · exact Tryz.call27
    · exact Tryz.call28
    · exact Tryz.call29
    · exact Tryz.call30
    · exact Tryz.call31
    · exact Tryz.call32
    · exact Tryz.call33
    · exact Tryz.call34
    · exact Tryz.call35
    · exact Tryz.call36
    · exact Tryz.call37
    · exact Tryz.call38
    · exact Tryz.call39
    · exact Tryz.call40
    · exact Tryz.call41
    · exact Tryz.call42
    · exact Tryz.call43
    · exact Tryz.call44
    · exact Tryz.call45
    · exact Tryz.call46
    · exact Tryz.call47
    · exact Tryz.call48
    · exact Tryz.call49
    · exact Tryz.call50
    · exact Tryz.call51
    · exact Tryz.call52
    · exact Tryz.call53
    · exact Tryz.call54
    · exact Tryz.call55
    · exact Tryz.call56
    · exact Tryz.call57
    · exact Tryz.call58
    · exact Tryz.call59
    · exact Tryz.call60
    · exact Tryz.call61
    · exact Tryz.call62
    · exact Tryz.call63
    · exact Tryz.call64
    · exact Tryz.call65
    · exact Tryz.call66
    · exact Tryz.call67
    · exact Tryz.call68
    · exact Tryz.call69
    · exact Tryz.call70
    · exact Tryz.call71
    · exact Tryz.call72
    · exact Tryz.call73
    · exact Tryz.call74
    · exact Tryz.call75
    · exact Tryz.call76
    · exact Tryz.call77
    · exact Tryz.call78
    · exact Tryz.call79
    · exact Tryz.call80
    · exact Tryz.call81
    · exact Tryz.call85
    · exact Tryz.call86
    · exact Tryz.call87
    · exact Tryz.call88
    · exact Tryz.call89
    · exact Tryz.call90
    · exact Tryz.call91
    · exact Tryz.call92
    · exact Tryz.call93
    · exact Tryz.call94
    · exact Tryz.call95
    · exact Tryz.call96
    · exact Tryz.call97
    · exact Tryz.call98
    · exact Tryz.call99
    · exact Tryz.call100
    · exact Tryz.call101
    · exact Tryz.call102
    · exact Tryz.call103
    · exact Tryz.call104
    · exact Tryz.call105
    · exact Tryz.call106
    · exact Tryz.call107
    · exact Tryz.call108
    · exact Tryz.call109
    · exact Tryz.call110
    · exact Tryz.call111
    · exact Tryz.call112
    · exact Tryz.call113
    · exact Tryz.call120
    · exact Tryz.call121
    · exact Tryz.call122
    · exact Tryz.call123
    · exact Tryz.call124
    · exact Tryz.call125
    · exact Tryz.call126
    · exact Tryz.call127
    · exact Tryz.call128
    · exact Tryz.call129
    · exact Tryz.call130
    · exact Tryz.call131
    · exact Tryz.call132
    · exact Tryz.call133
    · exact Tryz.call134
    · exact Tryz.call135
    · exact Tryz.call136
    · exact Tryz.call137
    · exact Tryz.call144
    · exact Tryz.call145
    · exact Tryz.call146
    · exact Tryz.call147
    · exact Tryz.call148
    · exact Tryz.call149
    · exact Tryz.call151
  code := by
    intro x hx
    simp only [ecNames, List.mem_cons, List.not_mem_nil, or_false] at hx
    rcases hx with rfl | rfl | rfl | rfl | rfl | rfl | rfl | rfl | rfl | rfl | rfl | rfl | rfl | rfl | rfl | rfl | rfl | rfl | rfl | rfl | rfl | rfl | rfl | rfl | rfl | rfl | rfl | rfl | rfl | rfl | rfl | rfl | rfl | rfl | rfl | rfl | rfl | rfl | rfl | rfl | rfl | rfl | rfl | rfl | rfl | rfl | rfl | rfl | rfl | rfl | rfl | rfl | rfl | rfl | rfl | rfl | rfl | rfl | rfl | rfl | rfl | rfl | rfl | rfl | rfl | rfl | rfl | rfl | rfl | rfl | rfl | rfl | rfl | rfl | rfl | rfl | rfl | rfl | rfl | rfl | rfl | rfl | rfl | rfl | rfl | rfl | rfl | rfl | rfl | rfl | rfl | rfl | rfl | rfl | rfl | rfl | rfl | rfl | rfl | rfl | rfl | rfl | rfl | rfl | rfl | rfl | rfl | rfl | rfl | rfl | rfl | rfl | rfl | rfl | rfl | rfl | rfl | rfl | rfl | rfl | rfl | rfl | rfl | rfl | rfl | rfl | rfl | rfl | rfl | rfl | rfl | rfl | rfl
    · exact .inl ⟨_, _, Tryz.func3, ec_c17⟩
    · exact .inl ⟨_, _, Tryz.func4, ec_c22⟩
    · exact .inl ⟨_, _, Tryz.func5, ec_c23⟩
    · exact .inl ⟨_, _, Tryz.func6, ec_c31⟩
    · exact .inl ⟨_, _, Tryz.func7, ec_c37⟩
    · exact .inl ⟨_, _, Tryz.func8, ec_c33⟩
    · exact .inl ⟨_, _, Tryz.func9, ec_c38⟩
    · exact .inl ⟨_, _, Tryz.func10, ec_c39⟩
    · exact .inl ⟨_, _, Tryz.func11, ec_c36⟩
    · exact .inl ⟨_, _, Tryz.func12, ec_c40⟩
    · exact .inl ⟨_, _, Tryz.func13, ec_c41⟩
    · exact .inl ⟨_, _, Tryz.func14, ec_c59⟩
    · exact .inl ⟨_, _, Tryz.func15, ec_c60⟩
    · exact .inl ⟨_, _, Tryz.func16, ec_c61⟩
    · exact .inl ⟨_, _, Tryz.func17, ec_c62⟩
    · exact .inl ⟨_, _, Tryz.func18, ec_c63⟩
    · exact .inl ⟨_, _, Tryz.func19, ec_c64⟩
    · exact .inl ⟨_, _, Tryz.func20, ec_c65⟩
    · exact .inl ⟨_, _, Tryz.func21, ec_c66⟩
    · exact .inl ⟨_, _, Tryz.func22, ec_c53⟩
    · exact .inl ⟨_, _, Tryz.func23, ec_c67⟩
    · exact .inl ⟨_, _, Tryz.func24, ec_c68⟩
    · exact .inl ⟨_, _, Tryz.func25, ec_c69⟩
    · exact .inl ⟨_, _, Tryz.func26, ec_c70⟩
    · exact .inl ⟨_, _, Tryz.func27, ec_c78⟩
    · exact .inl ⟨_, _, Tryz.func28, ec_c79⟩
    · exact .inl ⟨_, _, Tryz.func29, ec_c80⟩
    · exact .inl ⟨_, _, Tryz.func30, ec_c81⟩
    · exact .inl ⟨_, _, Tryz.func31, ec_c82⟩
    · exact .inl ⟨_, _, Tryz.func32, ec_c83⟩
    · exact .inl ⟨_, _, Tryz.func33, ec_c84⟩
    · exact .inl ⟨_, _, Tryz.func34, ec_c85⟩
    · exact .inr ⟨3, rfl⟩
    · exact .inr ⟨2, rfl⟩
    · exact .inl ⟨_, _, Tryz.func37, ec_c104⟩
    · exact .inl ⟨_, _, Tryz.func38, ec_c105⟩
    · exact .inl ⟨_, _, Tryz.func39, ec_c106⟩
    · exact .inl ⟨_, _, Tryz.func40, ec_c107⟩
    · exact .inl ⟨_, _, Tryz.func41, ec_c108⟩
    · exact .inl ⟨_, _, Tryz.func42, ec_c109⟩
    · exact .inl ⟨_, _, Tryz.func43, ec_c110⟩
    · exact .inl ⟨_, _, Tryz.func44, ec_c111⟩
    · exact .inl ⟨_, _, Tryz.func45, ec_c112⟩
    · exact .inl ⟨_, _, Tryz.func46, ec_c113⟩
    · exact .inl ⟨_, _, Tryz.func47, ec_c114⟩
    · exact .inl ⟨_, _, Tryz.func48, ec_c115⟩
    · exact .inl ⟨_, _, Tryz.func49, ec_c116⟩
    · exact .inl ⟨_, _, Tryz.func50, ec_c117⟩
    · exact .inl ⟨_, _, Tryz.func51, ec_c118⟩
    · exact .inl ⟨_, _, Tryz.func52, ec_c119⟩
    · exact .inl ⟨_, _, Tryz.func53, ec_c120⟩
    · exact .inl ⟨_, _, Tryz.func54, ec_c101⟩
    · exact .inl ⟨_, _, Tryz.func55, ec_c99⟩
    · exact .inl ⟨_, _, Tryz.func56, ec_c102⟩
    · exact .inl ⟨_, _, Tryz.func57, ec_c121⟩
    · exact .inl ⟨_, _, Tryz.func58, ec_c58⟩
    · exact .inl ⟨_, _, Tryz.func59, ec_c122⟩
    · exact .inl ⟨_, _, Tryz.func60, ec_c98⟩
    · exact .inl ⟨_, _, Tryz.func61, ec_c123⟩
    · exact .inl ⟨_, _, Tryz.func62, ec_c124⟩
    · exact .inl ⟨_, _, Tryz.func63, ec_c140⟩
    · exact .inl ⟨_, _, Tryz.func64, ec_c141⟩
    · exact .inl ⟨_, _, Tryz.func65, ec_c142⟩
    · exact .inl ⟨_, _, Tryz.func66, ec_c143⟩
    · exact .inl ⟨_, _, Tryz.func67, ec_c144⟩
    · exact .inl ⟨_, _, Tryz.func68, ec_c145⟩
    · exact .inl ⟨_, _, Tryz.func69, ec_c146⟩
    · exact .inl ⟨_, _, Tryz.func70, ec_c147⟩
    · exact .inl ⟨_, _, Tryz.func71, ec_c148⟩
    · exact .inl ⟨_, _, Tryz.func72, ec_c100⟩
    · exact .inl ⟨_, _, Tryz.func73, ec_c149⟩
    · exact .inl ⟨_, _, Tryz.func74, ec_c52⟩
    · exact .inl ⟨_, _, Tryz.func75, ec_c56⟩
    · exact .inl ⟨_, _, Tryz.func76, ec_c30⟩
    · exact .inl ⟨_, _, Tryz.func77, ec_c150⟩
    · exact .inl ⟨_, _, Tryz.func78, ec_c151⟩
    · exact .inl ⟨_, _, Tryz.func79, ec_c152⟩
    · exact .inl ⟨_, _, Tryz.func80, ec_c153⟩
    · exact .inr ⟨3, rfl⟩
    · exact .inl ⟨_, _, Tryz.func85, ec_c171⟩
    · exact .inl ⟨_, _, Tryz.func86, ec_c172⟩
    · exact .inl ⟨_, _, Tryz.func87, ec_c173⟩
    · exact .inl ⟨_, _, Tryz.func88, ec_c174⟩
    · exact .inl ⟨_, _, Tryz.func89, ec_c175⟩
    · exact .inl ⟨_, _, Tryz.func90, ec_c176⟩
    · exact .inl ⟨_, _, Tryz.func91, ec_c177⟩
    · exact .inl ⟨_, _, Tryz.func92, ec_c178⟩
    · exact .inl ⟨_, _, Tryz.func93, ec_c179⟩
    · exact .inl ⟨_, _, Tryz.func94, ec_c180⟩
    · exact .inl ⟨_, _, Tryz.func95, ec_c181⟩
    · exact .inr ⟨0, rfl⟩
    · exact .inl ⟨_, _, Tryz.func97, ec_c103⟩
    · exact .inl ⟨_, _, Tryz.func98, ec_c187⟩
    · exact .inl ⟨_, _, Tryz.func99, ec_c188⟩
    · exact .inl ⟨_, _, Tryz.func100, ec_c189⟩
    · exact .inl ⟨_, _, Tryz.func101, ec_c190⟩
    · exact .inl ⟨_, _, Tryz.func102, ec_c191⟩
    · exact .inl ⟨_, _, Tryz.func103, ec_c192⟩
    · exact .inl ⟨_, _, Tryz.func104, ec_c193⟩
    · exact .inl ⟨_, _, Tryz.func105, ec_c194⟩
    · exact .inl ⟨_, _, Tryz.func106, ec_c195⟩
    · exact .inl ⟨_, _, Tryz.func107, ec_c196⟩
    · exact .inl ⟨_, _, Tryz.func108, ec_c197⟩
    · exact .inl ⟨_, _, Tryz.func109, ec_c198⟩
    · exact .inl ⟨_, _, Tryz.func110, ec_c199⟩
    · exact .inl ⟨_, _, Tryz.func111, ec_c57⟩
    · exact .inr ⟨4, rfl⟩
    · exact .inl ⟨_, _, Tryz.func113, ec_c201⟩
    · exact .inl ⟨_, _, Tryz.func120, ec_c222⟩
    · exact .inl ⟨_, _, Tryz.func121, ec_c223⟩
    · exact .inl ⟨_, _, Tryz.func122, ec_c224⟩
    · exact .inl ⟨_, _, Tryz.func123, ec_c225⟩
    · exact .inl ⟨_, _, Tryz.func124, ec_c226⟩
    · exact .inl ⟨_, _, Tryz.func125, ec_c227⟩
    · exact .inl ⟨_, _, Tryz.func126, ec_c228⟩
    · exact .inl ⟨_, _, Tryz.func127, ec_c229⟩
    · exact .inl ⟨_, _, Tryz.func128, ec_c230⟩
    · exact .inl ⟨_, _, Tryz.func129, ec_c231⟩
    · exact .inl ⟨_, _, Tryz.func130, ec_c232⟩
    · exact .inl ⟨_, _, Tryz.func131, ec_c233⟩
    · exact .inl ⟨_, _, Tryz.func132, ec_c234⟩
    · exact .inl ⟨_, _, Tryz.func133, ec_c235⟩
    · exact .inl ⟨_, _, Tryz.func134, ec_c236⟩
    · exact .inl ⟨_, _, Tryz.func135, ec_c237⟩
    · exact .inl ⟨_, _, Tryz.func136, ec_c238⟩
    · exact .inl ⟨_, _, Tryz.func137, ec_c239⟩
    · exact .inl ⟨_, _, Tryz.func144, ec_c249⟩
    · exact .inl ⟨_, _, Tryz.func145, ec_c250⟩
    · exact .inl ⟨_, _, Tryz.func146, ec_c251⟩
    · exact .inl ⟨_, _, Tryz.func147, ec_c252⟩
    · exact .inl ⟨_, _, Tryz.func148, ec_c253⟩
    · exact .inl ⟨_, _, Tryz.func149, ec_c254⟩
    · exact .inl ⟨_, _, Tryz.func151, ec_c257⟩
end Go.Jq
