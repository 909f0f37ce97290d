/- Each function of this translation has the small code that was printed for it. -/
import Derived.Test.YtmaemogjdnlcoaaGreatDoorRows
import Derived.KernelRfl
import Derived.Test.YtmaemogjdnlcoaaGreatDoorM3
import Derived.Test.YtmaemogjdnlcoaaGreatDoorC2
set_option linter.unusedSimpArgs false
set_option linter.unusedVariables false
namespace Go.Jq
open Go.Proofs

def countsNames : Names := [(16, 3), (19, 6), (20, 7), (21, 8), (28, 15), (29, 16), (30, 17), (31, 18), (32, 19), (33, 20), (34, 21), (35, 22), (36, 23), (38, 25), (51, 38), (52, 39), (53, 40), (54, 41), (55, 42), (56, 43), (57, 44), (58, 45), (59, 46), (60, 47), (61, 48), (62, 49), (63, 50), (64, 51), (65, 52), (66, 53), (67, 54), (68, 55), (69, 56), (70, 57), (71, 58), (72, 59), (73, 60), (74, 61), (75, 62), (76, 63), (77, 64), (78, 65), (79, 66), (98, 85), (99, 86), (100, 87), (101, 88), (102, 89), (103, 90), (104, 91), (105, 92), (106, 93), (107, 94), (108, 95), (109, 96), (110, 97), (111, 98), (112, 99), (113, 100), (114, 101), (115, 102), (116, 103), (117, 104), (118, 105), (119, 106), (120, 107), (121, 108), (122, 109), (123, 110), (124, 111), (125, 112), (126, 113), (127, 114), (128, 115), (129, 116), (130, 117), (131, 118), (132, 119), (133, 120), (134, 121), (135, 122), (136, 123), (137, 124), (138, 125), (139, 126), (140, 127), (141, 128), (142, 129), (143, 130), (144, 131), (145, 132), (146, 133), (147, 134), (170, 158), (171, 159), (172, 160), (173, 161), (174, 162), (175, 163), (176, 164), (177, 165), (178, 166), (179, 167), (180, 168), (181, 169), (182, 170), (183, 171), (184, 172), (185, 173), (186, 174), (187, 175), (188, 176), (189, 177), (190, 178), (191, 179), (192, 180), (193, 181), (194, 182), (195, 183), (196, 184), (197, 185), (198, 186), (222, 212), (223, 213), (224, 214), (225, 215), (226, 216), (227, 217), (228, 218), (229, 219), (230, 220), (249, 245), (250, 246), (251, 247)]
def countsG : Nat → SFunc
  | 16 => c16
  | 19 => c19
  | 20 => c20
  | 21 => c21
  | 28 => c28
  | 29 => c29
  | 30 => c30
  | 31 => c31
  | 32 => c32
  | 33 => c33
  | 34 => c34
  | 35 => c35
  | 36 => c36
  | 38 => c38
  | 51 => c51
  | 52 => c52
  | 53 => c53
  | 54 => c54
  | 55 => c55
  | 56 => c56
  | 57 => c57
  | 58 => c58
  | 59 => c59
  | 60 => c60
  | 61 => c61
  | 62 => c62
  | 63 => c63
  | 64 => c64
  | 65 => c65
  | 66 => c66
  | 67 => c67
  | 68 => c68
  | 69 => c69
  | 70 => c70
  | 71 => c71
  | 72 => c72
  | 73 => c73
  | 74 => c74
  | 75 => c75
  | 76 => c76
  | 77 => c77
  | 78 => c78
  | 79 => c79
  | 98 => c98
  | 99 => c99
  | 100 => c100
  | 101 => c101
  | 102 => c102
  | 103 => c103
  | 104 => c104
  | 105 => c105
  | 106 => c106
  | 107 => c107
  | 108 => c108
  | 109 => c109
  | 110 => c110
  | 111 => c111
  | 112 => c112
  | 113 => c113
  | 114 => c114
  | 115 => c115
  | 116 => c116
  | 117 => c117
  | 118 => c118
  | 119 => c119
  | 120 => c120
  | 121 => c121
  | 122 => c122
  | 123 => c123
  | 124 => c124
  | 125 => c125
  | 126 => c126
  | 127 => c127
  | 128 => c128
  | 129 => c129
  | 130 => c130
  | 131 => c131
  | 132 => c132
  | 133 => c133
  | 134 => c134
  | 135 => c135
  | 136 => c136
  | 137 => c137
  | 138 => c138
  | 139 => c139
  | 140 => c140
  | 141 => c141
  | 142 => c142
  | 143 => c143
  | 144 => c144
  | 145 => c145
  | 146 => c146
  | 147 => c147
  | 170 => c170
  | 171 => c171
  | 172 => c172
  | 173 => c173
  | 174 => c174
  | 175 => c175
  | 176 => c176
  | 177 => c177
  | 178 => c178
  | 179 => c179
  | 180 => c180
  | 181 => c181
  | 182 => c182
  | 183 => c183
  | 184 => c184
  | 185 => c185
  | 186 => c186
  | 187 => c187
  | 188 => c188
  | 189 => c189
  | 190 => c190
  | 191 => c191
  | 192 => c192
  | 193 => c193
  | 194 => c194
  | 195 => c195
  | 196 => c196
  | 197 => c197
  | 198 => c198
  | 222 => c222
  | 223 => c223
  | 224 => c224
  | 225 => c225
  | 226 => c226
  | 227 => c227
  | 228 => c228
  | 229 => c229
  | 230 => c230
  | 249 => c249
  | 250 => c250
  | 251 => c251
  | _ => ⟨0, 0, .skip, []⟩

set_option maxRecDepth 100000 in
theorem counts_c16 : cFunc Tryz.prog countsNames.ψ Tryz.f3 [[0], [0], [0, 3], [0, 4], [0, 4, 5, 6], [0, 5, 6, 7, 8], [2]] = some c16 := by kernel_rfl
set_option maxRecDepth 100000 in
theorem counts_c19 : cFunc Tryz.prog countsNames.ψ Tryz.f6 [[3, 4, 5], [3, 4, 5, 15], [6, 7], [3, 4, 5], [3, 4, 5, 8], [3, 4, 5, 8, 9], [5, 8], [8, 26], [6, 7], [8], [6, 7]] = some c19 := by kernel_rfl
set_option maxRecDepth 100000 in
theorem counts_c20 : cFunc Tryz.prog countsNames.ψ Tryz.f7 [[0], [0, 1], [0]] = some c20 := by kernel_rfl
set_option maxRecDepth 100000 in
theorem counts_c21 : cFunc Tryz.prog countsNames.ψ Tryz.f8 [[], [1, 2], [1, 2, 3, 4], [0]] = some c21 := by kernel_rfl
set_option maxRecDepth 100000 in
theorem counts_c28 : cFunc Tryz.prog countsNames.ψ Tryz.f15 [[0, 1], [4]] = some c28 := by kernel_rfl
set_option maxRecDepth 100000 in
theorem counts_c29 : cFunc Tryz.prog countsNames.ψ Tryz.f16 [[1, 2, 4], [1, 2, 4, 5], [1, 2, 4, 5, 6], [1, 2, 4, 5, 6, 7], [1, 2, 4, 5, 6, 7, 22, 23, 24], [1, 2, 4, 5, 6, 7, 22, 23, 24], [1, 2, 4, 5, 6, 7, 22, 23, 24, 25], [1, 2, 4, 5, 6, 7, 8, 9, 22, 23, 24], [1, 2, 4, 5, 6, 7, 8, 9, 22, 23, 24, 31], [1, 2, 4, 5, 6, 7, 8, 9, 22, 23, 24, 35, 36, 37], [1, 2, 4, 5, 6, 7, 8, 9, 22, 23, 24, 35, 36, 37], [1, 2, 4, 5, 6, 7, 8, 9, 22, 23, 24, 35, 36, 37, 38], [1, 2, 4, 5, 6, 7, 8, 9, 11, 22, 23, 24, 35, 36, 37], [1, 2, 4, 5, 6, 7, 8, 9, 11, 22, 23, 24, 35, 36, 37, 45], [1, 2, 4, 5, 6, 7, 8, 9, 11, 22, 23, 24, 35, 36, 37, 49, 50, 51], [1, 2, 4, 5, 6, 7, 8, 9, 11, 22, 23, 24, 35, 36, 37, 49, 50, 51], [1, 2, 4, 5, 6, 7, 8, 9, 11, 22, 23, 24, 35, 36, 37, 49, 50, 51, 52], [1, 2, 4, 5, 6, 7, 8, 9, 11, 13, 22, 23, 24, 35, 36, 37, 49, 50, 51], [1, 2, 4, 5, 6, 7, 8, 9, 11, 13, 22, 23, 24, 35, 36, 37, 49, 50, 51, 58, 59, 60], [1, 2, 4, 5, 6, 7, 8, 9, 11, 13, 22, 23, 24, 35, 36, 37, 49, 50, 51, 58, 59, 60], [1, 2, 4, 5, 6, 7, 8, 9, 11, 13, 22, 23, 24, 35, 36, 37, 49, 50, 51, 58, 59, 60, 61], [1, 2, 4, 5, 6, 7, 8, 9, 11, 13, 15, 22, 23, 24, 35, 36, 37, 49, 50, 51, 58, 59, 60], [1, 2, 4, 5, 6, 7, 8, 9, 11, 13, 15, 22, 23, 24, 35, 36, 37, 49, 50, 51, 58, 59, 60, 66], [1, 2, 4, 5, 6, 7, 8, 9, 11, 13, 22, 23, 24, 35, 36, 37, 49, 50, 51, 58, 59, 60], [1, 2, 4, 5, 6, 7, 8, 9, 11, 13, 22, 23, 24, 35, 36, 37, 49, 50, 51, 58, 59, 60], [1, 2, 4, 5, 6, 7, 8, 9, 11, 22, 23, 24, 35, 36, 37, 49, 50, 51], [1, 2, 4, 5, 6, 7, 8, 9, 22, 23, 24, 35, 36, 37], [1, 2, 4, 5, 6, 7, 8, 22, 23, 24, 83], [1, 2, 4, 5, 6, 7, 22, 23, 24], [1, 2, 4, 5, 6, 7, 22, 23, 24], [4]] = some c29 := by kernel_rfl
set_option maxRecDepth 100000 in
theorem counts_c30 : cFunc Tryz.prog countsNames.ψ Tryz.f17 [[1], [3], [3, 8, 9], [3, 8, 9], [3, 8, 9, 10], [3, 4, 8, 9], [3, 8, 9, 17], [2], [3, 8, 9], [2]] = some c30 := by kernel_rfl
set_option maxRecDepth 100000 in
theorem counts_c31 : cFunc Tryz.prog countsNames.ψ Tryz.f18 [[1, 2, 3], [1, 2, 3, 12], [3, 6], [3, 6, 23, 24, 25], [3, 6, 23, 24, 25], [3, 6, 23, 24, 25, 26], [3, 6, 7, 8, 23, 24, 25], [3, 6, 23, 24, 25], [3, 6, 23, 24, 25], [3, 6, 48, 49], [3, 6, 48, 49], [3, 6, 48, 49, 50], [3, 6, 9, 48, 49], [3, 6, 9, 48, 49], [3, 6, 48, 49], [3, 6, 48, 49], []] = some c31 := by kernel_rfl
set_option maxRecDepth 100000 in
theorem counts_c32 : cFunc Tryz.prog countsNames.ψ Tryz.f19 [[0, 1, 2, 3, 4, 5], [8]] = some c32 := by kernel_rfl
set_option maxRecDepth 100000 in
theorem counts_c33 : cFunc Tryz.prog countsNames.ψ Tryz.f20 [[5, 6, 7, 8, 9], [6, 7, 8, 9, 11], [6, 7, 9, 11, 12], [6, 7, 9, 11, 13], [10]] = some c33 := by kernel_rfl
set_option maxRecDepth 100000 in
theorem counts_c34 : cFunc Tryz.prog countsNames.ψ Tryz.f21 [[1, 2, 3, 4], [2, 3, 4, 8], [2, 3], [5]] = some c34 := by kernel_rfl
set_option maxRecDepth 100000 in
theorem counts_c35 : cFunc Tryz.prog countsNames.ψ Tryz.f22 [[0, 3], [0, 3, 25], [4], [0, 3, 5, 6, 7, 8], [0, 3, 5, 6, 9], [4]] = some c35 := by kernel_rfl
set_option maxRecDepth 100000 in
theorem counts_c36 : cFunc Tryz.prog countsNames.ψ Tryz.f23 [[]] = some c36 := by kernel_rfl
set_option maxRecDepth 100000 in
theorem counts_c38 : cFunc Tryz.prog countsNames.ψ Tryz.f25 [[0, 2], [2]] = some c38 := by kernel_rfl
set_option maxRecDepth 100000 in
theorem counts_c51 : cFunc Tryz.prog countsNames.ψ Tryz.f38 [[0, 1, 2], [5]] = some c51 := by kernel_rfl
set_option maxRecDepth 100000 in
theorem counts_c52 : cFunc Tryz.prog countsNames.ψ Tryz.f39 [[0, 2], [0, 2, 10], [2], [0, 2, 3], [0, 2, 3, 15, 16, 17], [0, 2, 3, 15, 16, 17], [0, 2, 3, 15, 16, 17, 18], [0, 2, 3, 4, 5, 15, 16, 17], [0, 2, 3, 4, 5, 15, 16, 17, 22, 23, 24], [0, 2, 3, 4, 5, 15, 16, 17, 22, 23, 24], [0, 2, 3, 4, 5, 15, 16, 17, 22, 23, 24, 25], [0, 2, 3, 4, 5, 6, 7, 15, 16, 17, 22, 23, 24], [0, 2, 3, 4, 5, 6, 15, 16, 17, 22, 23, 24, 55], [0, 2, 3, 4, 5, 15, 16, 17, 22, 23, 24], [0, 2, 3, 4, 5, 15, 16, 17, 22, 23, 24], [0, 2, 3, 15, 16, 17], [2]] = some c52 := by kernel_rfl
set_option maxRecDepth 100000 in
theorem counts_c53 : cFunc Tryz.prog countsNames.ψ Tryz.f40 [[1, 2], [1, 2, 8], [4], [4]] = some c53 := by kernel_rfl
set_option maxRecDepth 100000 in
theorem counts_c54 : cFunc Tryz.prog countsNames.ψ Tryz.f41 [[0], [0, 3], [0, 3], [0, 3, 5], [0, 3], [0, 3], [2]] = some c54 := by kernel_rfl
set_option maxRecDepth 100000 in
theorem counts_c55 : cFunc Tryz.prog countsNames.ψ Tryz.f42 [[0, 1, 2], [0, 1, 2, 7], [0, 1, 2, 7, 19], [0, 2, 7], [2, 7, 31], [7], [6]] = some c55 := by kernel_rfl
set_option maxRecDepth 100000 in
theorem counts_c56 : cFunc Tryz.prog countsNames.ψ Tryz.f43 [[1, 2, 3, 6], [1, 2, 3, 6, 14], [3, 6], [6]] = some c56 := by kernel_rfl
set_option maxRecDepth 100000 in
theorem counts_c57 : cFunc Tryz.prog countsNames.ψ Tryz.f44 [[1, 2], [1, 2, 6, 7], [1, 2, 6, 7], [1, 2, 6, 7, 8], [1, 2, 3, 6, 7], [1, 2, 3, 6, 7, 11, 12], [1, 2, 3, 6, 7, 11, 12], [1, 2, 3, 6, 7, 11, 12, 13], [1, 2, 3, 4, 6, 7, 11, 12], [1, 2, 3, 4, 6, 7, 11, 12, 20], [1, 2, 3, 6, 7, 11, 12], [1, 2, 3, 6, 7, 11, 12], [1, 2, 6, 7], [2]] = some c57 := by kernel_rfl
set_option maxRecDepth 100000 in
theorem counts_c58 : cFunc Tryz.prog countsNames.ψ Tryz.f45 [[0, 1], [4]] = some c58 := by kernel_rfl
set_option maxRecDepth 100000 in
theorem counts_c59 : cFunc Tryz.prog countsNames.ψ Tryz.f46 [[1], [1, 37], [2], [1, 39, 40, 41], [1, 39, 40, 41], [1, 39, 40, 41, 42], [1, 3, 4, 39, 40, 41], [1, 39, 40, 41, 63], [2], [1, 39, 40, 41], [1, 5], [5, 67, 68, 69], [5, 67, 68, 69], [5, 67, 68, 69, 70], [5, 7, 67, 68, 69], [5, 67, 68, 69, 85], [2], [5, 67, 68, 69], [2]] = some c59 := by kernel_rfl
set_option maxRecDepth 100000 in
theorem counts_c60 : cFunc Tryz.prog countsNames.ψ Tryz.f47 [[1, 2, 4], [4]] = some c60 := by kernel_rfl
set_option maxRecDepth 100000 in
theorem counts_c61 : cFunc Tryz.prog countsNames.ψ Tryz.f48 [[0, 1, 4], [0, 1, 4], [0, 1, 4, 5, 6], [0, 1, 4, 5, 6], [0, 1, 4, 5, 32], [0, 1, 4, 5, 7, 8], [0, 1, 4, 5, 7, 42], [], [0, 1, 4], [0, 1, 4]] = some c61 := by kernel_rfl
set_option maxRecDepth 100000 in
theorem counts_c62 : cFunc Tryz.prog countsNames.ψ Tryz.f49 [[0], [0, 3], [0, 3, 4], [0, 3, 4], [0, 3, 4, 21, 22, 23], [0, 3, 4, 21, 22, 23], [0, 3, 4, 21, 22, 23, 24], [0, 3, 4, 5, 6, 21, 22, 23], [0, 3, 4, 5, 6, 21, 22, 23, 30], [0, 3, 4, 5, 6, 21, 22, 23], [0, 3, 4, 5, 6, 7, 21, 22, 23], [0, 3, 4, 5, 6, 7, 21, 22, 23], [0, 3, 4, 5, 6, 7, 21, 22, 23, 39], [0, 3, 4, 5, 6, 7, 21, 22, 23, 53], [0, 3, 4, 5, 6, 7, 8, 21, 22, 23], [0, 3, 4, 5, 6, 7, 8, 21, 22, 23], [0, 3, 4, 5, 6, 7, 8, 21, 22, 23], [0, 3, 4, 5, 6, 7, 8, 21, 22, 23, 77], [0, 3, 4, 5, 6, 7, 21, 22, 23, 79], [2], [0, 3, 4, 5, 6, 7, 21, 22, 23], [0, 3, 4, 5, 21, 22, 23, 86], [2], [0, 3, 4, 21, 22, 23], [0, 3, 4, 21, 22, 23], [2]] = some c62 := by kernel_rfl
set_option maxRecDepth 100000 in
theorem counts_c63 : cFunc Tryz.prog countsNames.ψ Tryz.f50 [[1, 2], [1, 5], [5, 12, 13, 14], [5, 12, 13, 14], [5, 12, 13, 14, 15], [5, 6, 7, 12, 13, 14], [5, 6, 7, 12, 13, 14, 20], [5, 12, 13, 14], [5, 12, 13, 14], [4]] = some c63 := by kernel_rfl
set_option maxRecDepth 100000 in
theorem counts_c64 : cFunc Tryz.prog countsNames.ψ Tryz.f51 [[1, 2], [1, 2, 3], [1, 2, 3, 10, 11], [1, 2, 3, 10, 11], [1, 2, 3, 10, 11, 12], [1, 2, 3, 4, 10, 11], [1, 2, 3, 4, 5, 10, 11], [1, 2, 3, 4, 5, 10, 11], [1, 2, 3, 4, 5, 10, 11, 19], [1, 2, 3, 4, 5, 10, 11], [1, 2, 3, 4, 5, 10, 11], [1, 2, 3, 10, 11], [2]] = some c64 := by kernel_rfl
set_option maxRecDepth 100000 in
theorem counts_c65 : cFunc Tryz.prog countsNames.ψ Tryz.f52 [[0, 1, 2, 3], [6]] = some c65 := by kernel_rfl
set_option maxRecDepth 100000 in
theorem counts_c66 : cFunc Tryz.prog countsNames.ψ Tryz.f53 [[3, 4, 5], [3, 4, 5, 7], [3, 4, 5, 7, 8], [3, 8], [6]] = some c66 := by kernel_rfl
set_option maxRecDepth 100000 in
theorem counts_c67 : cFunc Tryz.prog countsNames.ψ Tryz.f54 [[3, 4, 5], [3, 4, 5, 7], [3, 4, 5, 7, 8], [8], [6]] = some c67 := by kernel_rfl
set_option maxRecDepth 100000 in
theorem counts_c68 : cFunc Tryz.prog countsNames.ψ Tryz.f55 [[0, 1, 2, 3], [5]] = some c68 := by kernel_rfl
set_option maxRecDepth 100000 in
theorem counts_c69 : cFunc Tryz.prog countsNames.ψ Tryz.f56 [[0], [0, 4], [2], [2]] = some c69 := by kernel_rfl
set_option maxRecDepth 100000 in
theorem counts_c70 : cFunc Tryz.prog countsNames.ψ Tryz.f57 [[0], [0, 4], [2], [2]] = some c70 := by kernel_rfl
set_option maxRecDepth 100000 in
theorem counts_c71 : cFunc Tryz.prog countsNames.ψ Tryz.f58 [[1], [1, 3], [1, 3, 4], [1, 4, 23], [2], [2]] = some c71 := by kernel_rfl
set_option maxRecDepth 100000 in
theorem counts_c72 : cFunc Tryz.prog countsNames.ψ Tryz.f59 [[1], [1, 9], [2], [1, 11, 12, 13], [1, 11, 12, 13], [1, 11, 12, 13, 14], [1, 3, 4, 11, 12, 13], [1, 3, 11, 12, 13, 20], [1, 3, 5, 11, 12, 13], [1, 6, 11, 12, 13], [1, 11, 12, 13, 32], [2], [1, 11, 12, 13], [2]] = some c72 := by kernel_rfl
set_option maxRecDepth 100000 in
theorem counts_c73 : cFunc Tryz.prog countsNames.ψ Tryz.f60 [[1, 2, 3, 4, 5], [1, 2, 3, 4, 5, 22], [1, 2, 3, 4, 5, 6], [1, 2, 3, 4, 5, 6, 7], [1, 2, 3, 4, 5, 7], [1, 2, 3, 4, 5, 7, 33, 34, 35], [1, 2, 3, 4, 5, 7, 33, 34, 35], [1, 2, 3, 4, 5, 7, 33, 34, 35, 36], [1, 2, 3, 4, 5, 7, 8, 9, 33, 34, 35], [1, 2, 3, 4, 5, 7, 8, 33, 34, 35, 42], [1, 2, 3, 4, 5, 7, 33, 34, 35], [1, 2, 3, 4, 5, 7, 33, 34, 35], [1, 2, 3, 4, 5], [1, 2, 3, 4, 5, 53, 54, 55], [1, 2, 3, 4, 5, 53, 54, 55], [1, 2, 3, 4, 5, 53, 54, 55, 56], [1, 2, 3, 4, 5, 11, 53, 54, 55], [1, 2, 3, 4, 5, 11, 53, 54, 55, 59, 60, 61], [1, 2, 3, 4, 5, 11, 53, 54, 55, 59, 60, 61], [1, 2, 3, 4, 5, 11, 53, 54, 55, 59, 60, 61, 62], [1, 2, 3, 4, 5, 11, 12, 13, 53, 54, 55, 59, 60, 61], [1, 2, 3, 4, 5, 11, 13, 53, 54, 55, 59, 60, 61, 69, 70, 71], [1, 2, 3, 4, 5, 11, 13, 53, 54, 55, 59, 60, 61, 69, 70, 71], [1, 2, 3, 4, 5, 11, 13, 53, 54, 55, 59, 60, 61, 69, 70, 71, 72], [1, 2, 3, 4, 5, 11, 13, 15, 53, 54, 55, 59, 60, 61, 69, 70, 71], [1, 2, 3, 4, 5, 11, 13, 53, 54, 55, 59, 60, 61, 69, 70, 71], [1, 2, 3, 4, 5, 11, 13, 53, 54, 55, 59, 60, 61, 69, 70, 71], [1, 2, 3, 4, 5, 11, 53, 54, 55, 59, 60, 61], [1, 2, 3, 4, 5, 53, 54, 55], [1, 2, 3, 4, 5, 83, 84, 85], [1, 2, 3, 4, 5, 83, 84, 85], [1, 2, 3, 4, 5, 83, 84, 85, 86], [1, 2, 3, 4, 5, 16, 17, 83, 84, 85], [1, 2, 3, 4, 5, 16, 17, 83, 84, 85, 91], [1, 2, 3, 4, 5, 16, 17, 83, 84, 85], [1, 2, 3, 4, 5, 16, 83, 84, 85, 98, 99, 100], [1, 2, 3, 4, 5, 16, 83, 84, 85, 98, 99, 100], [1, 2, 3, 4, 5, 16, 83, 84, 85, 98, 99, 100, 101], [1, 2, 3, 4, 5, 16, 19, 83, 84, 85, 98, 99, 100], [1, 2, 3, 4, 5, 16, 19, 83, 84, 85, 98, 99, 100, 106], [1, 2, 3, 4, 5, 16, 83, 84, 85, 98, 99, 100], [1, 2, 3, 4, 5, 16, 83, 84, 85, 98, 99, 100], [1, 2, 3, 4, 5, 83, 84, 85], [2, 3, 4, 5]] = some c73 := by kernel_rfl
set_option maxRecDepth 100000 in
theorem counts_c74 : cFunc Tryz.prog countsNames.ψ Tryz.f61 [[2, 3, 4], [4]] = some c74 := by kernel_rfl
set_option maxRecDepth 100000 in
theorem counts_c75 : cFunc Tryz.prog countsNames.ψ Tryz.f62 [[3, 4, 5], [6]] = some c75 := by kernel_rfl
set_option maxRecDepth 100000 in
theorem counts_c76 : cFunc Tryz.prog countsNames.ψ Tryz.f63 [[0, 4, 5, 6], [0, 4, 5, 6, 14], [0, 4, 5, 6, 14, 16], [6], [0, 4, 5, 6, 14, 19], [0, 4, 5, 6, 19], [6], [0, 4, 5, 6, 7], [0, 4, 5, 6, 7, 8], [0, 4, 6, 7, 8, 29, 30, 31], [0, 4, 6, 7, 8, 29, 30, 31], [0, 4, 6, 7, 8, 29, 30, 31, 32], [0, 4, 6, 7, 8, 10, 29, 30, 31], [0, 4, 6, 7, 8, 10, 11, 12, 29, 30, 31], [0, 4, 6, 7, 8, 10, 13, 29, 30, 31], [0, 4, 6, 7, 8, 10, 29, 30, 31, 80], [0, 4, 6, 7, 8, 29, 30, 31], [0, 4, 6, 7, 8, 29, 30, 31], [6]] = some c76 := by kernel_rfl
set_option maxRecDepth 100000 in
theorem counts_c77 : cFunc Tryz.prog countsNames.ψ Tryz.f64 [[2, 3, 4], [2, 3, 4, 5], [2, 4, 5, 13, 14, 15], [2, 4, 5, 13, 14, 15], [2, 4, 5, 13, 14, 15, 16], [2, 4, 5, 7, 13, 14, 15], [2, 4, 5, 7, 8, 13, 14, 15], [2, 4, 5, 7, 13, 14, 15, 38], [2, 4, 5, 13, 14, 15], [2, 4, 5, 13, 14, 15], [4]] = some c77 := by kernel_rfl
set_option maxRecDepth 100000 in
theorem counts_c78 : cFunc Tryz.prog countsNames.ψ Tryz.f65 [[0, 1, 4], []] = some c78 := by kernel_rfl
set_option maxRecDepth 100000 in
theorem counts_c79 : cFunc Tryz.prog countsNames.ψ Tryz.f66 [[2, 3], [4]] = some c79 := by kernel_rfl
set_option maxRecDepth 100000 in
theorem counts_c98 : cFunc Tryz.prog countsNames.ψ Tryz.f85 [[1, 2], [4]] = some c98 := by kernel_rfl
set_option maxRecDepth 100000 in
theorem counts_c99 : cFunc Tryz.prog countsNames.ψ Tryz.f86 [[0], [0, 4], [2], [2]] = some c99 := by kernel_rfl
set_option maxRecDepth 100000 in
theorem counts_c100 : cFunc Tryz.prog countsNames.ψ Tryz.f87 [[1], [2]] = some c100 := by kernel_rfl
set_option maxRecDepth 100000 in
theorem counts_c101 : cFunc Tryz.prog countsNames.ψ Tryz.f88 [[1], [2]] = some c101 := by kernel_rfl
set_option maxRecDepth 100000 in
theorem counts_c102 : cFunc Tryz.prog countsNames.ψ Tryz.f89 [[0, 1], [4]] = some c102 := by kernel_rfl
set_option maxRecDepth 100000 in
theorem counts_c103 : cFunc Tryz.prog countsNames.ψ Tryz.f90 [[0], [0, 8], [2], [2]] = some c103 := by kernel_rfl
set_option maxRecDepth 100000 in
theorem counts_c104 : cFunc Tryz.prog countsNames.ψ Tryz.f91 [[1], [1, 3], [3, 7, 8, 9], [3, 7, 8, 9], [3, 7, 8, 9, 10], [3, 5, 7, 8, 9], [3, 7, 8, 9], [3, 7, 8, 9], [2]] = some c104 := by kernel_rfl
set_option maxRecDepth 100000 in
theorem counts_c105 : cFunc Tryz.prog countsNames.ψ Tryz.f92 [[0], [2]] = some c105 := by kernel_rfl
set_option maxRecDepth 100000 in
theorem counts_c106 : cFunc Tryz.prog countsNames.ψ Tryz.f93 [[0, 1], [3]] = some c106 := by kernel_rfl
set_option maxRecDepth 100000 in
theorem counts_c107 : cFunc Tryz.prog countsNames.ψ Tryz.f94 [[0], [0, 5, 6, 7], [0, 5, 6, 7], [0, 5, 6, 7, 8], [0, 3, 4, 5, 6, 7], [0, 5, 6, 7, 29], [2], [0, 5, 6, 7], [2]] = some c107 := by kernel_rfl
set_option maxRecDepth 100000 in
theorem counts_c108 : cFunc Tryz.prog countsNames.ψ Tryz.f95 [[0, 1], [4]] = some c108 := by kernel_rfl
set_option maxRecDepth 100000 in
theorem counts_c109 : cFunc Tryz.prog countsNames.ψ Tryz.f96 [[1, 2], [3]] = some c109 := by kernel_rfl
set_option maxRecDepth 100000 in
theorem counts_c110 : cFunc Tryz.prog countsNames.ψ Tryz.f97 [[1, 2], [1, 2, 5], [1, 2, 5, 6], [1, 2, 5, 6, 11], [1, 2, 5, 6, 11, 12], [1, 2, 5], [2, 5, 6], [1, 2, 5, 6, 11, 29], [1, 2, 5], [2, 5, 6], [1, 2, 5, 6, 11, 46], [1, 2, 5, 11, 48], [1, 2, 5], [2, 5, 6], [2, 5, 11, 81], [2, 5], [2, 5, 6], [2, 5, 129], [2, 5], [2, 5, 6], [4], [4]] = some c110 := by kernel_rfl
set_option maxRecDepth 100000 in
theorem counts_c111 : cFunc Tryz.prog countsNames.ψ Tryz.f98 [[0, 3, 4], [0, 3, 4], [0, 3, 4, 19], [0, 3, 4, 5], [0, 3, 4, 5, 6, 7], [0, 3, 4, 5, 6, 7, 34], [0, 3, 4, 5, 6, 7, 34, 36], [0, 3, 4, 5, 6, 8, 9], [0, 3, 4, 5, 6, 8, 46], [0, 3, 4, 5, 6], [0, 3, 4], [0, 3, 4, 5, 6, 7, 52], [0, 3, 4, 5, 56], [0, 3, 4], [4], [0, 3, 4], [4]] = some c111 := by kernel_rfl
set_option maxRecDepth 100000 in
theorem counts_c112 : cFunc Tryz.prog countsNames.ψ Tryz.f99 [[1, 2], [1, 2, 13], [4], [4]] = some c112 := by kernel_rfl
set_option maxRecDepth 100000 in
theorem counts_c113 : cFunc Tryz.prog countsNames.ψ Tryz.f100 [[1, 3, 5, 6], [5, 6, 8], [5, 6, 8, 22], [6, 7], [6, 9], [6, 9, 36], [6, 7], [6, 7]] = some c113 := by kernel_rfl
set_option maxRecDepth 100000 in
theorem counts_c114 : cFunc Tryz.prog countsNames.ψ Tryz.f101 [[2, 3, 4, 6], [2, 3, 4, 6, 9], [2, 3, 4, 6, 9, 10], [6, 7], [2, 3, 4, 6, 9, 19], [6, 7], [2, 3, 4, 6, 25], [2, 3, 4, 6, 32], [6, 7], [6, 7], [6, 7]] = some c114 := by kernel_rfl
set_option maxRecDepth 100000 in
theorem counts_c115 : cFunc Tryz.prog countsNames.ψ Tryz.f102 [[0, 1, 3, 6], [0, 1, 3, 6, 8], [0, 1, 3, 6, 8], [0, 1, 3, 6, 8], [0, 1, 6], [0, 1, 6, 46], []] = some c115 := by kernel_rfl
set_option maxRecDepth 100000 in
theorem counts_c116 : cFunc Tryz.prog countsNames.ψ Tryz.f103 [[1, 3, 4, 6, 8], [1, 3, 4, 6, 8, 9, 10], [1, 3, 4, 6, 8, 9, 19], [8], [1, 3, 4, 6, 8, 9, 28], [1, 4, 6, 8], [1, 4, 6, 8], [8]] = some c116 := by kernel_rfl
set_option maxRecDepth 100000 in
theorem counts_c117 : cFunc Tryz.prog countsNames.ψ Tryz.f104 [[0], [0, 4], [2], [2]] = some c117 := by kernel_rfl
set_option maxRecDepth 100000 in
theorem counts_c118 : cFunc Tryz.prog countsNames.ψ Tryz.f105 [[0, 1, 2, 6], [0, 1, 2, 6, 7], [0, 1, 2, 6, 7, 8], [0, 1, 6, 7], [0, 1, 6], [0, 1], []] = some c118 := by kernel_rfl
set_option maxRecDepth 100000 in
theorem counts_c119 : cFunc Tryz.prog countsNames.ψ Tryz.f106 [[0], [0, 4], [0, 4, 5], [0, 4, 5, 6], [0, 4, 5, 6, 33, 34, 35], [0, 4, 5, 6, 33, 34, 35], [0, 4, 5, 6, 33, 34, 35, 36], [0, 4, 5, 6, 7, 8, 33, 34, 35], [0, 4, 5, 6, 8, 33, 34, 35], [0, 4, 5, 6, 33, 34, 35], [0, 4, 5, 6, 33, 34, 35], [0, 4, 5, 6, 53, 54, 55], [0, 4, 5, 6, 53, 54, 55], [0, 4, 5, 6, 53, 54, 55, 56], [0, 4, 5, 6, 10, 53, 54, 55], [0, 4, 5, 6, 53, 54, 55, 60, 61, 62], [0, 4, 5, 6, 53, 54, 55, 60, 61, 62], [0, 4, 5, 6, 53, 54, 55, 60, 61, 62, 63], [0, 4, 5, 6, 12, 53, 54, 55, 60, 61, 62], [0, 4, 5, 6, 12, 13, 53, 54, 55, 60, 61, 62], [0, 4, 5, 6, 12, 13, 53, 54, 55, 60, 61, 62, 67], [0, 4, 5, 6, 12, 13, 53, 54, 55, 60, 61, 62], [0, 4, 5, 6, 13, 14, 53, 54, 55, 60, 61, 62], [0, 4, 5, 6, 13, 14, 53, 54, 55, 60, 61, 62, 85], [0, 4, 5, 6, 13, 53, 54, 55, 60, 61, 62], [0, 4, 5, 6, 53, 54, 55, 60, 61, 62], [0, 4, 5, 6, 53, 54, 55, 60, 61, 62], [0, 4, 5, 6, 53, 54, 55], [2, 3]] = some c119 := by kernel_rfl
set_option maxRecDepth 100000 in
theorem counts_c120 : cFunc Tryz.prog countsNames.ψ Tryz.f107 [[0, 1, 5], [0, 1, 5, 12, 13, 14], [0, 1, 5, 12, 13, 14], [0, 1, 5, 12, 13, 14, 15], [0, 1, 5, 7, 8, 12, 13, 14], [0, 1, 5, 7, 8, 12, 13, 14, 26], [0, 1, 5, 12, 13, 14, 40], [6], [0, 1, 5, 12, 13, 14], [6]] = some c120 := by kernel_rfl
set_option maxRecDepth 100000 in
theorem counts_c121 : cFunc Tryz.prog countsNames.ψ Tryz.f108 [[0, 1, 2, 3, 4, 5], [0, 1, 2, 3, 4, 5, 15], [7], [0, 1, 2, 4, 5, 19, 20, 21], [0, 1, 2, 4, 5, 19, 20, 21], [0, 1, 2, 4, 5, 19, 20, 21, 22], [0, 1, 2, 4, 5, 9, 19, 20, 21], [0, 1, 2, 4, 5, 9, 19, 20, 21, 38], [0, 1, 2, 4, 5, 9, 19, 20, 21], [0, 1, 2, 4, 5, 10, 19, 20, 21], [0, 1, 2, 4, 5, 10, 19, 20, 21], [0, 1, 2, 4, 5, 19, 20, 21, 54], [7], [0, 1, 2, 4, 5, 19, 20, 21], [7]] = some c121 := by kernel_rfl
set_option maxRecDepth 100000 in
theorem counts_c122 : cFunc Tryz.prog countsNames.ψ Tryz.f109 [[0], [0, 3], [3, 6, 7, 8], [3, 6, 7, 8], [3, 6, 7, 8, 9], [3, 5, 6, 7, 8], [3, 6, 7, 8], [3, 6, 7, 8], [2]] = some c122 := by kernel_rfl
set_option maxRecDepth 100000 in
theorem counts_c123 : cFunc Tryz.prog countsNames.ψ Tryz.f110 [[1, 2, 3, 4, 5, 6], [1, 2, 3, 4, 5, 6, 13], [2, 3, 8], [3, 8, 16, 17, 18], [3, 8, 16, 17, 18], [3, 8, 16, 17, 18, 19], [3, 8, 9, 10, 16, 17, 18], [3, 8, 16, 17, 18], [3, 8, 16, 17, 18], [7], [7]] = some c123 := by kernel_rfl
set_option maxRecDepth 100000 in
theorem counts_c124 : cFunc Tryz.prog countsNames.ψ Tryz.f111 [[0, 1, 2, 3], [2, 3], [5]] = some c124 := by kernel_rfl
set_option maxRecDepth 100000 in
theorem counts_c125 : cFunc Tryz.prog countsNames.ψ Tryz.f112 [[0, 1], [3]] = some c125 := by kernel_rfl
set_option maxRecDepth 100000 in
theorem counts_c126 : cFunc Tryz.prog countsNames.ψ Tryz.f113 [[0, 1], [4]] = some c126 := by kernel_rfl
set_option maxRecDepth 100000 in
theorem counts_c127 : cFunc Tryz.prog countsNames.ψ Tryz.f114 [[0, 1], [3]] = some c127 := by kernel_rfl
set_option maxRecDepth 100000 in
theorem counts_c128 : cFunc Tryz.prog countsNames.ψ Tryz.f115 [[0, 1], [4]] = some c128 := by kernel_rfl
set_option maxRecDepth 100000 in
theorem counts_c129 : cFunc Tryz.prog countsNames.ψ Tryz.f116 [[0, 1], [3]] = some c129 := by kernel_rfl
set_option maxRecDepth 100000 in
theorem counts_c130 : cFunc Tryz.prog countsNames.ψ Tryz.f117 [[1, 2], [1, 9, 10, 11], [1, 9, 10, 11], [1, 9, 10, 11, 12], [1, 6, 9, 10, 11], [1, 6, 7, 9, 10, 11], [1, 6, 7, 9, 10, 11, 19], [4], [1, 9, 10, 11], [4]] = some c130 := by kernel_rfl
set_option maxRecDepth 100000 in
theorem counts_c131 : cFunc Tryz.prog countsNames.ψ Tryz.f118 [[0, 1], [0, 1, 7, 8], [0, 1, 7, 8], [0, 1, 7, 8, 9], [0, 1, 5, 7, 8], [0, 1, 5, 7, 8, 16], [4], [0, 1, 7, 8], [4]] = some c131 := by kernel_rfl
set_option maxRecDepth 100000 in
theorem counts_c132 : cFunc Tryz.prog countsNames.ψ Tryz.f119 [[1, 2, 4], [1, 2, 4, 5], [1, 2, 4, 5, 11, 12], [1, 2, 4, 5, 11, 12], [1, 2, 4, 5, 11, 12, 13], [1, 2, 4, 5, 6, 11, 12], [1, 2, 4, 5, 6, 11, 12, 17], [1, 2, 4, 5, 11, 12], [1, 2, 4, 5, 11, 12], [4]] = some c132 := by kernel_rfl
set_option maxRecDepth 100000 in
theorem counts_c133 : cFunc Tryz.prog countsNames.ψ Tryz.f120 [[2, 3, 4, 6], [2, 3, 4, 6, 7], [2, 3, 4, 6, 7, 16, 17], [2, 3, 4, 6, 7, 16, 17], [2, 3, 4, 6, 7, 16, 17, 18], [2, 3, 4, 6, 7, 8, 16, 17], [2, 3, 4, 6, 7, 16, 17], [2, 3, 4, 6, 7, 16, 17], [6]] = some c133 := by kernel_rfl
set_option maxRecDepth 100000 in
theorem counts_c134 : cFunc Tryz.prog countsNames.ψ Tryz.f121 [[0, 1], [4]] = some c134 := by kernel_rfl
set_option maxRecDepth 100000 in
theorem counts_c135 : cFunc Tryz.prog countsNames.ψ Tryz.f122 [[2, 3, 4], [2, 3, 4, 5], [2, 4, 5, 14, 15, 16], [2, 4, 5, 14, 15, 16], [2, 4, 5, 14, 15, 16, 17], [2, 4, 5, 7, 14, 15, 16], [2, 4, 5, 7, 8, 9, 14, 15, 16], [2, 4, 5, 7, 14, 15, 16, 46], [2, 4, 5, 14, 15, 16], [2, 4, 5, 14, 15, 16], [4]] = some c135 := by kernel_rfl
set_option maxRecDepth 100000 in
theorem counts_c136 : cFunc Tryz.prog countsNames.ψ Tryz.f123 [[2, 3, 4], [2, 3, 4, 5], [3, 4, 5, 13, 14, 15], [3, 4, 5, 13, 14, 15], [3, 4, 5, 13, 14, 15, 16], [3, 4, 5, 6, 7, 13, 14, 15], [3, 4, 5, 6, 13, 14, 15, 21], [3, 4, 5, 13, 14, 15], [3, 4, 5, 13, 14, 15], [3, 4, 5, 8], [3, 4, 5, 8, 30, 31], [3, 4, 5, 8, 30, 31], [3, 4, 5, 8, 30, 31, 32], [3, 4, 5, 8, 9, 30, 31], [3, 4, 5, 8, 9, 30, 31, 39, 40, 41], [3, 4, 5, 8, 9, 30, 31, 39, 40, 41], [3, 4, 5, 8, 9, 30, 31, 39, 40, 41, 42], [3, 4, 5, 8, 9, 11, 30, 31, 39, 40, 41], [3, 4, 5, 8, 9, 30, 31, 39, 40, 41], [3, 4, 5, 8, 9, 30, 31, 39, 40, 41], [3, 4, 5, 8, 30, 31], [4]] = some c136 := by kernel_rfl
set_option maxRecDepth 100000 in
theorem counts_c137 : cFunc Tryz.prog countsNames.ψ Tryz.f124 [[1], [2]] = some c137 := by kernel_rfl
set_option maxRecDepth 100000 in
theorem counts_c138 : cFunc Tryz.prog countsNames.ψ Tryz.f125 [[1], [1, 3], [1, 3, 8, 9], [1, 3, 8, 9], [1, 3, 8, 9, 10], [1, 3, 4, 8, 9], [1, 3, 4, 8, 9, 16, 17, 18], [1, 3, 4, 8, 9, 16, 17, 18], [1, 3, 4, 8, 9, 16, 17, 18, 19], [1, 3, 4, 6, 8, 9, 16, 17, 18], [1, 3, 4, 8, 9, 16, 17, 18], [1, 3, 4, 8, 9, 16, 17, 18], [1, 3, 8, 9], [2]] = some c138 := by kernel_rfl
set_option maxRecDepth 100000 in
theorem counts_c139 : cFunc Tryz.prog countsNames.ψ Tryz.f126 [[1, 2, 3], [6]] = some c139 := by kernel_rfl
set_option maxRecDepth 100000 in
theorem counts_c140 : cFunc Tryz.prog countsNames.ψ Tryz.f127 [[0, 1, 2, 3, 4, 10], [0, 1, 2, 3, 4, 10, 11], [0, 1, 2, 3, 4, 10, 11], [0, 1, 2, 3, 4, 10, 11, 12], [0, 1, 2, 3, 4, 10, 11, 12, 25], [], [0, 1, 2, 3, 4, 10, 11, 12, 32], [], [0, 1, 2, 3, 4, 10, 11, 12, 39], [0, 1, 2, 3, 4, 10, 11, 12], [0, 1, 2, 3, 4, 10, 11, 12], [0, 1, 2, 3, 4, 10, 11, 12, 13, 14], [0, 1, 2, 3, 4, 10, 11, 12, 13, 14, 56], [0, 1, 2, 3, 4, 10, 11, 12, 13], [0, 1, 2, 3, 4, 10, 11, 12, 13], [0, 1, 2, 3, 4, 10, 11, 12, 13, 14], [0, 1, 2, 3, 4, 10, 11, 12, 13, 75], [0, 1, 2, 3, 4, 10, 11, 12, 13, 80], [0, 1, 2, 3, 4, 10, 11, 12, 13, 97], [0, 2, 3, 4, 10, 11, 15], [0, 1, 2, 3, 4, 10, 11], [0, 1, 2, 3, 4, 12, 16, 17], [0, 1, 2, 3, 4, 11, 12, 16], [0, 1, 2, 3, 4, 11, 12, 16, 18, 19], [0, 1, 2, 3, 4, 11, 16, 18, 19, 20], [0, 1, 2, 3, 4, 11, 16, 18, 19, 20, 125], [0, 1, 2, 3, 4, 10, 11, 16], [0, 2, 3, 4, 10, 11, 16], [0, 1, 2, 3, 4, 10, 11], [0, 1, 2, 3, 4, 10, 11, 16], [0, 1, 3, 4, 10, 11, 16], [0, 1, 2, 3, 4, 10, 11]] = some c140 := by kernel_rfl
set_option maxRecDepth 100000 in
theorem counts_c141 : cFunc Tryz.prog countsNames.ψ Tryz.f128 [[0], [2], [2]] = some c141 := by kernel_rfl
set_option maxRecDepth 100000 in
theorem counts_c142 : cFunc Tryz.prog countsNames.ψ Tryz.f129 [[0], [0, 3], [3, 6, 7, 8], [3, 6, 7, 8], [3, 6, 7, 8, 9], [3, 5, 6, 7, 8], [3, 5, 6, 7, 8, 14], [2], [3, 6, 7, 8], [2]] = some c142 := by kernel_rfl
set_option maxRecDepth 100000 in
theorem counts_c143 : cFunc Tryz.prog countsNames.ψ Tryz.f130 [[0, 1, 2], [0, 1, 2, 11, 12, 13], [0, 1, 2, 11, 12, 13], [0, 1, 2, 11, 12, 13, 14], [0, 1, 2, 7, 8, 11, 12, 13], [0, 1, 2, 7, 8, 11, 12, 13, 21], [6], [0, 1, 2, 8, 9, 11, 12, 13], [0, 1, 2, 10, 11, 12, 13], [0, 1, 2, 10, 11, 12, 13, 31], [6], [0, 1, 2, 11, 12, 13], [38], [6], [6]] = some c143 := by kernel_rfl
set_option maxRecDepth 100000 in
theorem counts_c144 : cFunc Tryz.prog countsNames.ψ Tryz.f131 [[2, 3], [4]] = some c144 := by kernel_rfl
set_option maxRecDepth 100000 in
theorem counts_c145 : cFunc Tryz.prog countsNames.ψ Tryz.f132 [[0, 1], [0, 1, 9, 10, 11], [0, 1, 9, 10, 11], [0, 1, 9, 10, 11, 12], [0, 1, 5, 6, 9, 10, 11], [0, 1, 5, 6, 9, 10, 11, 19], [4], [0, 1, 6, 7, 9, 10, 11], [0, 1, 8, 9, 10, 11], [0, 1, 8, 9, 10, 11, 28], [4], [0, 1, 9, 10, 11], [35], [4], [4]] = some c145 := by kernel_rfl
set_option maxRecDepth 100000 in
theorem counts_c146 : cFunc Tryz.prog countsNames.ψ Tryz.f133 [[0, 1, 2], [0, 1, 2, 11, 12, 13], [0, 1, 2, 11, 12, 13], [0, 1, 2, 11, 12, 13, 14], [0, 1, 2, 7, 8, 11, 12, 13], [0, 1, 2, 7, 8, 11, 12, 13, 21], [6], [0, 1, 2, 8, 9, 11, 12, 13], [0, 1, 2, 10, 11, 12, 13], [0, 1, 2, 10, 11, 12, 13, 31], [6], [0, 1, 2, 11, 12, 13], [38], [6], [6]] = some c146 := by kernel_rfl
set_option maxRecDepth 100000 in
theorem counts_c147 : cFunc Tryz.prog countsNames.ψ Tryz.f134 [[1], [1, 3], [3, 7, 8, 9], [3, 7, 8, 9], [3, 7, 8, 9, 10], [3, 4, 5, 7, 8, 9], [3, 7, 8, 9], [3, 7, 8, 9], [2]] = some c147 := by kernel_rfl
set_option maxRecDepth 100000 in
theorem counts_c171 : cFunc Tryz.prog countsNames.ψ Tryz.f159 [[0, 1], [0, 1, 7, 8], [0, 1, 7, 8], [0, 1, 7, 8, 9], [0, 1, 5, 7, 8], [0, 1, 5, 7, 8, 16], [4], [0, 1, 7, 8], [4]] = some c171 := by kernel_rfl
set_option maxRecDepth 100000 in
theorem counts_c172 : cFunc Tryz.prog countsNames.ψ Tryz.f160 [[1], [2]] = some c172 := by kernel_rfl
set_option maxRecDepth 100000 in
theorem counts_c173 : cFunc Tryz.prog countsNames.ψ Tryz.f161 [[0], [2]] = some c173 := by kernel_rfl
set_option maxRecDepth 100000 in
theorem counts_c174 : cFunc Tryz.prog countsNames.ψ Tryz.f162 [[2, 3], [2, 3, 12], [4], [4]] = some c174 := by kernel_rfl
set_option maxRecDepth 100000 in
theorem counts_c175 : cFunc Tryz.prog countsNames.ψ Tryz.f163 [[0, 1, 2], [0, 1, 2, 8], [1, 2, 8, 12], [1, 2, 8, 12, 13], [6, 7], [1, 2, 8, 12, 18], [6, 7], [1, 2, 8, 12, 23], [6, 7], [1, 2, 8, 12, 28], [6, 7], [1, 2, 8, 12, 33], [6, 7], [1, 2, 8, 12, 38], [6, 7], [1, 2, 8, 12, 43], [6, 7], [1, 2, 8, 12, 48], [6, 7], [1, 2, 12, 53], [6, 7], [1, 2, 12, 59], [6, 7], [1, 2, 65], [6, 7], [6, 7]] = some c175 := by kernel_rfl
set_option maxRecDepth 100000 in
theorem counts_c176 : cFunc Tryz.prog countsNames.ψ Tryz.f164 [[0, 1, 2, 11], []] = some c176 := by kernel_rfl
set_option maxRecDepth 100000 in
theorem counts_c177 : cFunc Tryz.prog countsNames.ψ Tryz.f165 [[0], [2]] = some c177 := by kernel_rfl
set_option maxRecDepth 100000 in
theorem counts_c178 : cFunc Tryz.prog countsNames.ψ Tryz.f166 [[0], [2]] = some c178 := by kernel_rfl
set_option maxRecDepth 100000 in
theorem counts_c179 : cFunc Tryz.prog countsNames.ψ Tryz.f167 [[0], [2]] = some c179 := by kernel_rfl
set_option maxRecDepth 100000 in
theorem counts_c180 : cFunc Tryz.prog countsNames.ψ Tryz.f168 [[0, 1], [0, 1, 10], [0, 1], [0, 5, 6], [0, 6, 26], [0, 6], [0, 7], [7, 8], [7, 8], [7, 8, 37], [7, 8], [4]] = some c180 := by kernel_rfl
set_option maxRecDepth 100000 in
theorem counts_c181 : cFunc Tryz.prog countsNames.ψ Tryz.f169 [[1, 2], [3]] = some c181 := by kernel_rfl
set_option maxRecDepth 100000 in
theorem counts_c182 : cFunc Tryz.prog countsNames.ψ Tryz.f170 [[0, 1], [0, 1, 7, 8], [0, 1, 7, 8], [0, 1, 7, 8, 9], [0, 1, 5, 7, 8], [0, 1, 5, 7, 8, 16], [4], [0, 1, 7, 8], [4]] = some c182 := by kernel_rfl
set_option maxRecDepth 100000 in
theorem counts_c183 : cFunc Tryz.prog countsNames.ψ Tryz.f171 [[0, 1], [0, 1, 7, 8], [0, 1, 7, 8], [0, 1, 7, 8, 9], [0, 1, 5, 7, 8], [0, 1, 5, 7, 8, 16], [4], [0, 1, 7, 8], [4]] = some c183 := by kernel_rfl
set_option maxRecDepth 100000 in
theorem counts_c184 : cFunc Tryz.prog countsNames.ψ Tryz.f172 [[0], [0], [0, 7], [2], [2]] = some c184 := by kernel_rfl
set_option maxRecDepth 100000 in
theorem counts_c185 : cFunc Tryz.prog countsNames.ψ Tryz.f173 [[1], [2]] = some c185 := by kernel_rfl
set_option maxRecDepth 100000 in
theorem counts_c186 : cFunc Tryz.prog countsNames.ψ Tryz.f174 [[2, 3, 4], [2, 3, 4, 5], [2, 3, 4, 5, 6], [2, 3, 4, 5, 6, 19, 20], [2, 3, 4, 5, 6, 19, 20], [2, 3, 4, 5, 6, 19, 20, 21], [2, 3, 4, 5, 6, 7, 19, 20], [2, 3, 4, 5, 6, 7, 8, 19, 20], [2, 3, 4, 5, 6, 7, 8, 19, 20], [2, 3, 4, 5, 6, 7, 8, 19, 20, 30], [2, 3, 4, 5, 6, 7, 8, 19, 20], [2, 3, 4, 5, 6, 7, 8, 19, 20], [2, 3, 4, 5, 6, 19, 20], [4]] = some c186 := by kernel_rfl
set_option maxRecDepth 100000 in
theorem counts_c187 : cFunc Tryz.prog countsNames.ψ Tryz.f175 [[0, 1, 2, 3, 8], [0, 1, 2, 3, 8], [0, 1, 2, 3, 8, 14], [0, 1, 2, 3, 8, 9], [0, 1, 2, 3, 8, 9], [0, 1, 2, 3, 8, 9, 34], [0, 1, 2, 3, 8, 9], [0, 1, 2, 3, 8, 9], [0, 1, 2, 3, 8]] = some c187 := by kernel_rfl
set_option maxRecDepth 100000 in
theorem counts_c188 : cFunc Tryz.prog countsNames.ψ Tryz.f176 [[0, 1, 2, 3, 8], [0, 1, 2, 3, 8, 9], [0, 3, 8, 9, 10], [0, 3, 8, 9, 10, 11], [0, 3, 8, 9, 10, 11], [0, 3, 8, 9, 10, 11, 21], [0, 3, 8, 9, 10, 11], [0, 3, 8, 9, 10, 11], [0, 3, 8, 9, 12], [0, 3, 8, 9, 12], [0, 3, 8, 9, 12, 33], [0, 3, 8, 9, 12], [0, 3, 8, 9, 12], [0, 3, 8, 9, 12]] = some c188 := by kernel_rfl
set_option maxRecDepth 100000 in
theorem counts_c189 : cFunc Tryz.prog countsNames.ψ Tryz.f177 [[0, 1, 8], [0, 1, 8, 17], [0, 1, 8, 9], [0, 1, 8, 9, 10], [0, 1, 8, 9, 10, 11], [0, 1, 8, 9, 10, 11], [0, 1, 8, 9, 10, 11, 35], [0, 1, 8, 9, 10, 11, 12], [0, 1, 8, 9, 10, 11, 12, 45], [0, 1, 8, 9, 10, 11, 12], [0, 1, 8, 9, 10, 11], [0, 1, 8, 9, 10, 11]] = some c189 := by kernel_rfl
set_option maxRecDepth 100000 in
theorem counts_c190 : cFunc Tryz.prog countsNames.ψ Tryz.f178 [[0, 1, 2, 3], [0, 1, 3, 10], [0, 1, 3, 10, 11], [0, 1, 3, 10, 11, 12], [0, 1, 3, 10, 11, 12, 13], [0, 3, 10, 11, 12, 13, 14], [0, 3, 10, 11, 12, 13, 14, 34], [0, 3, 11, 12, 13, 14, 36], [0, 3, 11, 12, 13, 14], [0, 3, 11, 12, 13, 14], [0, 3, 11, 12, 13, 14], [11, 13], [13, 55], [13, 55, 57], [8, 9], [13, 60], [8, 9], [8, 9]] = some c190 := by kernel_rfl
set_option maxRecDepth 100000 in
theorem counts_c191 : cFunc Tryz.prog countsNames.ψ Tryz.f179 [[0, 2, 8], [0, 8, 9], [0, 8, 9], [0, 8, 9, 15], [0, 8, 9], [0, 8, 9], [0, 8, 9]] = some c191 := by kernel_rfl
set_option maxRecDepth 100000 in
theorem counts_c192 : cFunc Tryz.prog countsNames.ψ Tryz.f180 [[0, 1, 2, 3], [0, 1, 2, 3, 9], [0, 1, 2, 3, 9, 10], [0, 1, 2, 3, 9, 10], [0, 1, 2, 3, 9, 10, 16], [0, 1, 2, 3, 9, 10], [0, 1, 2, 3, 9, 10, 36], [0, 1, 2, 3, 9, 10], [0, 1, 2, 3, 9, 10, 41], [8], [0, 1, 2, 3, 9, 10, 45], [8], [0, 1, 2, 3, 9, 10], [0, 1, 2, 3, 9, 10, 65], [0, 1, 2, 3, 9, 10, 11], [0, 1, 2, 3, 9, 10, 11], [0, 1, 2, 3, 9, 10, 11, 69], [0, 1, 2, 3, 9, 10, 11, 84], [0, 1, 2, 3, 9, 10, 11], [0, 1, 2, 3, 9, 10, 11], [0, 1, 2, 3, 9, 10, 104], [0, 1, 2, 3, 9, 10, 12], [0, 1, 2, 3, 9, 10, 12], [0, 1, 2, 3, 9, 10, 12, 109], [0, 1, 2, 3, 9, 10, 12, 124], [0, 1, 2, 3, 9, 10, 12], [0, 1, 2, 3, 9, 10, 12], [0, 1, 2, 3, 9, 10], [8]] = some c192 := by kernel_rfl
set_option maxRecDepth 100000 in
theorem counts_c193 : cFunc Tryz.prog countsNames.ψ Tryz.f181 [[0, 1, 2, 3, 4], [0, 1, 2, 4], [0, 1, 4, 11, 12], [0, 1, 4, 11, 12], [0, 1, 4, 11, 12], [0, 1, 4, 11, 12, 47], [0, 1, 4, 11, 12], [0, 1, 4, 11, 12], [0, 1, 4, 11, 12, 65], [0, 1, 4, 11, 12], [0, 1, 4, 11, 12, 70], [0, 1, 4, 11, 12], [0, 1, 4, 11, 12], [0, 1, 4, 11, 12], [10]] = some c193 := by kernel_rfl
set_option maxRecDepth 100000 in
theorem counts_c194 : cFunc Tryz.prog countsNames.ψ Tryz.f182 [[0, 1, 2, 3, 4], [0, 1, 2, 4], [0, 1, 4, 12, 13], [0, 1, 4, 12, 13], [0, 1, 4, 12, 13, 47], [0, 1, 4, 12, 13], [0, 1, 4, 12, 13], [0, 1, 4, 12, 13, 66], [0, 1, 4, 12, 13], [0, 1, 4, 12, 13, 71], [13], [10, 11], [0, 1, 4, 12, 13], [0, 1, 4, 12, 13], [0, 1, 4, 12, 13], [0, 1, 4, 12, 13], [0, 1, 4, 12, 13], [0, 1, 4, 12, 13, 120], [0, 1, 4, 12, 13], [0, 1, 4, 12, 13], [0, 1, 4, 12, 13, 139], [0, 1, 4, 12, 13], [0, 1, 4, 12, 13, 144], [0, 1, 4, 12, 13], [0, 1, 4, 12, 13], [0, 1, 4, 12, 13], [13], [10, 11]] = some c194 := by kernel_rfl
set_option maxRecDepth 100000 in
theorem counts_c195 : cFunc Tryz.prog countsNames.ψ Tryz.f183 [[0, 2], [0, 2, 4], [0], [0, 2], [0, 2, 8], [0, 2], [0, 2], [2]] = some c195 := by kernel_rfl
set_option maxRecDepth 100000 in
theorem counts_c196 : cFunc Tryz.prog countsNames.ψ Tryz.f184 [[0, 2], [0, 2, 4], [0], [0, 2], [0, 2, 8], [0, 2], [0, 2], [0, 2, 14], [0, 2], [0, 2], [2]] = some c196 := by kernel_rfl
set_option maxRecDepth 100000 in
theorem counts_c197 : cFunc Tryz.prog countsNames.ψ Tryz.f185 [[0, 1], [0, 1, 5], [0, 1, 5, 6], [0, 1, 6, 11], [12], [4], [4], [0, 1, 13], [4], [0, 1, 16], [4], [19], [4], [4]] = some c197 := by kernel_rfl
set_option maxRecDepth 100000 in
theorem counts_c198 : cFunc Tryz.prog countsNames.ψ Tryz.f186 [[0, 1], [0, 1, 5], [0, 1, 5, 6], [0, 1, 6, 11], [12], [4], [4], [0, 1, 13], [4], [0, 1, 16], [4], [19], [4], [4]] = some c198 := by kernel_rfl
set_option maxRecDepth 100000 in
theorem counts_c222 : cFunc Tryz.prog countsNames.ψ Tryz.f212 [[0], [3], [2], [2]] = some c222 := by kernel_rfl
set_option maxRecDepth 100000 in
theorem counts_c223 : cFunc Tryz.prog countsNames.ψ Tryz.f213 [[0, 1], [6, 7], [4, 5], [8, 9], [4, 5]] = some c223 := by kernel_rfl
set_option maxRecDepth 100000 in
theorem counts_c224 : cFunc Tryz.prog countsNames.ψ Tryz.f214 [[0, 2, 3, 4, 10], [0, 2, 3, 4, 10], [0, 2, 3, 4, 10, 11], [0, 2, 3, 4, 10, 11, 18], [0, 2, 3, 4, 10, 11, 40], [0, 2, 3, 4, 10, 11], [0, 2, 3, 4, 10, 11, 58], [0, 2, 3, 4, 11], [0, 2, 3, 4, 10]] = some c224 := by kernel_rfl
set_option maxRecDepth 100000 in
theorem counts_c225 : cFunc Tryz.prog countsNames.ψ Tryz.f215 [[0], [2]] = some c225 := by kernel_rfl
set_option maxRecDepth 100000 in
theorem counts_c226 : cFunc Tryz.prog countsNames.ψ Tryz.f216 [[0], [0], [0], [0], [2]] = some c226 := by kernel_rfl
set_option maxRecDepth 100000 in
theorem counts_c227 : cFunc Tryz.prog countsNames.ψ Tryz.f217 [[0, 1, 2, 3], [8]] = some c227 := by kernel_rfl
set_option maxRecDepth 100000 in
theorem counts_c228 : cFunc Tryz.prog countsNames.ψ Tryz.f218 [[0, 1, 2, 3, 4, 5], [0, 1, 2, 3, 4, 5], [0, 1, 2, 4, 5], [2], [12]] = some c228 := by kernel_rfl
set_option maxRecDepth 100000 in
theorem counts_c229 : cFunc Tryz.prog countsNames.ψ Tryz.f219 [[0], [2]] = some c229 := by kernel_rfl
set_option maxRecDepth 100000 in
theorem counts_c230 : cFunc Tryz.prog countsNames.ψ Tryz.f220 [[0], [2]] = some c230 := by kernel_rfl
set_option maxRecDepth 100000 in
theorem counts_c249 : cFunc Tryz.prog countsNames.ψ Tryz.f245 [[0, 1], [6], [4, 5]] = some c249 := by kernel_rfl
set_option maxRecDepth 100000 in
theorem counts_c250 : cFunc Tryz.prog countsNames.ψ Tryz.f246 [[0, 1], [0, 1, 6], [0, 1, 6, 7], [0, 1, 6, 7, 8], [0, 1, 6, 7, 8, 9], [0, 1, 6, 7, 8, 9, 10], [0, 1, 6, 7, 9, 11], [0, 1, 6, 7, 9, 11, 12], [0, 1, 6, 7, 9, 12, 13], [0, 1, 7, 9, 12, 13], [0, 1, 4], [4, 5]] = some c250 := by kernel_rfl
set_option maxRecDepth 100000 in
theorem counts_c251 : cFunc Tryz.prog countsNames.ψ Tryz.f247 [[0, 1, 2, 3, 4], [1, 2, 3, 22], [1, 2], [10, 11], [10, 11]] = some c251 := by kernel_rfl

theorem countsKnown : Known Tryz.prog countsNames countsG where
  ok := by kernel_rfl
  calls := by
    intro x hx
    simp only [countsNames, List.mem_cons, List.not_mem_nil, or_false] at hx
    rcases hx with rfl | rfl | rfl | rfl | rfl | rfl | rfl | rfl | rfl | rfl | rfl | rfl | rfl | rfl | rfl | rfl | rfl | rfl | rfl | rfl | rfl | rfl | rfl | rfl | rfl | rfl | rfl | rfl | rfl | rfl | rfl | rfl | rfl | rfl | rfl | rfl | rfl | rfl | rfl | rfl | rfl | rfl | rfl | rfl | rfl | rfl | rfl | rfl | rfl | rfl | rfl | rfl | rfl | rfl | rfl | rfl | rfl | rfl | rfl | rfl | rfl | rfl | rfl | rfl | rfl | rfl | rfl | rfl | rfl | rfl | rfl | rfl | rfl | rfl | rfl | rfl | rfl | rfl | rfl | rfl | rfl | rfl | rfl | rfl | rfl | rfl | rfl | rfl | rfl | rfl | rfl | rfl | rfl | rfl | rfl | rfl | rfl | rfl | rfl | rfl | rfl | rfl | rfl | rfl | rfl | rfl | rfl | rfl | rfl | rfl | rfl | rfl | rfl | rfl | rfl | rfl | rfl | rfl | rfl | rfl | rfl | rfl | rfl | rfl | rfl | rfl | rfl | rfl | rfl | rfl | rfl | rfl | rfl | rfl
    · exact Tryz.call3
    · exact Tryz.call6
    · exact Tryz.call7
    · exact Tryz.call8
    · exact Tryz.call15
    · exact Tryz.call16
    · exact Tryz.call17
    · exact Tryz.call18
    · exact Tryz.call19
    · exact Tryz.call20
    · exact Tryz.call21
    · exact Tryz.call22
    · exact Tryz.call23
    · exact Tryz.call25
    · exact Tryz.call38
    · exact Tryz.call39
    · exact Tryz.call40
    · exact Tryz.call41
    · exact Tryz.call42
    · exact Tryz.call43
    · exact Tryz.call44
    · exact Tryz.call45
    · exact Tryz.call46
    · exact Tryz.call47
    · exact Tryz.call48
    · exact Tryz.call49
    · exact Tryz.call50
    · exact Tryz.call51
    · exact Tryz.call52
    · exact Tryz.call53
    · exact Tryz.call54
    · exact Tryz.call55
    · exact Tryz.call56
    · exact Tryz.call57
    · exact Tryz.call58
    · exact Tryz.call59
    · exact Tryz.call60
    · exact Tryz.call61
    · exact Tryz.call62
    · exact Tryz.call63
    · exact Tryz.call64
    · exact Tryz.call65
    · exact Tryz.call66
    · exact Tryz.call85
    · exact Tryz.call86
    · exact Tryz.call87
    · exact Tryz.call88
    · exact Tryz.call89
    · exact Tryz.call90
    · exact Tryz.call91
    · exact Tryz.call92
    · exact Tryz.call93
    · exact Tryz.call94
    · exact Tryz.call95
    · exact Tryz.call96
    · exact Tryz.call97
    · exact Tryz.call98
    · exact Tryz.call99
    · exact Tryz.call100
    · exact Tryz.call101
    · exact Tryz.call102
    · exact Tryz.call103
    · exact Tryz.call104
    · exact Tryz.call105
    · exact Tryz.call106
    · exact Tryz.call107
    · exact Tryz.call108
    · exact Tryz.call109
    · exact Tryz.call110
    · exact Tryz.call111
    · exact Tryz.call112
    · exact Tryz.call113
    · exact Tryz.call114
    · exact Tryz.call115
    · exact Tryz.call116
    · exact Tryz.call117
    · exact Tryz.call118
    · exact Tryz.call119
    · exact Tryz.call120
    · exact Tryz.call121
    · exact Tryz.call122
    · exact Tryz.call123
    · exact Tryz.call124
    · exact Tryz.call125
    · exact Tryz.call126
    · exact Tryz.call127
    · exact Tryz.call128
    · exact Tryz.call129
    · exact Tryz.call130
    · exact Tryz.call131
    · exact Tryz.call132
    · exact Tryz.call133
    · exact Tryz.call134
    · exact Tryz.call158
    · exact Tryz.call159
    · exact Tryz.call160
    · exact Tryz.call161
    · exact Tryz.call162
    · exact Tryz.call163
    · exact Tryz.call164
    · exact Tryz.call165
    · exact Tryz.call166
    · exact Tryz.call167
    · exact Tryz.call168
    · exact Tryz.call169
    · exact Tryz.call170
    · exact Tryz.call171
    · exact Tryz.call172
    · exact Tryz.call173
    · exact Tryz.call174
    · exact Tryz.call175
    · exact Tryz.call176
    · exact Tryz.call177
    · exact Tryz.call178
    · exact Tryz.call179
    · exact Tryz.call180
    · exact Tryz.call181
    · exact Tryz.call182
    · exact Tryz.call183
    · exact Tryz.call184
    · exact Tryz.call185
    · exact Tryz.call186
    · exact Tryz.call212
    · exact Tryz.call213
    · exact Tryz.call214
    · exact Tryz.call215
    · exact Tryz.call216
    · exact Tryz.call217
    · exact Tryz.call218
    · exact Tryz.call219
    · exact Tryz.call220
    · exact Tryz.call245
    · exact Tryz.call246
    · exact Tryz.call247
  code := by
    intro x hx
    simp only [countsNames, List.mem_cons, List.not_mem_nil, or_false] at hx
    rcases hx with rfl | rfl | rfl | rfl | rfl | rfl | rfl | rfl | rfl | rfl | rfl | rfl | rfl | rfl | rfl | rfl | rfl | rfl | rfl | rfl | rfl | rfl | rfl | rfl | rfl | rfl | rfl | rfl | rfl | rfl | rfl | rfl | rfl | rfl | rfl | rfl | rfl | rfl | rfl | rfl | rfl | rfl | rfl | rfl | rfl | rfl | rfl | rfl | rfl | rfl | rfl | rfl | rfl | rfl | rfl | rfl | rfl | rfl | rfl | rfl | rfl | rfl | rfl | rfl | rfl | rfl | rfl | rfl | rfl | rfl | rfl | rfl | rfl | rfl | rfl | rfl | rfl | rfl | rfl | rfl | rfl | rfl | rfl | rfl | rfl | rfl | rfl | rfl | rfl | rfl | rfl | rfl | rfl | rfl | rfl | rfl | rfl | rfl | rfl | rfl | rfl | rfl | rfl | rfl | rfl | rfl | rfl | rfl | rfl | rfl | rfl | rfl | rfl | rfl | rfl | rfl | rfl | rfl | rfl | rfl | rfl | rfl | rfl | rfl | rfl | rfl | rfl | rfl | rfl | rfl | rfl | rfl | rfl | rfl
    · exact .inl ⟨_, _, Tryz.func3, counts_c16⟩
    · exact .inl ⟨_, _, Tryz.func6, counts_c19⟩
    · exact .inl ⟨_, _, Tryz.func7, counts_c20⟩
    · exact .inl ⟨_, _, Tryz.func8, counts_c21⟩
    · exact .inl ⟨_, _, Tryz.func15, counts_c28⟩
    · exact .inl ⟨_, _, Tryz.func16, counts_c29⟩
    · exact .inl ⟨_, _, Tryz.func17, counts_c30⟩
    · exact .inl ⟨_, _, Tryz.func18, counts_c31⟩
    · exact .inl ⟨_, _, Tryz.func19, counts_c32⟩
    · exact .inl ⟨_, _, Tryz.func20, counts_c33⟩
    · exact .inl ⟨_, _, Tryz.func21, counts_c34⟩
    · exact .inl ⟨_, _, Tryz.func22, counts_c35⟩
    · exact .inl ⟨_, _, Tryz.func23, counts_c36⟩
    · exact .inl ⟨_, _, Tryz.func25, counts_c38⟩
    · exact .inl ⟨_, _, Tryz.func38, counts_c51⟩
    · exact .inl ⟨_, _, Tryz.func39, counts_c52⟩
    · exact .inl ⟨_, _, Tryz.func40, counts_c53⟩
    · exact .inl ⟨_, _, Tryz.func41, counts_c54⟩
    · exact .inl ⟨_, _, Tryz.func42, counts_c55⟩
    · exact .inl ⟨_, _, Tryz.func43, counts_c56⟩
    · exact .inl ⟨_, _, Tryz.func44, counts_c57⟩
    · exact .inl ⟨_, _, Tryz.func45, counts_c58⟩
    · exact .inl ⟨_, _, Tryz.func46, counts_c59⟩
    · exact .inl ⟨_, _, Tryz.func47, counts_c60⟩
    · exact .inl ⟨_, _, Tryz.func48, counts_c61⟩
    · exact .inl ⟨_, _, Tryz.func49, counts_c62⟩
    · exact .inl ⟨_, _, Tryz.func50, counts_c63⟩
    · exact .inl ⟨_, _, Tryz.func51, counts_c64⟩
    · exact .inl ⟨_, _, Tryz.func52, counts_c65⟩
    · exact .inl ⟨_, _, Tryz.func53, counts_c66⟩
    · exact .inl ⟨_, _, Tryz.func54, counts_c67⟩
    · exact .inl ⟨_, _, Tryz.func55, counts_c68⟩
    · exact .inl ⟨_, _, Tryz.func56, counts_c69⟩
    · exact .inl ⟨_, _, Tryz.func57, counts_c70⟩
    · exact .inl ⟨_, _, Tryz.func58, counts_c71⟩
    · exact .inl ⟨_, _, Tryz.func59, counts_c72⟩
    · exact .inl ⟨_, _, Tryz.func60, counts_c73⟩
    · exact .inl ⟨_, _, Tryz.func61, counts_c74⟩
    · exact .inl ⟨_, _, Tryz.func62, counts_c75⟩
    · exact .inl ⟨_, _, Tryz.func63, counts_c76⟩
    · exact .inl ⟨_, _, Tryz.func64, counts_c77⟩
    · exact .inl ⟨_, _, Tryz.func65, counts_c78⟩
    · exact .inl ⟨_, _, Tryz.func66, counts_c79⟩
    · exact .inl ⟨_, _, Tryz.func85, counts_c98⟩
    · exact .inl ⟨_, _, Tryz.func86, counts_c99⟩
    · exact .inl ⟨_, _, Tryz.func87, counts_c100⟩
    · exact .inl ⟨_, _, Tryz.func88, counts_c101⟩
    · exact .inl ⟨_, _, Tryz.func89, counts_c102⟩
    · exact .inl ⟨_, _, Tryz.func90, counts_c103⟩
    · exact .inl ⟨_, _, Tryz.func91, counts_c104⟩
    · exact .inl ⟨_, _, Tryz.func92, counts_c105⟩
    · exact .inl ⟨_, _, Tryz.func93, counts_c106⟩
    · exact .inl ⟨_, _, Tryz.func94, counts_c107⟩
    · exact .inl ⟨_, _, Tryz.func95, counts_c108⟩
    · exact .inl ⟨_, _, Tryz.func96, counts_c109⟩
    · exact .inl ⟨_, _, Tryz.func97, counts_c110⟩
    · exact .inl ⟨_, _, Tryz.func98, counts_c111⟩
    · exact .inl ⟨_, _, Tryz.func99, counts_c112⟩
    · exact .inl ⟨_, _, Tryz.func100, counts_c113⟩
    · exact .inl ⟨_, _, Tryz.func101, counts_c114⟩
    · exact .inl ⟨_, _, Tryz.func102, counts_c115⟩
    · exact .inl ⟨_, _, Tryz.func103, counts_c116⟩
    · exact .inl ⟨_, _, Tryz.func104, counts_c117⟩
    · exact .inl ⟨_, _, Tryz.func105, counts_c118⟩
    · exact .inl ⟨_, _, Tryz.func106, counts_c119⟩
    · exact .inl ⟨_, _, Tryz.func107, counts_c120⟩
    · exact .inl ⟨_, _, Tryz.func108, counts_c121⟩
    · exact .inl ⟨_, _, Tryz.func109, counts_c122⟩
    · exact .inl ⟨_, _, Tryz.func110, counts_c123⟩
    · exact .inl ⟨_, _, Tryz.func111, counts_c124⟩
    · exact .inl ⟨_, _, Tryz.func112, counts_c125⟩
    · exact .inl ⟨_, _, Tryz.func113, counts_c126⟩
    · exact .inl ⟨_, _, Tryz.func114, counts_c127⟩
    · exact .inl ⟨_, _, Tryz.func115, counts_c128⟩
    · exact .inl ⟨_, _, Tryz.func116, counts_c129⟩
    · exact .inl ⟨_, _, Tryz.func117, counts_c130⟩
    · exact .inl ⟨_, _, Tryz.func118, counts_c131⟩
    · exact .inl ⟨_, _, Tryz.func119, counts_c132⟩
    · exact .inl ⟨_, _, Tryz.func120, counts_c133⟩
    · exact .inl ⟨_, _, Tryz.func121, counts_c134⟩
    · exact .inl ⟨_, _, Tryz.func122, counts_c135⟩
    · exact .inl ⟨_, _, Tryz.func123, counts_c136⟩
    · exact .inl ⟨_, _, Tryz.func124, counts_c137⟩
    · exact .inl ⟨_, _, Tryz.func125, counts_c138⟩
    · exact .inl ⟨_, _, Tryz.func126, counts_c139⟩
    · exact .inl ⟨_, _, Tryz.func127, counts_c140⟩
    · exact .inl ⟨_, _, Tryz.func128, counts_c141⟩
    · exact .inl ⟨_, _, Tryz.func129, counts_c142⟩
    · exact .inl ⟨_, _, Tryz.func130, counts_c143⟩
    · exact .inl ⟨_, _, Tryz.func131, counts_c144⟩
    · exact .inl ⟨_, _, Tryz.func132, counts_c145⟩
    · exact .inl ⟨_, _, Tryz.func133, counts_c146⟩
    · exact .inl ⟨_, _, Tryz.func134, counts_c147⟩
    · exact .inr ⟨0, rfl⟩
    · exact .inl ⟨_, _, Tryz.func159, counts_c171⟩
    · exact .inl ⟨_, _, Tryz.func160, counts_c172⟩
    · exact .inl ⟨_, _, Tryz.func161, counts_c173⟩
    · exact .inl ⟨_, _, Tryz.func162, counts_c174⟩
    · exact .inl ⟨_, _, Tryz.func163, counts_c175⟩
    · exact .inl ⟨_, _, Tryz.func164, counts_c176⟩
    · exact .inl ⟨_, _, Tryz.func165, counts_c177⟩
    · exact .inl ⟨_, _, Tryz.func166, counts_c178⟩
    · exact .inl ⟨_, _, Tryz.func167, counts_c179⟩
    · exact .inl ⟨_, _, Tryz.func168, counts_c180⟩
    · exact .inl ⟨_, _, Tryz.func169, counts_c181⟩
    · exact .inl ⟨_, _, Tryz.func170, counts_c182⟩
    · exact .inl ⟨_, _, Tryz.func171, counts_c183⟩
    · exact .inl ⟨_, _, Tryz.func172, counts_c184⟩
    · exact .inl ⟨_, _, Tryz.func173, counts_c185⟩
    · exact .inl ⟨_, _, Tryz.func174, counts_c186⟩
    · exact .inl ⟨_, _, Tryz.func175, counts_c187⟩
    · exact .inl ⟨_, _, Tryz.func176, counts_c188⟩
    · exact .inl ⟨_, _, Tryz.func177, counts_c189⟩
    · exact .inl ⟨_, _, Tryz.func178, counts_c190⟩
    · exact .inl ⟨_, _, Tryz.func179, counts_c191⟩
    · exact .inl ⟨_, _, Tryz.func180, counts_c192⟩
    · exact .inl ⟨_, _, Tryz.func181, counts_c193⟩
    · exact .inl ⟨_, _, Tryz.func182, counts_c194⟩
    · exact .inl ⟨_, _, Tryz.func183, counts_c195⟩
    · exact .inl ⟨_, _, Tryz.func184, counts_c196⟩
    · exact .inl ⟨_, _, Tryz.func185, counts_c197⟩
    · exact .inl ⟨_, _, Tryz.func186, counts_c198⟩
    · exact .inl ⟨_, _, Tryz.func212, counts_c222⟩
    · exact .inl ⟨_, _, Tryz.func213, counts_c223⟩
    · exact .inl ⟨_, _, Tryz.func214, counts_c224⟩
    · exact .inl ⟨_, _, Tryz.func215, counts_c225⟩
    · exact .inl ⟨_, _, Tryz.func216, counts_c226⟩
    · exact .inl ⟨_, _, Tryz.func217, counts_c227⟩
    · exact .inl ⟨_, _, Tryz.func218, counts_c228⟩
    · exact .inl ⟨_, _, Tryz.func219, counts_c229⟩
    · exact .inl ⟨_, _, Tryz.func220, counts_c230⟩
    · exact .inl ⟨_, _, Tryz.func245, counts_c249⟩
    · exact .inl ⟨_, _, Tryz.func246, counts_c250⟩
    · exact .inl ⟨_, _, Tryz.func247, counts_c251⟩

end Go.Jq

