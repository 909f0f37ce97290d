/- Small code. Printed by Gen.lean. -/
import Derived.Test.YtmaemogjdnlcoaaDoorM25
import Derived.Test.YtmaemogjdnlcoaaDoorE0
set_option linter.unusedSimpArgs false
set_option linter.unusedVariables false
namespace Go.Jq

/- jacquard/jacquardlaw13.FinalOrders -/
def c258_0 : List SOper := [⟨(some 3), .box (.tmp 0), none, [], 0, [], 0, 0, []⟩,
  ⟨(some 4), .box (.tmp 1), none, [], 0, [], 0, 0, []⟩,
  ⟨(some 5), .box (.tmp 2), none, [], 0, [], 0, 0, []⟩,
  ⟨(some 6), .mov (.const (.bool false)), none, [], 0, [], 0, 0, []⟩]
def c258_1 : List SOper := [⟨(some 9), .loadN 20 (.tmp 3), none, [3], 0, [], 0, 0, []⟩,
  ⟨(some 10), .loadN 20 (.tmp 4), none, [4], 1, [], 0, 0, []⟩,
  ⟨(some 12), .loadN 20 (.tmp 4), none, [4], 3, [], 0, 1, []⟩,
  ⟨(some 13), .loadN 20 (.tmp 3), none, [3], 4, [], 0, 1, []⟩,
  ⟨(some 11), .call 259 [(.tmp 9), (.tmp 10)], none, [9, 10], 2, [0, 1], 0, 0, []⟩,
  ⟨(some 14), .call 259 [(.tmp 12), (.tmp 13)], none, [12, 13], 5, [3, 4, 2], 0, 0, []⟩,
  ⟨(some 7), .mov (.tmp 11), none, [11], 6, [2, 5, 0, 1, 2], 0, 0, []⟩,
  ⟨(some 8), .mov (.tmp 14), none, [14], 7, [5, 6, 0, 1, 2, 3, 4, 5, 6], 0, 0, []⟩]
def c258_1b : List SOper := []
def c258_2 : List SOper := [⟨(some 15), .mov (.tmp 7), none, [], 0, [], 0, 0, []⟩,
  ⟨(some 16), .loadN 20 (.tmp 3), none, [], 0, [], 0, 0, []⟩,
  ⟨(some 17), .loadN 20 (.tmp 4), none, [], 0, [], 0, 0, []⟩,
  ⟨(some 18), .call 260 [(.tmp 16), (.tmp 17)], none, [], 0, [], 0, 0, []⟩,
  ⟨(some 19), .eqB true (.tmp 15) (.tmp 18), none, [], 0, [], 0, 0, []⟩,
  ⟨(some 20), .mov (.tmp 19), none, [], 0, [], 0, 0, []⟩,
  ⟨(some 21), .mov (.tmp 7), (some (20, false)), [], 0, [], 0, 0, []⟩,
  ⟨(some 22), .mov (.tmp 21), (some (20, false)), [], 0, [], 0, 0, []⟩,
  ⟨(some 23), .mov (.tmp 8), (some (22, true)), [], 0, [], 0, 0, []⟩,
  ⟨(some 24), .pick (.tmp 22) (.tmp 23) (.const (.bool false)), (some (20, false)), [], 0, [], 0, 0, []⟩,
  ⟨(some 25), .pick (.tmp 20) (.const (.bool true)) (.tmp 24), none, [], 0, [], 0, 0, []⟩,
  ⟨(some 26), .mov (.tmp 25), none, [], 0, [], 0, 0, []⟩,
  ⟨(some 27), .mov (.tmp 7), (some (26, false)), [], 0, [], 0, 0, []⟩,
  ⟨(some 28), .un .not (.tmp 27), (some (26, false)), [], 0, [], 0, 0, []⟩,
  ⟨(some 29), .mov (.tmp 28), (some (26, false)), [], 0, [], 0, 0, []⟩,
  ⟨(some 30), .mov (.tmp 8), (some (29, true)), [], 0, [], 0, 0, []⟩,
  ⟨(some 31), .un .not (.tmp 30), (some (29, true)), [], 0, [], 0, 0, []⟩,
  ⟨(some 32), .pick (.tmp 29) (.tmp 31) (.const (.bool false)), (some (26, false)), [], 0, [], 0, 0, []⟩,
  ⟨(some 33), .mov (.tmp 32), (some (26, false)), [], 0, [], 0, 0, []⟩,
  ⟨(some 34), .loadN 20 (.tmp 3), (some (33, true)), [], 0, [], 0, 0, []⟩,
  ⟨(some 35), .loadN 20 (.tmp 4), (some (33, true)), [], 0, [], 0, 0, []⟩,
  ⟨(some 36), .eqN true (zk 20) (.tmp 34) (.tmp 35), (some (33, true)), [], 0, [], 0, 0, []⟩,
  ⟨(some 37), .pick (.tmp 33) (.tmp 36) (.const (.bool false)), (some (26, false)), [], 0, [], 0, 0, []⟩,
  ⟨(some 38), .pick (.tmp 26) (.const (.bool true)) (.tmp 37), none, [], 0, [], 0, 0, []⟩,
  ⟨(some 39), .mov (.tmp 38), none, [], 0, [], 0, 0, []⟩,
  ⟨(some 40), .loadN 20 (.tmp 3), (some (39, false)), [], 0, [], 0, 0, []⟩,
  ⟨(some 41), .loadN 20 (.tmp 3), (some (39, false)), [], 0, [], 0, 0, []⟩,
  ⟨(some 42), .call 259 [(.tmp 40), (.tmp 41)], (some (39, false)), [], 0, [], 0, 0, []⟩,
  ⟨(some 43), .pick (.tmp 39) (.const (.bool true)) (.tmp 42), none, [], 0, [], 0, 0, []⟩]
def c258_3 : List SOper := [⟨(some 6), .mov (.const (.bool false)), none, [], 0, [], 0, 0, []⟩]
def c258_4 : List SOper := [⟨(some 44), .mov (.tmp 7), none, [], 0, [], 0, 0, []⟩,
  ⟨(some 45), .un .not (.tmp 44), none, [], 0, [], 0, 0, []⟩,
  ⟨(some 46), .mov (.tmp 45), none, [], 0, [], 0, 0, []⟩,
  ⟨(some 47), .loadN 20 (.tmp 4), (some (46, false)), [], 0, [], 0, 0, []⟩,
  ⟨(some 48), .loadN 20 (.tmp 5), (some (46, false)), [], 0, [], 0, 0, []⟩,
  ⟨(some 49), .call 259 [(.tmp 47), (.tmp 48)], (some (46, false)), [], 0, [], 0, 0, []⟩,
  ⟨(some 50), .un .not (.tmp 49), (some (46, false)), [], 0, [], 0, 0, []⟩,
  ⟨(some 51), .pick (.tmp 46) (.const (.bool true)) (.tmp 50), none, [], 0, [], 0, 0, []⟩,
  ⟨(some 52), .mov (.tmp 51), none, [], 0, [], 0, 0, []⟩,
  ⟨(some 53), .loadN 20 (.tmp 3), (some (52, false)), [], 0, [], 0, 0, []⟩,
  ⟨(some 54), .loadN 20 (.tmp 5), (some (52, false)), [], 0, [], 0, 0, []⟩,
  ⟨(some 55), .call 259 [(.tmp 53), (.tmp 54)], (some (52, false)), [], 0, [], 0, 0, []⟩,
  ⟨(some 56), .pick (.tmp 52) (.const (.bool true)) (.tmp 55), none, [], 0, [], 0, 0, []⟩,
  ⟨(some 57), .mov (.tmp 56), none, [], 0, [], 0, 0, []⟩,
  ⟨(some 58), .call 261 [], (some (57, true)), [], 0, [], 0, 0, []⟩,
  ⟨(some 59), .pick (.tmp 57) (.tmp 58) (.const (.bool false)), none, [], 0, [], 0, 0, []⟩,
  ⟨(some 6), .mov (.tmp 59), none, [], 0, [], 0, 0, []⟩]
def c258_body : SCode := (.seq (.reg [5, 4, 3] c258_0) (.seq (.dreg [8, 7, 5, 4, 3] c258_1 c258_1b) (.seq (.seq (.reg [43, 7, 5, 4, 3] c258_2) (.cond (.tmp 43) (.seq (.reg [6] c258_3) .ret) .skip)) (.seq (.reg [6] c258_4) .ret))))
def c258 : SFunc := ⟨3, 60, c258_body, [.tmp 6]⟩

/- jacquard/final.Less -/
def c259_0 : List SOper := [⟨(some 2), .box (.tmp 0), none, [], 0, [], 0, 0, []⟩,
  ⟨(some 3), .box (.tmp 1), none, [], 0, [], 0, 0, []⟩,
  ⟨(some 4), .mov (.const (.bool false)), none, [], 0, [], 0, 0, []⟩]
def c259_1 : List SOper := [⟨(some 5), .loadN 20 (.tmp 2), none, [], 0, [], 0, 0, []⟩,
  ⟨(some 6), .loadN 20 (.tmp 3), none, [], 0, [], 0, 0, []⟩,
  ⟨(some 7), .call 95 [(.tmp 5), (.tmp 6)], none, [], 0, [], 0, 0, []⟩,
  ⟨(some 8), .bin .lss (.tmp 7) (.const (.int .i64 (0))), none, [], 0, [], 0, 0, []⟩,
  ⟨(some 4), .mov (.tmp 8), none, [], 0, [], 0, 0, []⟩]
def c259_body : SCode := (.seq (.reg [3, 2] c259_0) (.seq (.reg [4] c259_1) .ret))
def c259 : SFunc := ⟨2, 9, c259_body, [.tmp 4]⟩

/- jacquard/jacquardref6.Less -/
def c260_0 : List SOper := [⟨(some 2), .box (.tmp 0), none, [], 0, [], 0, 0, []⟩,
  ⟨(some 3), .box (.tmp 1), none, [], 0, [], 0, 0, []⟩,
  ⟨(some 4), .mov (.const (.bool false)), none, [], 0, [], 0, 0, []⟩]
def c260_1 : List SOper := [⟨(some 5), .mov (.const (.int .i64 (0))), none, [], 0, [], 0, 0, []⟩]
def c260_2 : List SOper := [⟨(some 8), .mov (.tmp 5), none, [], 0, [], 0, 0, []⟩,
  ⟨(some 9), .bin .lss (.tmp 8) (.const (.int .i64 (4))), none, [], 0, [], 0, 0, []⟩]
def c260_3 : List SOper := [⟨(some 6), .mov (.const (.int .i64 (0))), none, [], 0, [], 0, 0, []⟩]
def c260_4 : List SOper := [⟨(some 12), .mov (.tmp 6), none, [], 0, [], 0, 0, []⟩,
  ⟨(some 13), .bin .lss (.tmp 12) (.const (.int .i64 (4))), none, [], 0, [], 0, 0, []⟩]
def c260_5 : List SOper := [⟨(some 16), .mov (.tmp 5), none, [5], 0, [], 0, 0, []⟩,
  ⟨(some 17), .mov (.tmp 6), none, [6], 1, [], 0, 0, []⟩,
  ⟨(some 18), .fld 0 (.tmp 2), none, [2], 2, [], 0, 0, []⟩,
  ⟨(some 19), .idxA 4 4 (.tmp 18) (.tmp 16), none, [18, 16], 3, [2, 0], 0, 0, []⟩,
  ⟨(some 20), .idxA 4 1 (.tmp 19) (.tmp 17), none, [19, 17], 4, [3, 1], 0, 0, []⟩,
  ⟨(some 21), .load1 (.tmp 20), none, [20], 5, [4], 0, 0, []⟩,
  ⟨(some 22), .mov (.tmp 5), none, [5], 6, [], 0, 0, []⟩,
  ⟨(some 23), .mov (.tmp 6), none, [6], 7, [], 0, 0, []⟩,
  ⟨(some 24), .fld 0 (.tmp 3), none, [3], 8, [], 0, 0, []⟩,
  ⟨(some 25), .idxA 4 4 (.tmp 24) (.tmp 22), none, [24, 22], 9, [8, 6], 0, 0, []⟩,
  ⟨(some 26), .idxA 4 1 (.tmp 25) (.tmp 23), none, [25, 23], 10, [9, 7], 0, 0, []⟩,
  ⟨(some 27), .load1 (.tmp 26), none, [26], 11, [10], 0, 0, []⟩,
  ⟨(some 28), .bin .neq (.tmp 21) (.tmp 27), none, [21, 27], 12, [5, 11], 0, 0, []⟩]
def c260_6 : List SOper := [⟨(some 29), .mov (.tmp 5), none, [5], 0, [], 0, 0, []⟩,
  ⟨(some 30), .mov (.tmp 6), none, [6], 1, [], 0, 0, []⟩,
  ⟨(some 31), .fld 0 (.tmp 2), none, [2], 2, [], 0, 0, []⟩,
  ⟨(some 32), .idxA 4 4 (.tmp 31) (.tmp 29), none, [31, 29], 3, [2, 0], 0, 0, []⟩,
  ⟨(some 33), .idxA 4 1 (.tmp 32) (.tmp 30), none, [32, 30], 4, [3, 1], 0, 0, []⟩,
  ⟨(some 34), .load1 (.tmp 33), none, [33], 5, [4], 0, 0, []⟩,
  ⟨(some 35), .mov (.tmp 5), none, [5], 6, [], 0, 0, []⟩,
  ⟨(some 36), .mov (.tmp 6), none, [6], 7, [], 0, 0, []⟩,
  ⟨(some 37), .fld 0 (.tmp 3), none, [3], 8, [], 0, 0, []⟩,
  ⟨(some 38), .idxA 4 4 (.tmp 37) (.tmp 35), none, [37, 35], 9, [8, 6], 0, 0, []⟩,
  ⟨(some 39), .idxA 4 1 (.tmp 38) (.tmp 36), none, [38, 36], 10, [9, 7], 0, 0, []⟩,
  ⟨(some 40), .load1 (.tmp 39), none, [39], 11, [10], 0, 0, []⟩,
  ⟨(some 41), .bin .lss (.tmp 34) (.tmp 40), none, [34, 40], 12, [5, 11], 0, 0, []⟩,
  ⟨(some 4), .mov (.tmp 41), none, [41], 13, [12, 0, 1, 2, 3, 4, 5, 6, 7, 8, 9, 10, 11, 12], 0, 0, []⟩]
def c260_7 : List SOper := [⟨(some 14), .mov (.tmp 6), none, [], 0, [], 0, 0, []⟩,
  ⟨(some 15), .bin .add (.tmp 14) (.const (.int .i64 (1))), none, [], 0, [], 0, 0, []⟩,
  ⟨(some 6), .mov (.tmp 15), none, [], 0, [], 0, 0, []⟩]
def c260_8 : SCode := (.seq (.seq (.reg [13, 6, 5, 3, 2] c260_4) (.cond (.tmp 13) .skip (.exit 2))) (.seq (.block 3 (.seq (.qreg [28, 6, 5, 3, 2] c260_5) (.cond (.tmp 28) (.seq (.qreg [4] c260_6) .ret) .skip))) (.reg [6, 5, 3, 2] c260_7)))
def c260_9 : List SOper := [⟨(some 10), .mov (.tmp 5), none, [], 0, [], 0, 0, []⟩,
  ⟨(some 11), .bin .add (.tmp 10) (.const (.int .i64 (1))), none, [], 0, [], 0, 0, []⟩,
  ⟨(some 5), .mov (.tmp 11), none, [], 0, [], 0, 0, []⟩]
def c260_10 : SCode := (.seq (.seq (.reg [9, 5, 3, 2] c260_2) (.cond (.tmp 9) .skip (.exit 0))) (.seq (.block 1 (.seq (.reg [6, 5, 3, 2] c260_3) (.block 2 (.loop [6, 5, 3, 2] c260_8)))) (.reg [5, 3, 2] c260_9)))
def c260_11 : List SOper := [⟨(some 7), .mov (.const (.int .i64 (0))), none, [], 0, [], 0, 0, []⟩]
def c260_12 : List SOper := [⟨(some 42), .mov (.tmp 7), none, [], 0, [], 0, 0, []⟩,
  ⟨(some 43), .bin .lss (.tmp 42) (.const (.int .i64 (4))), none, [], 0, [], 0, 0, []⟩]
def c260_13 : List SOper := [⟨(some 46), .mov (.tmp 7), none, [7], 0, [], 0, 0, []⟩,
  ⟨(some 47), .fld 16 (.tmp 2), none, [2], 1, [], 0, 0, []⟩,
  ⟨(some 48), .idxA 4 1 (.tmp 47) (.tmp 46), none, [47, 46], 2, [1, 0], 0, 0, []⟩,
  ⟨(some 49), .load1 (.tmp 48), none, [48], 3, [2], 0, 0, []⟩,
  ⟨(some 50), .mov (.tmp 7), none, [7], 4, [], 0, 0, []⟩,
  ⟨(some 51), .fld 16 (.tmp 3), none, [3], 5, [], 0, 0, []⟩,
  ⟨(some 52), .idxA 4 1 (.tmp 51) (.tmp 50), none, [51, 50], 6, [5, 4], 0, 0, []⟩,
  ⟨(some 53), .load1 (.tmp 52), none, [52], 7, [6], 0, 0, []⟩,
  ⟨(some 54), .bin .neq (.tmp 49) (.tmp 53), none, [49, 53], 8, [3, 7], 0, 0, []⟩]
def c260_14 : List SOper := [⟨(some 55), .mov (.tmp 7), none, [7], 0, [], 0, 0, []⟩,
  ⟨(some 56), .fld 16 (.tmp 2), none, [2], 1, [], 0, 0, []⟩,
  ⟨(some 57), .idxA 4 1 (.tmp 56) (.tmp 55), none, [56, 55], 2, [1, 0], 0, 0, []⟩,
  ⟨(some 58), .load1 (.tmp 57), none, [57], 3, [2], 0, 0, []⟩,
  ⟨(some 59), .mov (.tmp 7), none, [7], 4, [], 0, 0, []⟩,
  ⟨(some 60), .fld 16 (.tmp 3), none, [3], 5, [], 0, 0, []⟩,
  ⟨(some 61), .idxA 4 1 (.tmp 60) (.tmp 59), none, [60, 59], 6, [5, 4], 0, 0, []⟩,
  ⟨(some 62), .load1 (.tmp 61), none, [61], 7, [6], 0, 0, []⟩,
  ⟨(some 63), .bin .lss (.tmp 58) (.tmp 62), none, [58, 62], 8, [3, 7], 0, 0, []⟩,
  ⟨(some 4), .mov (.tmp 63), none, [63], 9, [8, 0, 1, 2, 3, 4, 5, 6, 7, 8], 0, 0, []⟩]
def c260_15 : List SOper := [⟨(some 44), .mov (.tmp 7), none, [], 0, [], 0, 0, []⟩,
  ⟨(some 45), .bin .add (.tmp 44) (.const (.int .i64 (1))), none, [], 0, [], 0, 0, []⟩,
  ⟨(some 7), .mov (.tmp 45), none, [], 0, [], 0, 0, []⟩]
def c260_16 : SCode := (.seq (.seq (.reg [43, 7, 3, 2] c260_12) (.cond (.tmp 43) .skip (.exit 4))) (.seq (.block 5 (.seq (.qreg [54, 7, 3, 2] c260_13) (.cond (.tmp 54) (.seq (.qreg [4] c260_14) .ret) .skip))) (.reg [7, 3, 2] c260_15)))
def c260_17 : List SOper := [⟨(some 4), .mov (.const (.bool false)), none, [], 0, [], 0, 0, []⟩]
def c260_body : SCode := (.seq (.reg [3, 2] c260_0) (.seq (.seq (.reg [5, 3, 2] c260_1) (.block 0 (.loop [5, 3, 2] c260_10))) (.seq (.seq (.reg [7, 3, 2] c260_11) (.block 4 (.loop [7, 3, 2] c260_16))) (.seq (.reg [4] c260_17) .ret))))
def c260 : SFunc := ⟨2, 64, c260_body, [.tmp 4]⟩

/- jacquard/jacquardlaw13.awake -/
def c261_0 : List SOper := [⟨(some 0), .mov (.const (.bool false)), none, [], 0, [], 0, 0, []⟩]
def c261_1 : List SOper := [⟨(some 3), .mkslice 1 [(.int .u8 (0))] [(0, 1, (.const (.int .u8 (120))))], none, [], 0, [], 0, 0, []⟩,
  ⟨(some 4), .mark (.tmp 3), none, [], 0, [], 0, 0, []⟩,
  ⟨(some 5), .mkslice 1 [(.int .i64 (0))] [(0, 1, (.const (.int .i64 (0))))], none, [], 0, [], 0, 0, []⟩,
  ⟨(some 6), .build [(.int .i64 (0)), (.int .i64 (0))] [(0, 1, (.const (.int .i64 (-1)))), (1, 1, (.const (.int .i64 (1))))], none, [], 0, [], 0, 0, []⟩,
  ⟨(some 7), .build (zi 9) [(0, 1, (.const (.int .i64 (1)))), (3, 2, (.tmp 6))], none, [], 0, [], 0, 0, []⟩,
  ⟨(some 8), .mkslice 1 (zi 9) [(0, 9, (.tmp 7))], none, [], 0, [], 0, 0, []⟩,
  ⟨(some 9), .mkslice 1 [(.slice none 0 0)] [(0, 1, (.tmp 8))], none, [], 0, [], 0, 0, []⟩,
  ⟨(some 10), .build [(.slice none 0 0), (.slice none 0 0), (.slice none 0 0)] [(0, 1, (.tmp 4)), (1, 1, (.tmp 5)), (2, 1, (.tmp 9))], none, [], 0, [], 0, 0, []⟩,
  ⟨(some 1), .alloc [(.slice none 0 0), (.slice none 0 0), (.slice none 0 0)], none, [], 0, [], 0, 0, []⟩,
  ⟨none, .storeN 3 (.tmp 1) (.tmp 10), none, [], 0, [], 0, 0, []⟩]
def c261_2 : List SOper := [⟨(some 11), .build (zi 4) [(0, 1, (.const (.int .i64 (1))))], none, [], 0, [], 0, 0, []⟩,
  ⟨(some 12), .build (zi 20) [(16, 4, (.tmp 11))], none, [], 0, [], 0, 0, []⟩,
  ⟨(some 2), .alloc (zi 20), none, [], 0, [], 0, 0, []⟩,
  ⟨none, .storeN 20 (.tmp 2) (.tmp 12), none, [], 0, [], 0, 0, []⟩]
def c261_3 : List SOper := [⟨(some 13), .loadN 3 (.tmp 1), none, [], 0, [], 0, 0, []⟩,
  ⟨(some 14), .loadN 20 (.tmp 2), none, [], 0, [], 0, 0, []⟩,
  ⟨(some 15), .call 262 [(.tmp 13), (.tmp 14)], none, [], 0, [], 0, 0, []⟩,
  ⟨(some 16), .bin .eql (.tmp 15) (.const (.string ⟨#[48, 58, 114, 48, 61, 48, 32, 48, 58, 114, 49, 61, 48, 32, 48, 58, 114, 50, 61, 48, 32, 48, 58, 114, 51, 61, 48, 32, 120, 61, 49]⟩)), none, [], 0, [], 0, 0, []⟩,
  ⟨(some 17), .mov (.tmp 16), none, [], 0, [], 0, 0, []⟩,
  ⟨(some 18), .loadN 20 (.tmp 2), (some (17, true)), [], 0, [], 0, 0, []⟩,
  ⟨(some 19), .loadN 20 (.tmp 2), (some (17, true)), [], 0, [], 0, 0, []⟩,
  ⟨(some 20), .mkslice 2 (zi 40) [(0, 20, (.tmp 18)), (20, 20, (.tmp 19))], (some (17, true)), [], 0, [], 0, 0, []⟩,
  ⟨(some 21), .call 49 [(.tmp 20)], (some (17, true)), [], 0, [], 0, 0, []⟩,
  ⟨(some 22), .lenS (.tmp 21), (some (17, true)), [], 0, [], 0, 0, []⟩,
  ⟨(some 23), .bin .eql (.tmp 22) (.const (.int .i64 (1))), (some (17, true)), [], 0, [], 0, 0, []⟩,
  ⟨(some 24), .pick (.tmp 17) (.tmp 23) (.const (.bool false)), none, [], 0, [], 0, 0, []⟩,
  ⟨(some 25), .mov (.tmp 24), none, [], 0, [], 0, 0, []⟩,
  ⟨(some 26), .loadN 20 (.tmp 2), (some (25, true)), [], 0, [], 0, 0, []⟩,
  ⟨(some 27), .mkslice 1 (zi 20) [(0, 20, (.tmp 26))], (some (25, true)), [], 0, [], 0, 0, []⟩,
  ⟨(some 28), .loadN 20 (.tmp 2), (some (25, true)), [], 0, [], 0, 0, []⟩,
  ⟨(some 29), .call 263 [(.tmp 27), (.tmp 28)], (some (25, true)), [], 0, [], 0, 0, []⟩,
  ⟨(some 30), .pick (.tmp 25) (.tmp 29) (.const (.bool false)), none, [], 0, [], 0, 0, []⟩,
  ⟨(some 0), .mov (.tmp 30), none, [], 0, [], 0, 0, []⟩]
def c261_body : SCode := (.seq (.reg [] c261_0) (.seq (.reg [1] c261_1) (.seq (.reg [2, 1] c261_2) (.seq (.reg [0] c261_3) .ret))))
def c261 : SFunc := ⟨0, 31, c261_body, [.tmp 0]⟩

/- jacquard/final.compare -/
def c95_0 : List SOper := [⟨(some 2), .box (.tmp 0), none, [], 0, [], 0, 0, []⟩,
  ⟨(some 3), .box (.tmp 1), none, [], 0, [], 0, 0, []⟩,
  ⟨(some 4), .mov (.const (.int .i64 (0))), none, [], 0, [], 0, 0, []⟩]
def c95_1 : List SOper := [⟨(some 7), .mov (.const (.int .i64 (0))), none, [], 0, [], 0, 0, []⟩]
def c95_2 : List SOper := [⟨(some 8), .bin .lss (.tmp 7) (.const (.int .i64 (4))), none, [], 0, [], 0, 0, []⟩]
def c95_3 : List SOper := [⟨(some 9), .mov (.tmp 7), none, [], 0, [], 0, 0, []⟩,
  ⟨(some 5), .mov (.tmp 9), none, [], 0, [], 0, 0, []⟩]
def c95_4 : List SOper := [⟨(some 10), .mov (.tmp 5), none, [5], 0, [], 0, 0, []⟩,
  ⟨(some 11), .fld 0 (.tmp 2), none, [2], 1, [], 0, 0, []⟩,
  ⟨(some 12), .idxA 4 4 (.tmp 11) (.tmp 10), none, [11, 10], 2, [1, 0], 0, 0, []⟩,
  ⟨(some 13), .slarr 4 1 (.tmp 12) none none none, none, [12], 3, [2], 0, 0, []⟩,
  ⟨(some 14), .mov (.tmp 5), none, [5], 4, [], 0, 0, []⟩,
  ⟨(some 15), .fld 0 (.tmp 3), none, [3], 5, [], 0, 0, []⟩,
  ⟨(some 16), .idxA 4 4 (.tmp 15) (.tmp 14), none, [15, 14], 6, [5, 4], 0, 0, []⟩,
  ⟨(some 17), .slarr 4 1 (.tmp 16) none none none, none, [16], 7, [6], 0, 0, []⟩,
  ⟨(some 18), .call 169 [(.tmp 13), (.tmp 17)], none, [13, 17], 8, [3, 7], 0, 0, []⟩,
  ⟨(some 6), .mov (.tmp 18), none, [18], 9, [8, 8, 0, 1, 2, 3, 4, 5, 6, 7, 8], 0, 0, []⟩]
def c95_4b : List SOper := []
def c95_5 : List SOper := [⟨(some 19), .mov (.tmp 6), none, [], 0, [], 0, 0, []⟩,
  ⟨(some 20), .bin .neq (.tmp 19) (.const (.int .i64 (0))), none, [], 0, [], 0, 0, []⟩]
def c95_6 : List SOper := [⟨(some 21), .mov (.tmp 6), none, [], 0, [], 0, 0, []⟩,
  ⟨(some 4), .mov (.tmp 21), none, [], 0, [], 0, 0, []⟩]
def c95_7 : List SOper := [⟨(some 22), .bin .add (.tmp 7) (.const (.int .i64 (1))), none, [], 0, [], 0, 0, []⟩,
  ⟨(some 7), .mov (.tmp 22), none, [], 0, [], 0, 0, []⟩]
def c95_8 : SCode := (.seq (.reg [8, 7, 3, 2] c95_2) (.seq (.cond (.tmp 8) .skip (.exit 0)) (.seq (.block 1 (.seq (.reg [7, 5, 3, 2] c95_3) (.seq (.dreg [7, 6, 3, 2] c95_4 c95_4b) (.seq (.reg [20, 7, 6, 3, 2] c95_5) (.cond (.tmp 20) (.seq (.reg [4] c95_6) .ret) .skip))))) (.reg [7, 3, 2] c95_7))))
def c95_9 : List SOper := [⟨(some 23), .fld 16 (.tmp 2), none, [2], 0, [], 0, 0, []⟩,
  ⟨(some 24), .slarr 4 1 (.tmp 23) none none none, none, [23], 1, [0], 0, 0, []⟩,
  ⟨(some 25), .fld 16 (.tmp 3), none, [3], 2, [], 0, 0, []⟩,
  ⟨(some 26), .slarr 4 1 (.tmp 25) none none none, none, [25], 3, [2], 0, 0, []⟩,
  ⟨(some 27), .call 169 [(.tmp 24), (.tmp 26)], none, [24, 26], 4, [1, 3], 0, 0, []⟩,
  ⟨(some 28), .mkslice 2 [(.int .i64 (0)), (.int .i64 (0))] [(0, 1, (.tmp 27)), (1, 1, (.const (.int .i64 (0))))], none, [27], 5, [4], 0, 0, []⟩,
  ⟨(some 29), .call 142 [(.tmp 28)], none, [28], 6, [5, 4], 0, 0, [5]⟩,
  ⟨(some 4), .mov (.tmp 29), none, [29], 7, [6, 6, 0, 1, 2, 3, 4, 5, 6], 0, 0, []⟩]
def c95_9b : List SOper := []
def c95_body : SCode := (.seq (.reg [3, 2] c95_0) (.seq (.seq (.reg [7, 3, 2] c95_1) (.block 0 (.loop [7, 3, 2] c95_8))) (.seq (.dreg [4] c95_9 c95_9b) .ret)))
def c95 : SFunc := ⟨2, 30, c95_body, [.tmp 4]⟩

/- jacquard/final.Text -/
def c262_0 : List SOper := [⟨(some 2), .box (.tmp 0), none, [], 0, [], 0, 0, []⟩,
  ⟨(some 3), .box (.tmp 1), none, [], 0, [], 0, 0, []⟩,
  ⟨(some 4), .mov (.const (.string ⟨#[]⟩)), none, [], 0, [], 0, 0, []⟩]
def c262_1 : List SOper := [⟨(some 5), .mov (.const (.slice none 0 0)), none, [], 0, [], 0, 0, []⟩]
def c262_2 : List SOper := [⟨(some 11), .fld 2 (.tmp 2), none, [], 0, [], 0, 0, []⟩,
  ⟨(some 12), .load1 (.tmp 11), none, [], 0, [], 0, 0, []⟩,
  ⟨(some 13), .lenS (.tmp 12), none, [], 0, [], 0, 0, []⟩,
  ⟨(some 14), .mm false [(.tmp 13), (.const (.int .i64 (4)))], none, [], 0, [], 0, 0, []⟩,
  ⟨(some 15), .mov (.const (.int .i64 (0))), none, [], 0, [], 0, 0, []⟩]
def c262_3 : List SOper := [⟨(some 16), .bin .lss (.tmp 15) (.tmp 14), none, [], 0, [], 0, 0, []⟩]
def c262_4 : List SOper := [⟨(some 17), .mov (.tmp 15), none, [], 0, [], 0, 0, []⟩,
  ⟨(some 6), .mov (.tmp 17), none, [], 0, [], 0, 0, []⟩]
def c262_5 : List SOper := [⟨(some 18), .mov (.tmp 6), none, [], 0, [], 0, 0, []⟩,
  ⟨(some 19), .fld 0 (.tmp 3), none, [], 0, [], 0, 0, []⟩,
  ⟨(some 20), .idxA 4 4 (.tmp 19) (.tmp 18), none, [], 0, [], 0, 0, []⟩,
  ⟨(some 21), .loadN 4 (.tmp 20), none, [], 0, [], 0, 0, []⟩,
  ⟨(some 22), .mov (.const (.int .i64 (0))), none, [], 0, [], 0, 0, []⟩]
def c262_6 : List SOper := [⟨(some 23), .bin .lss (.tmp 22) (.const (.int .i64 (4))), none, [], 0, [], 0, 0, []⟩]
def c262_7 : List SOper := [⟨(some 24), .mov (.tmp 22), none, [], 0, [], 0, 0, []⟩,
  ⟨(some 25), .idxV1 4 (.tmp 21) (.tmp 22), none, [], 0, [], 0, 0, []⟩,
  ⟨(some 7), .mov (.tmp 24), none, [], 0, [], 0, 0, []⟩,
  ⟨(some 8), .mov (.tmp 25), none, [], 0, [], 0, 0, []⟩]
def c262_8 : List SOper := [⟨(some 26), .mov (.tmp 5), none, [], 0, [], 0, 0, []⟩,
  ⟨(some 27), .mov (.tmp 6), none, [], 0, [], 0, 0, []⟩,
  ⟨(some 28), .call 264 [(.tmp 27)], none, [], 0, [], 0, 0, []⟩,
  ⟨(some 29), .bin .add (.tmp 28) (.const (.string ⟨#[58, 114]⟩)), none, [], 0, [], 0, 0, []⟩,
  ⟨(some 30), .mov (.tmp 7), none, [], 0, [], 0, 0, []⟩,
  ⟨(some 31), .call 264 [(.tmp 30)], none, [], 0, [], 0, 0, []⟩,
  ⟨(some 32), .bin .add (.tmp 29) (.tmp 31), none, [], 0, [], 0, 0, []⟩,
  ⟨(some 33), .bin .add (.tmp 32) (.const (.string ⟨#[61]⟩)), none, [], 0, [], 0, 0, []⟩,
  ⟨(some 34), .mov (.tmp 8), none, [], 0, [], 0, 0, []⟩,
  ⟨(some 35), .call 264 [(.tmp 34)], none, [], 0, [], 0, 0, []⟩,
  ⟨(some 36), .bin .add (.tmp 33) (.tmp 35), none, [], 0, [], 0, 0, []⟩,
  ⟨(some 37), .mkslice 1 [(.string ⟨#[]⟩)] [(0, 1, (.tmp 36))], none, [], 0, [], 0, 0, []⟩,
  ⟨(some 38), .append 1 16 (.tmp 26) (.tmp 37), none, [], 0, [], 0, 0, []⟩,
  ⟨(some 5), .mov (.tmp 38), none, [], 0, [], 0, 0, []⟩]
def c262_9 : List SOper := [⟨(some 39), .bin .add (.tmp 22) (.const (.int .i64 (1))), none, [], 0, [], 0, 0, []⟩,
  ⟨(some 22), .mov (.tmp 39), none, [], 0, [], 0, 0, []⟩]
def c262_10 : SCode := (.seq (.reg [23, 22, 21, 15, 14, 6, 5, 3, 2] c262_6) (.seq (.cond (.tmp 23) .skip (.exit 2)) (.seq (.block 3 (.seq (.reg [22, 21, 15, 14, 8, 7, 6, 5, 3, 2] c262_7) (.reg [22, 21, 15, 14, 6, 5, 3, 2] c262_8))) (.reg [22, 21, 15, 14, 6, 5, 3, 2] c262_9))))
def c262_11 : List SOper := [⟨(some 40), .bin .add (.tmp 15) (.const (.int .i64 (1))), none, [], 0, [], 0, 0, []⟩,
  ⟨(some 15), .mov (.tmp 40), none, [], 0, [], 0, 0, []⟩]
def c262_12 : SCode := (.seq (.reg [16, 15, 14, 5, 3, 2] c262_3) (.seq (.cond (.tmp 16) .skip (.exit 0)) (.seq (.block 1 (.seq (.reg [15, 14, 6, 5, 3, 2] c262_4) (.seq (.reg [22, 21, 15, 14, 6, 5, 3, 2] c262_5) (.block 2 (.loop [22, 21, 15, 14, 6, 5, 3, 2] c262_10))))) (.reg [15, 14, 5, 3, 2] c262_11))))
def c262_13 : List SOper := [⟨(some 41), .fld 0 (.tmp 2), none, [], 0, [], 0, 0, []⟩,
  ⟨(some 42), .load1 (.tmp 41), none, [], 0, [], 0, 0, []⟩,
  ⟨(some 43), .lenS (.tmp 42), none, [], 0, [], 0, 0, []⟩,
  ⟨(some 44), .mov (.const (.int .i64 (0))), none, [], 0, [], 0, 0, []⟩]
def c262_14 : List SOper := [⟨(some 45), .bin .lss (.tmp 44) (.tmp 43), none, [], 0, [], 0, 0, []⟩]
def c262_15 : List SOper := [⟨(some 46), .mov (.tmp 44), none, [], 0, [], 0, 0, []⟩,
  ⟨(some 47), .idxS 1 (.tmp 42) (.tmp 44), none, [], 0, [], 0, 0, []⟩,
  ⟨(some 48), .load1 (.tmp 47), none, [], 0, [], 0, 0, []⟩,
  ⟨(some 9), .mov (.tmp 46), none, [], 0, [], 0, 0, []⟩,
  ⟨(some 10), .mov (.tmp 48), none, [], 0, [], 0, 0, []⟩]
def c262_16 : List SOper := [⟨(some 49), .mov (.tmp 9), none, [], 0, [], 0, 0, []⟩,
  ⟨(some 50), .bin .lss (.tmp 49) (.const (.int .i64 (4))), none, [], 0, [], 0, 0, []⟩]
def c262_17 : List SOper := [⟨(some 51), .mov (.tmp 5), none, [], 0, [], 0, 0, []⟩,
  ⟨(some 52), .mov (.tmp 10), none, [], 0, [], 0, 0, []⟩,
  ⟨(some 53), .conv .i32 (.tmp 52), none, [], 0, [], 0, 0, []⟩,
  ⟨(some 54), .tostr (.tmp 53), none, [], 0, [], 0, 0, []⟩,
  ⟨(some 55), .bin .add (.tmp 54) (.const (.string ⟨#[61]⟩)), none, [], 0, [], 0, 0, []⟩,
  ⟨(some 56), .mov (.tmp 9), none, [], 0, [], 0, 0, []⟩,
  ⟨(some 57), .fld 16 (.tmp 3), none, [], 0, [], 0, 0, []⟩,
  ⟨(some 58), .idxA 4 1 (.tmp 57) (.tmp 56), none, [], 0, [], 0, 0, []⟩,
  ⟨(some 59), .load1 (.tmp 58), none, [], 0, [], 0, 0, []⟩,
  ⟨(some 60), .call 264 [(.tmp 59)], none, [], 0, [], 0, 0, []⟩,
  ⟨(some 61), .bin .add (.tmp 55) (.tmp 60), none, [], 0, [], 0, 0, []⟩,
  ⟨(some 62), .mkslice 1 [(.string ⟨#[]⟩)] [(0, 1, (.tmp 61))], none, [], 0, [], 0, 0, []⟩,
  ⟨(some 63), .append 1 16 (.tmp 51) (.tmp 62), none, [], 0, [], 0, 0, []⟩,
  ⟨(some 5), .mov (.tmp 63), none, [], 0, [], 0, 0, []⟩]
def c262_18 : List SOper := [⟨(some 64), .bin .add (.tmp 44) (.const (.int .i64 (1))), none, [], 0, [], 0, 0, []⟩,
  ⟨(some 44), .mov (.tmp 64), none, [], 0, [], 0, 0, []⟩]
def c262_19 : SCode := (.seq (.reg [45, 44, 43, 42, 5, 3] c262_14) (.seq (.cond (.tmp 45) .skip (.exit 4)) (.seq (.block 5 (.seq (.reg [44, 43, 42, 10, 9, 5, 3] c262_15) (.seq (.reg [50, 44, 43, 42, 10, 9, 5, 3] c262_16) (.cond (.tmp 50) (.reg [44, 43, 42, 5, 3] c262_17) .skip)))) (.reg [44, 43, 42, 5, 3] c262_18))))
def c262_20 : List SOper := [⟨(some 65), .mov (.tmp 5), none, [], 0, [], 0, 0, []⟩,
  ⟨(some 66), .call 87 [(.tmp 65), (.const (.string ⟨#[32]⟩))], none, [], 0, [], 0, 0, []⟩,
  ⟨(some 4), .mov (.tmp 66), none, [], 0, [], 0, 0, []⟩]
def c262_body : SCode := (.seq (.reg [3, 2] c262_0) (.seq (.reg [5, 3, 2] c262_1) (.seq (.seq (.reg [15, 14, 5, 3, 2] c262_2) (.block 0 (.loop [15, 14, 5, 3, 2] c262_12))) (.seq (.seq (.reg [44, 43, 42, 5, 3] c262_13) (.block 4 (.loop [44, 43, 42, 5, 3] c262_19))) (.seq (.reg [4] c262_20) .ret)))))
def c262 : SFunc := ⟨2, 67, c262_body, [.tmp 4]⟩

/- jacquard/final.Sort -/
def c49_0 : List SOper := [⟨(some 2), .mov (.const (.slice none 0 0)), none, [], 0, [], 0, 0, []⟩]
def c49_1 : List SOper := [⟨(some 4), .mov (.tmp 0), none, [], 0, [], 0, 0, []⟩,
  ⟨(some 5), .call 93 [(.tmp 4)], none, [], 0, [], 0, 0, []⟩,
  ⟨(some 3), .mov (.tmp 5), none, [], 0, [], 0, 0, []⟩]
def c49_2 : List SOper := [⟨(some 6), .mov (.tmp 3), none, [], 0, [], 0, 0, []⟩,
  ⟨(some 7), .call 94 [(.tmp 6), (.func 95)], none, [], 0, [], 0, 0, []⟩]
def c49_3 : List SOper := [⟨(some 8), .mov (.tmp 3), none, [], 0, [], 0, 0, []⟩,
  ⟨(some 9), .call 97 [(.tmp 8)], none, [], 0, [], 0, 0, []⟩,
  ⟨(some 10), .call 96 [(.tmp 9)], none, [], 0, [], 0, 0, []⟩,
  ⟨(some 2), .mov (.tmp 10), none, [], 0, [], 0, 0, []⟩]
def c49_body : SCode := (.seq (.reg [0] c49_0) (.seq (.reg [3] c49_1) (.seq (.reg [3] c49_2) (.seq (.reg [2] c49_3) .ret))))
def c49 : SFunc := ⟨1, 11, c49_body, [.tmp 2]⟩

/- jacquard/final.Has -/
def c263_0 : List SOper := [⟨(some 3), .box (.tmp 1), none, [], 0, [], 0, 0, []⟩,
  ⟨(some 4), .mov (.const (.bool false)), none, [], 0, [], 0, 0, []⟩]
def c263_1 : List SOper := [⟨(some 5), .mov (.tmp 0), none, [], 0, [], 0, 0, []⟩,
  ⟨(some 6), .loadN 20 (.tmp 3), none, [], 0, [], 0, 0, []⟩,
  ⟨(some 7), .call 265 [(.tmp 5), (.tmp 6)], none, [], 0, [], 0, 0, []⟩,
  ⟨(some 4), .mov (.tmp 7), none, [], 0, [], 0, 0, []⟩]
def c263_body : SCode := (.seq (.reg [3, 0] c263_0) (.seq (.reg [4] c263_1) .ret))
def c263 : SFunc := ⟨2, 8, c263_body, [.tmp 4]⟩

/- slices.Compare[[]int64,int64] -/
def c169_0 : List SOper := [⟨(some 4), .mov (.const (.int .i64 (0))), none, [], 0, [], 0, 0, []⟩]
def c169_1 : List SOper := [⟨(some 9), .mov (.tmp 0), none, [], 0, [], 0, 0, []⟩,
  ⟨(some 10), .lenS (.tmp 9), none, [], 0, [], 0, 0, []⟩,
  ⟨(some 11), .mov (.const (.int .i64 (0))), none, [], 0, [], 0, 0, []⟩]
def c169_2 : List SOper := [⟨(some 12), .bin .lss (.tmp 11) (.tmp 10), none, [], 0, [], 0, 0, []⟩]
def c169_3 : List SOper := [⟨(some 13), .mov (.tmp 11), none, [], 0, [], 0, 0, []⟩,
  ⟨(some 14), .idxS 1 (.tmp 9) (.tmp 11), none, [], 0, [], 0, 0, []⟩,
  ⟨(some 15), .load1 (.tmp 14), none, [], 0, [], 0, 0, []⟩,
  ⟨(some 5), .mov (.tmp 13), none, [], 0, [], 0, 0, []⟩,
  ⟨(some 6), .mov (.tmp 15), none, [], 0, [], 0, 0, []⟩]
def c169_4 : List SOper := [⟨(some 16), .mov (.tmp 5), none, [], 0, [], 0, 0, []⟩,
  ⟨(some 17), .mov (.tmp 1), none, [], 0, [], 0, 0, []⟩,
  ⟨(some 18), .lenS (.tmp 17), none, [], 0, [], 0, 0, []⟩,
  ⟨(some 19), .bin .geq (.tmp 16) (.tmp 18), none, [], 0, [], 0, 0, []⟩]
def c169_5 : List SOper := [⟨(some 4), .mov (.const (.int .i64 (1))), none, [], 0, [], 0, 0, []⟩]
def c169_6 : List SOper := [⟨(some 20), .mov (.tmp 1), none, [], 0, [], 0, 0, []⟩,
  ⟨(some 21), .mov (.tmp 5), none, [], 0, [], 0, 0, []⟩,
  ⟨(some 22), .idxS 1 (.tmp 20) (.tmp 21), none, [], 0, [], 0, 0, []⟩,
  ⟨(some 23), .load1 (.tmp 22), none, [], 0, [], 0, 0, []⟩,
  ⟨(some 7), .mov (.tmp 23), none, [], 0, [], 0, 0, []⟩]
def c169_7 : List SOper := [⟨(some 24), .mov (.tmp 6), none, [], 0, [], 0, 0, []⟩,
  ⟨(some 25), .mov (.tmp 7), none, [], 0, [], 0, 0, []⟩,
  ⟨(some 26), .call 198 [(.tmp 24), (.tmp 25)], none, [], 0, [], 0, 0, []⟩,
  ⟨(some 8), .mov (.tmp 26), none, [], 0, [], 0, 0, []⟩]
def c169_8 : List SOper := [⟨(some 27), .mov (.tmp 8), none, [], 0, [], 0, 0, []⟩,
  ⟨(some 28), .bin .neq (.tmp 27) (.const (.int .i64 (0))), none, [], 0, [], 0, 0, []⟩]
def c169_9 : List SOper := [⟨(some 29), .mov (.tmp 8), none, [], 0, [], 0, 0, []⟩,
  ⟨(some 4), .mov (.tmp 29), none, [], 0, [], 0, 0, []⟩]
def c169_10 : List SOper := [⟨(some 30), .bin .add (.tmp 11) (.const (.int .i64 (1))), none, [], 0, [], 0, 0, []⟩,
  ⟨(some 11), .mov (.tmp 30), none, [], 0, [], 0, 0, []⟩]
def c169_11 : SCode := (.seq (.reg [12, 11, 10, 9, 1, 0] c169_2) (.seq (.cond (.tmp 12) .skip (.exit 0)) (.seq (.block 1 (.seq (.reg [11, 10, 9, 6, 5, 1, 0] c169_3) (.seq (.seq (.reg [19, 11, 10, 9, 6, 5, 1, 0] c169_4) (.cond (.tmp 19) (.seq (.reg [4] c169_5) .ret) .skip)) (.seq (.reg [11, 10, 9, 7, 6, 1, 0] c169_6) (.seq (.reg [11, 10, 9, 8, 1, 0] c169_7) (.seq (.reg [28, 11, 10, 9, 8, 1, 0] c169_8) (.cond (.tmp 28) (.seq (.reg [4] c169_9) .ret) .skip))))))) (.reg [11, 10, 9, 1, 0] c169_10))))
def c169_12 : List SOper := [⟨(some 31), .mov (.tmp 0), none, [], 0, [], 0, 0, []⟩,
  ⟨(some 32), .lenS (.tmp 31), none, [], 0, [], 0, 0, []⟩,
  ⟨(some 33), .mov (.tmp 1), none, [], 0, [], 0, 0, []⟩,
  ⟨(some 34), .lenS (.tmp 33), none, [], 0, [], 0, 0, []⟩,
  ⟨(some 35), .bin .lss (.tmp 32) (.tmp 34), none, [], 0, [], 0, 0, []⟩]
def c169_13 : List SOper := [⟨(some 4), .mov (.const (.int .i64 (-1))), none, [], 0, [], 0, 0, []⟩]
def c169_14 : List SOper := [⟨(some 4), .mov (.const (.int .i64 (0))), none, [], 0, [], 0, 0, []⟩]
def c169_body : SCode := (.seq (.reg [1, 0] c169_0) (.seq (.seq (.reg [11, 10, 9, 1, 0] c169_1) (.block 0 (.loop [11, 10, 9, 1, 0] c169_11))) (.seq (.seq (.reg [35] c169_12) (.cond (.tmp 35) (.seq (.reg [4] c169_13) .ret) .skip)) (.seq (.reg [4] c169_14) .ret))))
def c169 : SFunc := ⟨2, 36, c169_body, [.tmp 4]⟩

/- cmp.Or[int] -/
def c142_0 : List SOper := [⟨(some 2), .mov (.const (.int .i64 (0))), none, [], 0, [], 0, 0, []⟩]
def c142_1 : List SOper := [⟨(some 3), .mov (.const (.int .i64 (0))), none, [], 0, [], 0, 0, []⟩]
def c142_2 : List SOper := [⟨(some 6), .mov (.tmp 0), none, [], 0, [], 0, 0, []⟩,
  ⟨(some 7), .lenS (.tmp 6), none, [], 0, [], 0, 0, []⟩,
  ⟨(some 8), .mov (.const (.int .i64 (0))), none, [], 0, [], 0, 0, []⟩]
def c142_3 : List SOper := [⟨(some 9), .bin .lss (.tmp 8) (.tmp 7), none, [], 0, [], 0, 0, []⟩]
def c142_4 : List SOper := [⟨(some 10), .idxS 1 (.tmp 6) (.tmp 8), none, [], 0, [], 0, 0, []⟩,
  ⟨(some 11), .load1 (.tmp 10), none, [], 0, [], 0, 0, []⟩,
  ⟨(some 5), .mov (.tmp 11), none, [], 0, [], 0, 0, []⟩]
def c142_5 : List SOper := [⟨(some 12), .mov (.tmp 5), none, [], 0, [], 0, 0, []⟩,
  ⟨(some 13), .mov (.tmp 3), none, [], 0, [], 0, 0, []⟩,
  ⟨(some 14), .bin .neq (.tmp 12) (.tmp 13), none, [], 0, [], 0, 0, []⟩]
def c142_6 : List SOper := [⟨(some 15), .mov (.tmp 5), none, [], 0, [], 0, 0, []⟩,
  ⟨(some 2), .mov (.tmp 15), none, [], 0, [], 0, 0, []⟩]
def c142_7 : List SOper := [⟨(some 16), .bin .add (.tmp 8) (.const (.int .i64 (1))), none, [], 0, [], 0, 0, []⟩,
  ⟨(some 8), .mov (.tmp 16), none, [], 0, [], 0, 0, []⟩]
def c142_8 : SCode := (.seq (.reg [9, 8, 7, 6, 3] c142_3) (.seq (.cond (.tmp 9) .skip (.exit 0)) (.seq (.block 1 (.seq (.reg [8, 7, 6, 5, 3] c142_4) (.seq (.reg [14, 8, 7, 6, 5, 3] c142_5) (.cond (.tmp 14) (.seq (.reg [2] c142_6) .ret) .skip)))) (.reg [8, 7, 6, 3] c142_7))))
def c142_9 : List SOper := [⟨(some 17), .mov (.tmp 3), none, [], 0, [], 0, 0, []⟩,
  ⟨(some 2), .mov (.tmp 17), none, [], 0, [], 0, 0, []⟩]
def c142_body : SCode := (.seq (.reg [0] c142_0) (.seq (.reg [3, 0] c142_1) (.seq (.seq (.reg [8, 7, 6, 3] c142_2) (.block 0 (.loop [8, 7, 6, 3] c142_8))) (.seq (.reg [2] c142_9) .ret))))
def c142 : SFunc := ⟨1, 18, c142_body, [.tmp 2]⟩

/- jacquard/num.Text -/
def c264_0 : List SOper := [⟨(some 2), .mov (.const (.string ⟨#[]⟩)), none, [], 0, [], 0, 0, []⟩]
def c264_1 : List SOper := [⟨(some 3), .mov (.tmp 0), none, [], 0, [], 0, 0, []⟩,
  ⟨(some 4), .call 86 [(.tmp 3), (.const (.int .i64 (10)))], none, [], 0, [], 0, 0, []⟩,
  ⟨(some 2), .mov (.tmp 4), none, [], 0, [], 0, 0, []⟩]
def c264_body : SCode := (.seq (.reg [0] c264_0) (.seq (.reg [2] c264_1) .ret))
def c264 : SFunc := ⟨1, 5, c264_body, [.tmp 2]⟩

/- strings.Join -/
def c87 : SFunc := ⟨1, 1, .native 2, []⟩

/- slices.Clone[[]jacquard/api.Final,jacquard/api.Final] -/
def c93_0 : List SOper := [⟨(some 2), .mov (.const (.slice none 0 0)), none, [], 0, [], 0, 0, []⟩]
def c93_1 : List SOper := [⟨(some 3), .mov (.tmp 0), none, [], 0, [], 0, 0, []⟩,
  ⟨(some 4), .isnil 1 false (.tmp 3), none, [], 0, [], 0, 0, []⟩]
def c93_2 : List SOper := [⟨(some 2), .mov (.const (.slice none 0 0)), none, [], 0, [], 0, 0, []⟩]
def c93_3 : List SOper := [⟨(some 5), .mkslice 0 [] [], none, [], 0, [], 0, 0, []⟩,
  ⟨(some 6), .mov (.tmp 0), none, [], 0, [], 0, 0, []⟩,
  ⟨(some 7), .append 20 160 (.tmp 5) (.tmp 6), none, [], 0, [], 0, 0, []⟩,
  ⟨(some 2), .mov (.tmp 7), none, [], 0, [], 0, 0, []⟩]
def c93_body : SCode := (.seq (.reg [0] c93_0) (.seq (.seq (.reg [4, 0] c93_1) (.cond (.tmp 4) (.seq (.reg [2] c93_2) .ret) .skip)) (.seq (.reg [2] c93_3) .ret)))
def c93 : SFunc := ⟨1, 8, c93_body, [.tmp 2]⟩

/- slices.SortFunc[[]jacquard/api.Final,jacquard/api.Final] -/
def c94_0 : List SOper := [⟨(some 5), .mov (.tmp 0), none, [], 0, [], 0, 0, []⟩,
  ⟨(some 6), .lenS (.tmp 5), none, [], 0, [], 0, 0, []⟩,
  ⟨(some 4), .mov (.tmp 6), none, [], 0, [], 0, 0, []⟩]
def c94_1 : List SOper := [⟨(some 7), .mov (.tmp 0), none, [], 0, [], 0, 0, []⟩,
  ⟨(some 8), .mov (.tmp 4), none, [], 0, [], 0, 0, []⟩,
  ⟨(some 9), .mov (.tmp 4), none, [], 0, [], 0, 0, []⟩,
  ⟨(some 10), .conv .u64 (.tmp 9), none, [], 0, [], 0, 0, []⟩,
  ⟨(some 11), .call 141 [(.tmp 10)], none, [], 0, [], 0, 0, []⟩,
  ⟨(some 12), .mov (.tmp 1), none, [], 0, [], 0, 0, []⟩,
  ⟨(some 13), .call 168 [(.tmp 7), (.const (.int .i64 (0))), (.tmp 8), (.tmp 11), (.tmp 12)], none, [], 0, [], 0, 0, []⟩]
def c94_body : SCode := (.seq (.reg [4, 1, 0] c94_0) (.reg [] c94_1))
def c94 : SFunc := ⟨2, 14, c94_body, []⟩

/- slices.Clip[[]jacquard/api.Final,jacquard/api.Final] -/
def c96_0 : List SOper := [⟨(some 2), .mov (.const (.slice none 0 0)), none, [], 0, [], 0, 0, []⟩]
def c96_1 : List SOper := [⟨(some 3), .mov (.tmp 0), none, [], 0, [], 0, 0, []⟩,
  ⟨(some 4), .mov (.tmp 0), none, [], 0, [], 0, 0, []⟩,
  ⟨(some 5), .lenS (.tmp 4), none, [], 0, [], 0, 0, []⟩,
  ⟨(some 6), .mov (.tmp 0), none, [], 0, [], 0, 0, []⟩,
  ⟨(some 7), .lenS (.tmp 6), none, [], 0, [], 0, 0, []⟩,
  ⟨(some 8), .slsl 20 (.tmp 3) none (some (.tmp 5)) (some (.tmp 7)), none, [], 0, [], 0, 0, []⟩,
  ⟨(some 2), .mov (.tmp 8), none, [], 0, [], 0, 0, []⟩]
def c96_body : SCode := (.seq (.reg [0] c96_0) (.seq (.reg [2] c96_1) .ret))
def c96 : SFunc := ⟨1, 9, c96_body, [.tmp 2]⟩

/- slices.Compact[[]jacquard/api.Final,jacquard/api.Final] -/
def c97_0 : List SOper := [⟨(some 2), .mov (.const (.slice none 0 0)), none, [], 0, [], 0, 0, []⟩]
def c97_1 : List SOper := [⟨(some 6), .mov (.tmp 0), none, [], 0, [], 0, 0, []⟩,
  ⟨(some 7), .lenS (.tmp 6), none, [], 0, [], 0, 0, []⟩,
  ⟨(some 8), .bin .lss (.tmp 7) (.const (.int .i64 (2))), none, [], 0, [], 0, 0, []⟩]
def c97_2 : List SOper := [⟨(some 9), .mov (.tmp 0), none, [], 0, [], 0, 0, []⟩,
  ⟨(some 2), .mov (.tmp 9), none, [], 0, [], 0, 0, []⟩]
def c97_3 : List SOper := [⟨(some 3), .mov (.const (.int .i64 (1))), none, [], 0, [], 0, 0, []⟩]
def c97_4 : List SOper := [⟨(some 10), .mov (.tmp 3), none, [], 0, [], 0, 0, []⟩,
  ⟨(some 11), .mov (.tmp 0), none, [], 0, [], 0, 0, []⟩,
  ⟨(some 12), .lenS (.tmp 11), none, [], 0, [], 0, 0, []⟩,
  ⟨(some 13), .bin .lss (.tmp 10) (.tmp 12), none, [], 0, [], 0, 0, []⟩]
def c97_5 : List SOper := [⟨(some 16), .mov (.tmp 0), none, [0], 0, [], 0, 0, []⟩,
  ⟨(some 17), .mov (.tmp 3), none, [3], 1, [], 0, 0, []⟩,
  ⟨(some 18), .idxS 20 (.tmp 16) (.tmp 17), none, [16, 17], 2, [0, 1], 0, 0, []⟩,
  ⟨(some 19), .loadN 20 (.tmp 18), none, [18], 3, [2], 0, 0, []⟩,
  ⟨(some 20), .mov (.tmp 0), none, [0], 4, [], 0, 0, []⟩,
  ⟨(some 21), .mov (.tmp 3), none, [3], 5, [], 0, 0, []⟩,
  ⟨(some 22), .bin .sub (.tmp 21) (.const (.int .i64 (1))), none, [21], 6, [5], 0, 0, []⟩,
  ⟨(some 23), .idxS 20 (.tmp 20) (.tmp 22), none, [20, 22], 7, [4, 6], 0, 0, []⟩,
  ⟨(some 24), .loadN 20 (.tmp 23), none, [23], 8, [7], 0, 0, []⟩,
  ⟨(some 25), .eqN false (zk 20) (.tmp 19) (.tmp 24), none, [19, 24], 9, [3, 8], 0, 0, []⟩]
def c97_6 : List SOper := [⟨(some 26), .mov (.tmp 0), none, [], 0, [], 0, 0, []⟩,
  ⟨(some 27), .mov (.tmp 3), none, [], 0, [], 0, 0, []⟩,
  ⟨(some 28), .slsl 20 (.tmp 26) (some (.tmp 27)) none none, none, [], 0, [], 0, 0, []⟩,
  ⟨(some 4), .mov (.tmp 28), none, [], 0, [], 0, 0, []⟩]
def c97_7 : List SOper := [⟨(some 5), .mov (.const (.int .i64 (1))), none, [], 0, [], 0, 0, []⟩]
def c97_8 : List SOper := [⟨(some 29), .mov (.tmp 5), none, [], 0, [], 0, 0, []⟩,
  ⟨(some 30), .mov (.tmp 4), none, [], 0, [], 0, 0, []⟩,
  ⟨(some 31), .lenS (.tmp 30), none, [], 0, [], 0, 0, []⟩,
  ⟨(some 32), .bin .lss (.tmp 29) (.tmp 31), none, [], 0, [], 0, 0, []⟩]
def c97_9 : List SOper := [⟨(some 35), .mov (.tmp 4), none, [4], 0, [], 0, 0, []⟩,
  ⟨(some 36), .mov (.tmp 5), none, [5], 1, [], 0, 0, []⟩,
  ⟨(some 37), .idxS 20 (.tmp 35) (.tmp 36), none, [35, 36], 2, [0, 1], 0, 0, []⟩,
  ⟨(some 38), .loadN 20 (.tmp 37), none, [37], 3, [2], 0, 0, []⟩,
  ⟨(some 39), .mov (.tmp 4), none, [4], 4, [], 0, 0, []⟩,
  ⟨(some 40), .mov (.tmp 5), none, [5], 5, [], 0, 0, []⟩,
  ⟨(some 41), .bin .sub (.tmp 40) (.const (.int .i64 (1))), none, [40], 6, [5], 0, 0, []⟩,
  ⟨(some 42), .idxS 20 (.tmp 39) (.tmp 41), none, [39, 41], 7, [4, 6], 0, 0, []⟩,
  ⟨(some 43), .loadN 20 (.tmp 42), none, [42], 8, [7], 0, 0, []⟩,
  ⟨(some 44), .eqN true (zk 20) (.tmp 38) (.tmp 43), none, [38, 43], 9, [3, 8], 0, 0, []⟩]
def c97_10 : List SOper := [⟨(some 45), .mov (.tmp 0), none, [], 0, [], 0, 0, []⟩,
  ⟨(some 46), .mov (.tmp 3), none, [], 0, [], 0, 0, []⟩,
  ⟨(some 47), .mov (.tmp 4), none, [], 0, [], 0, 0, []⟩,
  ⟨(some 48), .mov (.tmp 5), none, [], 0, [], 0, 0, []⟩,
  ⟨(some 49), .idxS 20 (.tmp 47) (.tmp 48), none, [], 0, [], 0, 0, []⟩,
  ⟨(some 50), .loadN 20 (.tmp 49), none, [], 0, [], 0, 0, []⟩,
  ⟨(some 51), .idxS 20 (.tmp 45) (.tmp 46), none, [], 0, [], 0, 0, []⟩,
  ⟨none, .storeN 20 (.tmp 51) (.tmp 50), none, [], 0, [], 0, 0, []⟩]
def c97_11 : List SOper := [⟨(some 52), .mov (.tmp 3), none, [], 0, [], 0, 0, []⟩,
  ⟨(some 53), .bin .add (.tmp 52) (.const (.int .i64 (1))), none, [], 0, [], 0, 0, []⟩,
  ⟨(some 3), .mov (.tmp 53), none, [], 0, [], 0, 0, []⟩]
def c97_12 : List SOper := [⟨(some 33), .mov (.tmp 5), none, [], 0, [], 0, 0, []⟩,
  ⟨(some 34), .bin .add (.tmp 33) (.const (.int .i64 (1))), none, [], 0, [], 0, 0, []⟩,
  ⟨(some 5), .mov (.tmp 34), none, [], 0, [], 0, 0, []⟩]
def c97_13 : SCode := (.seq (.seq (.reg [32, 5, 4, 3, 0] c97_8) (.cond (.tmp 32) .skip (.exit 2))) (.seq (.block 3 (.seq (.qreg [44, 5, 4, 3, 0] c97_9) (.cond (.tmp 44) (.seq (.reg [5, 4, 3, 0] c97_10) (.reg [5, 4, 3, 0] c97_11)) .skip))) (.reg [5, 4, 3, 0] c97_12)))
def c97_14 : List SOper := [⟨(some 54), .mov (.tmp 0), none, [], 0, [], 0, 0, []⟩,
  ⟨(some 55), .mov (.tmp 3), none, [], 0, [], 0, 0, []⟩,
  ⟨(some 56), .slsl 20 (.tmp 54) (some (.tmp 55)) none none, none, [], 0, [], 0, 0, []⟩,
  ⟨none, .clear (zi 20) (.tmp 56), none, [], 0, [], 0, 0, []⟩]
def c97_15 : List SOper := [⟨(some 57), .mov (.tmp 0), none, [], 0, [], 0, 0, []⟩,
  ⟨(some 58), .mov (.tmp 3), none, [], 0, [], 0, 0, []⟩,
  ⟨(some 59), .slsl 20 (.tmp 57) none (some (.tmp 58)) none, none, [], 0, [], 0, 0, []⟩,
  ⟨(some 2), .mov (.tmp 59), none, [], 0, [], 0, 0, []⟩]
def c97_16 : List SOper := [⟨(some 14), .mov (.tmp 3), none, [], 0, [], 0, 0, []⟩,
  ⟨(some 15), .bin .add (.tmp 14) (.const (.int .i64 (1))), none, [], 0, [], 0, 0, []⟩,
  ⟨(some 3), .mov (.tmp 15), none, [], 0, [], 0, 0, []⟩]
def c97_17 : SCode := (.seq (.seq (.reg [13, 3, 0] c97_4) (.cond (.tmp 13) .skip (.exit 0))) (.seq (.block 1 (.seq (.qreg [25, 3, 0] c97_5) (.cond (.tmp 25) (.seq (.reg [4, 3, 0] c97_6) (.seq (.seq (.reg [5, 4, 3, 0] c97_7) (.block 2 (.loop [5, 4, 3, 0] c97_13))) (.seq (.reg [3, 0] c97_14) (.seq (.reg [2] c97_15) .ret)))) .skip))) (.reg [3, 0] c97_16)))
def c97_18 : List SOper := [⟨(some 60), .mov (.tmp 0), none, [], 0, [], 0, 0, []⟩,
  ⟨(some 2), .mov (.tmp 60), none, [], 0, [], 0, 0, []⟩]
def c97_body : SCode := (.seq (.reg [0] c97_0) (.seq (.seq (.reg [8, 0] c97_1) (.cond (.tmp 8) (.seq (.reg [2] c97_2) .ret) .skip)) (.seq (.seq (.reg [3, 0] c97_3) (.block 0 (.loop [3, 0] c97_17))) (.seq (.reg [2] c97_18) .ret))))
def c97 : SFunc := ⟨1, 61, c97_body, [.tmp 2]⟩

/- slices.Contains[[]jacquard/api.Final,jacquard/api.Final] -/
def c265_0 : List SOper := [⟨(some 3), .box (.tmp 1), none, [], 0, [], 0, 0, []⟩,
  ⟨(some 4), .mov (.const (.bool false)), none, [], 0, [], 0, 0, []⟩]
def c265_1 : List SOper := [⟨(some 5), .mov (.tmp 0), none, [], 0, [], 0, 0, []⟩,
  ⟨(some 6), .loadN 20 (.tmp 3), none, [], 0, [], 0, 0, []⟩,
  ⟨(some 7), .call 266 [(.tmp 5), (.tmp 6)], none, [], 0, [], 0, 0, []⟩,
  ⟨(some 8), .bin .geq (.tmp 7) (.const (.int .i64 (0))), none, [], 0, [], 0, 0, []⟩,
  ⟨(some 4), .mov (.tmp 8), none, [], 0, [], 0, 0, []⟩]
def c265_body : SCode := (.seq (.reg [3, 0] c265_0) (.seq (.reg [4] c265_1) .ret))
def c265 : SFunc := ⟨2, 9, c265_body, [.tmp 4]⟩

/- cmp.Compare[int64] -/
def c198_0 : List SOper := [⟨(some 4), .mov (.const (.int .i64 (0))), none, [], 0, [], 0, 0, []⟩]
def c198_1 : List SOper := [⟨(some 7), .mov (.tmp 0), none, [], 0, [], 0, 0, []⟩,
  ⟨(some 8), .call 230 [(.tmp 7)], none, [], 0, [], 0, 0, []⟩,
  ⟨(some 5), .mov (.tmp 8), none, [], 0, [], 0, 0, []⟩]
def c198_2 : List SOper := [⟨(some 9), .mov (.tmp 1), none, [], 0, [], 0, 0, []⟩,
  ⟨(some 10), .call 230 [(.tmp 9)], none, [], 0, [], 0, 0, []⟩,
  ⟨(some 6), .mov (.tmp 10), none, [], 0, [], 0, 0, []⟩]
def c198_3 : List SOper := [⟨(some 11), .mov (.tmp 5), none, [], 0, [], 0, 0, []⟩]
def c198_4 : List SOper := [⟨(some 12), .mov (.tmp 6), none, [], 0, [], 0, 0, []⟩]
def c198_5 : List SOper := [⟨(some 4), .mov (.const (.int .i64 (0))), none, [], 0, [], 0, 0, []⟩]
def c198_6 : List SOper := [⟨(some 4), .mov (.const (.int .i64 (-1))), none, [], 0, [], 0, 0, []⟩]
def c198_7 : List SOper := [⟨(some 13), .mov (.tmp 6), none, [], 0, [], 0, 0, []⟩]
def c198_8 : List SOper := [⟨(some 4), .mov (.const (.int .i64 (1))), none, [], 0, [], 0, 0, []⟩]
def c198_9 : List SOper := [⟨(some 14), .mov (.tmp 0), none, [], 0, [], 0, 0, []⟩,
  ⟨(some 15), .mov (.tmp 1), none, [], 0, [], 0, 0, []⟩,
  ⟨(some 16), .bin .lss (.tmp 14) (.tmp 15), none, [], 0, [], 0, 0, []⟩]
def c198_10 : List SOper := [⟨(some 4), .mov (.const (.int .i64 (-1))), none, [], 0, [], 0, 0, []⟩]
def c198_11 : List SOper := [⟨(some 17), .mov (.tmp 0), none, [], 0, [], 0, 0, []⟩,
  ⟨(some 18), .mov (.tmp 1), none, [], 0, [], 0, 0, []⟩,
  ⟨(some 19), .bin .gtr (.tmp 17) (.tmp 18), none, [], 0, [], 0, 0, []⟩]
def c198_12 : List SOper := [⟨(some 4), .mov (.const (.int .i64 (1))), none, [], 0, [], 0, 0, []⟩]
def c198_13 : List SOper := [⟨(some 4), .mov (.const (.int .i64 (0))), none, [], 0, [], 0, 0, []⟩]
def c198_body : SCode := (.seq (.reg [1, 0] c198_0) (.seq (.reg [5, 1, 0] c198_1) (.seq (.reg [6, 5, 1, 0] c198_2) (.seq (.seq (.reg [11, 6, 1, 0] c198_3) (.cond (.tmp 11) (.seq (.seq (.reg [12] c198_4) (.cond (.tmp 12) (.seq (.reg [4] c198_5) .ret) .skip)) (.seq (.reg [4] c198_6) .ret)) .skip)) (.seq (.seq (.reg [13, 1, 0] c198_7) (.cond (.tmp 13) (.seq (.reg [4] c198_8) .ret) .skip)) (.seq (.seq (.reg [16, 1, 0] c198_9) (.cond (.tmp 16) (.seq (.reg [4] c198_10) .ret) .skip)) (.seq (.seq (.reg [19] c198_11) (.cond (.tmp 19) (.seq (.reg [4] c198_12) .ret) .skip)) (.seq (.reg [4] c198_13) .ret))))))))
def c198 : SFunc := ⟨2, 20, c198_body, [.tmp 4]⟩

/- strconv.FormatInt -/
def c86_0 : List SOper := [⟨(some 4), .mov (.const (.string ⟨#[]⟩)), none, [], 0, [], 0, 0, []⟩]
def c86_1 : List SOper := [⟨(some 5), .mov (.tmp 0), none, [], 0, [], 0, 0, []⟩,
  ⟨(some 6), .mov (.tmp 1), none, [], 0, [], 0, 0, []⟩,
  ⟨(some 7), .call 154 [(.tmp 5), (.tmp 6)], none, [], 0, [], 0, 0, []⟩,
  ⟨(some 4), .mov (.tmp 7), none, [], 0, [], 0, 0, []⟩]
def c86_body : SCode := (.seq (.reg [1, 0] c86_0) (.seq (.reg [4] c86_1) .ret))
def c86 : SFunc := ⟨2, 8, c86_body, [.tmp 4]⟩

/- slices.pdqsortCmpFunc[jacquard/api.Final] -/
def c168_0 : List SOper := [⟨(some 10), .mov (.const (.bool true)), none, [], 0, [], 0, 0, []⟩]
def c168_1 : List SOper := [⟨(some 11), .mov (.const (.bool true)), none, [], 0, [], 0, 0, []⟩]
def c168_2 : List SOper := [⟨(some 21), .mov (.tmp 2), none, [], 0, [], 0, 0, []⟩,
  ⟨(some 22), .mov (.tmp 1), none, [], 0, [], 0, 0, []⟩,
  ⟨(some 23), .bin .sub (.tmp 21) (.tmp 22), none, [], 0, [], 0, 0, []⟩,
  ⟨(some 12), .mov (.tmp 23), none, [], 0, [], 0, 0, []⟩]
def c168_3 : List SOper := [⟨(some 24), .mov (.tmp 12), none, [], 0, [], 0, 0, []⟩,
  ⟨(some 25), .bin .leq (.tmp 24) (.const (.int .i64 (12))), none, [], 0, [], 0, 0, []⟩]
def c168_4 : List SOper := [⟨(some 26), .mov (.tmp 0), none, [], 0, [], 0, 0, []⟩,
  ⟨(some 27), .mov (.tmp 1), none, [], 0, [], 0, 0, []⟩,
  ⟨(some 28), .mov (.tmp 2), none, [], 0, [], 0, 0, []⟩,
  ⟨(some 29), .mov (.tmp 4), none, [], 0, [], 0, 0, []⟩,
  ⟨(some 30), .call 214 [(.tmp 26), (.tmp 27), (.tmp 28), (.tmp 29)], none, [], 0, [], 0, 0, []⟩]
def c168_5 : List SOper := [⟨(some 31), .mov (.tmp 3), none, [], 0, [], 0, 0, []⟩,
  ⟨(some 32), .bin .eql (.tmp 31) (.const (.int .i64 (0))), none, [], 0, [], 0, 0, []⟩]
def c168_6 : List SOper := [⟨(some 33), .mov (.tmp 0), none, [], 0, [], 0, 0, []⟩,
  ⟨(some 34), .mov (.tmp 1), none, [], 0, [], 0, 0, []⟩,
  ⟨(some 35), .mov (.tmp 2), none, [], 0, [], 0, 0, []⟩,
  ⟨(some 36), .mov (.tmp 4), none, [], 0, [], 0, 0, []⟩,
  ⟨(some 37), .bad, none, [], 0, [], 0, 0, []⟩]
def c168_7 : List SOper := [⟨(some 38), .mov (.tmp 10), none, [], 0, [], 0, 0, []⟩,
  ⟨(some 39), .un .not (.tmp 38), none, [], 0, [], 0, 0, []⟩]
def c168_8 : List SOper := [⟨(some 40), .mov (.tmp 0), none, [], 0, [], 0, 0, []⟩,
  ⟨(some 41), .mov (.tmp 1), none, [], 0, [], 0, 0, []⟩,
  ⟨(some 42), .mov (.tmp 2), none, [], 0, [], 0, 0, []⟩,
  ⟨(some 43), .mov (.tmp 4), none, [], 0, [], 0, 0, []⟩,
  ⟨(some 44), .bad, none, [], 0, [], 0, 0, []⟩]
def c168_9 : List SOper := [⟨(some 45), .mov (.tmp 3), none, [], 0, [], 0, 0, []⟩,
  ⟨(some 46), .bin .sub (.tmp 45) (.const (.int .i64 (1))), none, [], 0, [], 0, 0, []⟩,
  ⟨(some 3), .mov (.tmp 46), none, [], 0, [], 0, 0, []⟩]
def c168_10 : List SOper := [⟨(some 48), .mov (.tmp 0), none, [], 0, [], 0, 0, []⟩,
  ⟨(some 49), .mov (.tmp 1), none, [], 0, [], 0, 0, []⟩,
  ⟨(some 50), .mov (.tmp 2), none, [], 0, [], 0, 0, []⟩,
  ⟨(some 51), .mov (.tmp 4), none, [], 0, [], 0, 0, []⟩,
  ⟨(some 52), .bad, none, [], 0, [], 0, 0, []⟩,
  ⟨(some 47), .mov (.tmp 52), none, [], 0, [], 0, 0, []⟩,
  ⟨(some 53), .extr (.tmp 47) 0, none, [], 0, [], 0, 0, []⟩,
  ⟨(some 54), .extr (.tmp 47) 1, none, [], 0, [], 0, 0, []⟩,
  ⟨(some 13), .mov (.tmp 53), none, [], 0, [], 0, 0, []⟩,
  ⟨(some 14), .mov (.tmp 54), none, [], 0, [], 0, 0, []⟩]
def c168_11 : List SOper := [⟨(some 55), .mov (.tmp 14), none, [], 0, [], 0, 0, []⟩,
  ⟨(some 56), .bin .eql (.tmp 55) (.const (.int .i64 (2))), none, [], 0, [], 0, 0, []⟩]
def c168_12 : List SOper := [⟨(some 57), .mov (.tmp 0), none, [], 0, [], 0, 0, []⟩,
  ⟨(some 58), .mov (.tmp 1), none, [], 0, [], 0, 0, []⟩,
  ⟨(some 59), .mov (.tmp 2), none, [], 0, [], 0, 0, []⟩,
  ⟨(some 60), .mov (.tmp 4), none, [], 0, [], 0, 0, []⟩,
  ⟨(some 61), .bad, none, [], 0, [], 0, 0, []⟩]
def c168_13 : List SOper := [⟨(some 62), .mov (.tmp 2), none, [], 0, [], 0, 0, []⟩,
  ⟨(some 63), .bin .sub (.tmp 62) (.const (.int .i64 (1))), none, [], 0, [], 0, 0, []⟩,
  ⟨(some 64), .mov (.tmp 13), none, [], 0, [], 0, 0, []⟩,
  ⟨(some 65), .mov (.tmp 1), none, [], 0, [], 0, 0, []⟩,
  ⟨(some 66), .bin .sub (.tmp 64) (.tmp 65), none, [], 0, [], 0, 0, []⟩,
  ⟨(some 67), .bin .sub (.tmp 63) (.tmp 66), none, [], 0, [], 0, 0, []⟩,
  ⟨(some 13), .mov (.tmp 67), none, [], 0, [], 0, 0, []⟩]
def c168_14 : List SOper := [⟨(some 14), .mov (.const (.int .i64 (1))), none, [], 0, [], 0, 0, []⟩]
def c168_15 : List SOper := [⟨(some 68), .mov (.tmp 10), none, [], 0, [], 0, 0, []⟩,
  ⟨(some 69), .mov (.tmp 68), none, [], 0, [], 0, 0, []⟩,
  ⟨(some 70), .mov (.tmp 11), (some (69, true)), [], 0, [], 0, 0, []⟩,
  ⟨(some 71), .pick (.tmp 69) (.tmp 70) (.const (.bool false)), none, [], 0, [], 0, 0, []⟩,
  ⟨(some 72), .mov (.tmp 71), none, [], 0, [], 0, 0, []⟩,
  ⟨(some 73), .mov (.tmp 14), (some (72, true)), [], 0, [], 0, 0, []⟩,
  ⟨(some 74), .bin .eql (.tmp 73) (.const (.int .i64 (1))), (some (72, true)), [], 0, [], 0, 0, []⟩,
  ⟨(some 75), .pick (.tmp 72) (.tmp 74) (.const (.bool false)), none, [], 0, [], 0, 0, []⟩]
def c168_16 : List SOper := [⟨(some 76), .mov (.tmp 0), none, [], 0, [], 0, 0, []⟩,
  ⟨(some 77), .mov (.tmp 1), none, [], 0, [], 0, 0, []⟩,
  ⟨(some 78), .mov (.tmp 2), none, [], 0, [], 0, 0, []⟩,
  ⟨(some 79), .mov (.tmp 4), none, [], 0, [], 0, 0, []⟩,
  ⟨(some 80), .bad, none, [], 0, [], 0, 0, []⟩]
def c168_17 : List SOper := [⟨(some 81), .mov (.tmp 1), none, [1], 0, [], 0, 0, []⟩,
  ⟨(some 82), .bin .gtr (.tmp 81) (.const (.int .i64 (0))), none, [81], 1, [0], 0, 0, []⟩,
  ⟨(some 83), .mov (.tmp 82), none, [82], 2, [1], 0, 0, []⟩,
  ⟨(some 84), .mov (.tmp 4), (some (83, true)), [4, 83], 3, [2], 0, 0, []⟩,
  ⟨(some 85), .mov (.tmp 0), (some (83, true)), [0, 83], 4, [2], 0, 0, []⟩,
  ⟨(some 86), .mov (.tmp 1), (some (83, true)), [1, 83], 5, [2], 0, 0, []⟩,
  ⟨(some 87), .bin .sub (.tmp 86) (.const (.int .i64 (1))), (some (83, true)), [86, 83], 6, [5, 2], 0, 0, []⟩,
  ⟨(some 88), .idxS 20 (.tmp 85) (.tmp 87), (some (83, true)), [85, 87, 83], 7, [4, 6, 2], 0, 0, []⟩,
  ⟨(some 89), .loadN 20 (.tmp 88), (some (83, true)), [88, 83], 8, [7, 2], 0, 0, []⟩,
  ⟨(some 90), .mov (.tmp 0), (some (83, true)), [0, 83], 9, [2], 0, 0, []⟩,
  ⟨(some 91), .mov (.tmp 13), (some (83, true)), [13, 83], 10, [2], 0, 0, []⟩,
  ⟨(some 92), .idxS 20 (.tmp 90) (.tmp 91), (some (83, true)), [90, 91, 83], 11, [9, 10, 2], 0, 0, []⟩,
  ⟨(some 93), .loadN 20 (.tmp 92), (some (83, true)), [92, 83], 12, [11, 2], 0, 0, []⟩,
  ⟨(some 94), .callv (.tmp 84) [(.tmp 89), (.tmp 93)], (some (83, true)), [84, 89, 93, 83], 13, [3, 8, 12, 2, 2], 0, 0, []⟩,
  ⟨(some 95), .bin .lss (.tmp 94) (.const (.int .i64 (0))), (some (83, true)), [94, 83], 14, [13, 2], 0, 0, []⟩,
  ⟨(some 96), .un .not (.tmp 95), (some (83, true)), [95, 83], 15, [14, 2], 0, 0, []⟩,
  ⟨(some 97), .pick (.tmp 83) (.tmp 96) (.const (.bool false)), none, [83, 96], 16, [2, 15], 0, 0, []⟩]
def c168_17b : List SOper := []
def c168_18 : List SOper := [⟨(some 98), .mov (.tmp 0), none, [], 0, [], 0, 0, []⟩,
  ⟨(some 99), .mov (.tmp 1), none, [], 0, [], 0, 0, []⟩,
  ⟨(some 100), .mov (.tmp 2), none, [], 0, [], 0, 0, []⟩,
  ⟨(some 101), .mov (.tmp 13), none, [], 0, [], 0, 0, []⟩,
  ⟨(some 102), .mov (.tmp 4), none, [], 0, [], 0, 0, []⟩,
  ⟨(some 103), .bad, none, [], 0, [], 0, 0, []⟩,
  ⟨(some 15), .mov (.tmp 103), none, [], 0, [], 0, 0, []⟩]
def c168_19 : List SOper := [⟨(some 104), .mov (.tmp 15), none, [], 0, [], 0, 0, []⟩,
  ⟨(some 1), .mov (.tmp 104), none, [], 0, [], 0, 0, []⟩]
def c168_20 : List SOper := [⟨(some 106), .mov (.tmp 0), none, [], 0, [], 0, 0, []⟩,
  ⟨(some 107), .mov (.tmp 1), none, [], 0, [], 0, 0, []⟩,
  ⟨(some 108), .mov (.tmp 2), none, [], 0, [], 0, 0, []⟩,
  ⟨(some 109), .mov (.tmp 13), none, [], 0, [], 0, 0, []⟩,
  ⟨(some 110), .mov (.tmp 4), none, [], 0, [], 0, 0, []⟩,
  ⟨(some 111), .bad, none, [], 0, [], 0, 0, []⟩,
  ⟨(some 105), .mov (.tmp 111), none, [], 0, [], 0, 0, []⟩,
  ⟨(some 112), .extr (.tmp 105) 0, none, [], 0, [], 0, 0, []⟩,
  ⟨(some 113), .extr (.tmp 105) 1, none, [], 0, [], 0, 0, []⟩,
  ⟨(some 16), .mov (.tmp 112), none, [], 0, [], 0, 0, []⟩,
  ⟨(some 17), .mov (.tmp 113), none, [], 0, [], 0, 0, []⟩]
def c168_21 : List SOper := [⟨(some 114), .mov (.tmp 17), none, [], 0, [], 0, 0, []⟩,
  ⟨(some 11), .mov (.tmp 114), none, [], 0, [], 0, 0, []⟩]
def c168_22 : List SOper := [⟨(some 115), .mov (.tmp 16), none, [], 0, [], 0, 0, []⟩,
  ⟨(some 116), .mov (.tmp 1), none, [], 0, [], 0, 0, []⟩,
  ⟨(some 117), .bin .sub (.tmp 115) (.tmp 116), none, [], 0, [], 0, 0, []⟩,
  ⟨(some 118), .mov (.tmp 2), none, [], 0, [], 0, 0, []⟩,
  ⟨(some 119), .mov (.tmp 16), none, [], 0, [], 0, 0, []⟩,
  ⟨(some 120), .bin .sub (.tmp 118) (.tmp 119), none, [], 0, [], 0, 0, []⟩,
  ⟨(some 18), .mov (.tmp 117), none, [], 0, [], 0, 0, []⟩,
  ⟨(some 19), .mov (.tmp 120), none, [], 0, [], 0, 0, []⟩]
def c168_23 : List SOper := [⟨(some 121), .mov (.tmp 12), none, [], 0, [], 0, 0, []⟩,
  ⟨(some 122), .bin .quo (.tmp 121) (.const (.int .i64 (8))), none, [], 0, [], 0, 0, []⟩,
  ⟨(some 20), .mov (.tmp 122), none, [], 0, [], 0, 0, []⟩]
def c168_24 : List SOper := [⟨(some 123), .mov (.tmp 18), none, [], 0, [], 0, 0, []⟩,
  ⟨(some 124), .mov (.tmp 19), none, [], 0, [], 0, 0, []⟩,
  ⟨(some 125), .bin .lss (.tmp 123) (.tmp 124), none, [], 0, [], 0, 0, []⟩]
def c168_25 : List SOper := [⟨(some 126), .mov (.tmp 18), none, [], 0, [], 0, 0, []⟩,
  ⟨(some 127), .mov (.tmp 20), none, [], 0, [], 0, 0, []⟩,
  ⟨(some 128), .bin .geq (.tmp 126) (.tmp 127), none, [], 0, [], 0, 0, []⟩,
  ⟨(some 10), .mov (.tmp 128), none, [], 0, [], 0, 0, []⟩]
def c168_26 : List SOper := [⟨(some 129), .mov (.tmp 0), none, [], 0, [], 0, 0, []⟩,
  ⟨(some 130), .mov (.tmp 1), none, [], 0, [], 0, 0, []⟩,
  ⟨(some 131), .mov (.tmp 16), none, [], 0, [], 0, 0, []⟩,
  ⟨(some 132), .mov (.tmp 3), none, [], 0, [], 0, 0, []⟩,
  ⟨(some 133), .mov (.tmp 4), none, [], 0, [], 0, 0, []⟩,
  ⟨(some 134), .call 168 [(.tmp 129), (.tmp 130), (.tmp 131), (.tmp 132), (.tmp 133)], none, [], 0, [], 0, 0, []⟩]
def c168_27 : List SOper := [⟨(some 135), .mov (.tmp 16), none, [], 0, [], 0, 0, []⟩,
  ⟨(some 136), .bin .add (.tmp 135) (.const (.int .i64 (1))), none, [], 0, [], 0, 0, []⟩,
  ⟨(some 1), .mov (.tmp 136), none, [], 0, [], 0, 0, []⟩]
def c168_28 : List SOper := [⟨(some 137), .mov (.tmp 19), none, [], 0, [], 0, 0, []⟩,
  ⟨(some 138), .mov (.tmp 20), none, [], 0, [], 0, 0, []⟩,
  ⟨(some 139), .bin .geq (.tmp 137) (.tmp 138), none, [], 0, [], 0, 0, []⟩,
  ⟨(some 10), .mov (.tmp 139), none, [], 0, [], 0, 0, []⟩]
def c168_29 : List SOper := [⟨(some 140), .mov (.tmp 0), none, [], 0, [], 0, 0, []⟩,
  ⟨(some 141), .mov (.tmp 16), none, [], 0, [], 0, 0, []⟩,
  ⟨(some 142), .bin .add (.tmp 141) (.const (.int .i64 (1))), none, [], 0, [], 0, 0, []⟩,
  ⟨(some 143), .mov (.tmp 2), none, [], 0, [], 0, 0, []⟩,
  ⟨(some 144), .mov (.tmp 3), none, [], 0, [], 0, 0, []⟩,
  ⟨(some 145), .mov (.tmp 4), none, [], 0, [], 0, 0, []⟩,
  ⟨(some 146), .call 168 [(.tmp 140), (.tmp 142), (.tmp 143), (.tmp 144), (.tmp 145)], none, [], 0, [], 0, 0, []⟩]
def c168_30 : List SOper := [⟨(some 147), .mov (.tmp 16), none, [], 0, [], 0, 0, []⟩,
  ⟨(some 2), .mov (.tmp 147), none, [], 0, [], 0, 0, []⟩]
def c168_31 : SCode := (.block 1 (.seq (.reg [12, 11, 10, 4, 3, 2, 1, 0] c168_2) (.seq (.seq (.reg [25, 12, 11, 10, 4, 3, 2, 1, 0] c168_3) (.cond (.tmp 25) (.seq (.reg [] c168_4) .ret) .skip)) (.seq (.seq (.reg [32, 12, 11, 10, 4, 3, 2, 1, 0] c168_5) (.cond (.tmp 32) (.seq (.reg [] c168_6) .ret) .skip)) (.seq (.seq (.reg [39, 12, 11, 10, 4, 3, 2, 1, 0] c168_7) (.cond (.tmp 39) (.seq (.reg [12, 11, 10, 4, 3, 2, 1, 0] c168_8) (.reg [12, 11, 10, 4, 3, 2, 1, 0] c168_9)) .skip)) (.seq (.reg [14, 13, 12, 11, 10, 4, 3, 2, 1, 0] c168_10) (.seq (.seq (.reg [56, 14, 13, 12, 11, 10, 4, 3, 2, 1, 0] c168_11) (.cond (.tmp 56) (.seq (.reg [13, 12, 11, 10, 4, 3, 2, 1, 0] c168_12) (.seq (.reg [13, 12, 11, 10, 4, 3, 2, 1, 0] c168_13) (.reg [14, 13, 12, 11, 10, 4, 3, 2, 1, 0] c168_14))) .skip)) (.seq (.seq (.reg [75, 13, 12, 11, 10, 4, 3, 2, 1, 0] c168_15) (.cond (.tmp 75) (.seq (.reg [80, 13, 12, 11, 10, 4, 3, 2, 1, 0] c168_16) (.cond (.tmp 80) .ret .skip)) .skip)) (.seq (.seq (.dreg [97, 13, 12, 11, 10, 4, 3, 2, 1, 0] c168_17 c168_17b) (.cond (.tmp 97) (.seq (.reg [15, 11, 10, 4, 3, 2, 0] c168_18) (.seq (.reg [11, 10, 4, 3, 2, 1, 0] c168_19) (.exit 1))) .skip)) (.seq (.reg [17, 16, 12, 4, 3, 2, 1, 0] c168_20) (.seq (.reg [16, 12, 11, 4, 3, 2, 1, 0] c168_21) (.seq (.reg [19, 18, 16, 12, 11, 4, 3, 2, 1, 0] c168_22) (.seq (.reg [20, 19, 18, 16, 11, 4, 3, 2, 1, 0] c168_23) (.seq (.reg [125, 20, 19, 18, 16, 11, 4, 3, 2, 1, 0] c168_24) (.cond (.tmp 125) (.seq (.reg [16, 11, 10, 4, 3, 2, 1, 0] c168_25) (.seq (.reg [16, 11, 10, 4, 3, 2, 0] c168_26) (.reg [11, 10, 4, 3, 2, 1, 0] c168_27))) (.seq (.reg [16, 11, 10, 4, 3, 2, 1, 0] c168_28) (.seq (.reg [16, 11, 10, 4, 3, 1, 0] c168_29) (.reg [11, 10, 4, 3, 2, 1, 0] c168_30))))))))))))))))))
def c168_body : SCode := (.seq (.reg [10, 4, 3, 2, 1, 0] c168_0) (.seq (.reg [11, 10, 4, 3, 2, 1, 0] c168_1) (.block 0 (.loop [11, 10, 4, 3, 2, 1, 0] c168_31))))
def c168 : SFunc := ⟨5, 148, c168_body, []⟩

/- math/bits.Len -/
def c141_0 : List SOper := [⟨(some 2), .mov (.const (.int .i64 (0))), none, [], 0, [], 0, 0, []⟩]
def c141_1 : List SOper := [⟨(some 3), .mov (.tmp 0), none, [], 0, [], 0, 0, []⟩,
  ⟨(some 4), .conv .u32 (.tmp 3), none, [], 0, [], 0, 0, []⟩,
  ⟨(some 5), .call 195 [(.tmp 4)], none, [], 0, [], 0, 0, []⟩,
  ⟨(some 2), .mov (.tmp 5), none, [], 0, [], 0, 0, []⟩]
def c141_2 : List SOper := [⟨(some 6), .mov (.tmp 0), none, [], 0, [], 0, 0, []⟩,
  ⟨(some 7), .call 196 [(.tmp 6)], none, [], 0, [], 0, 0, []⟩,
  ⟨(some 2), .mov (.tmp 7), none, [], 0, [], 0, 0, []⟩]
def c141_body : SCode := (.seq (.reg [0] c141_0) (.seq (.cond (.const (.bool false)) (.seq (.reg [2] c141_1) .ret) .skip) (.seq (.reg [2] c141_2) .ret)))
def c141 : SFunc := ⟨1, 8, c141_body, [.tmp 2]⟩

/- slices.Index[[]jacquard/api.Final,jacquard/api.Final] -/
def c266_0 : List SOper := [⟨(some 3), .box (.tmp 1), none, [], 0, [], 0, 0, []⟩,
  ⟨(some 4), .mov (.const (.int .i64 (0))), none, [], 0, [], 0, 0, []⟩]
def c266_1 : List SOper := [⟨(some 6), .mov (.tmp 0), none, [], 0, [], 0, 0, []⟩,
  ⟨(some 7), .lenS (.tmp 6), none, [], 0, [], 0, 0, []⟩,
  ⟨(some 8), .mov (.const (.int .i64 (0))), none, [], 0, [], 0, 0, []⟩]
def c266_2 : List SOper := [⟨(some 9), .bin .lss (.tmp 8) (.tmp 7), none, [], 0, [], 0, 0, []⟩]
def c266_3 : List SOper := [⟨(some 10), .mov (.tmp 8), none, [], 0, [], 0, 0, []⟩,
  ⟨(some 5), .mov (.tmp 10), none, [], 0, [], 0, 0, []⟩]
def c266_4 : List SOper := [⟨(some 11), .loadN 20 (.tmp 3), none, [3], 0, [], 0, 0, []⟩,
  ⟨(some 12), .mov (.tmp 0), none, [0], 1, [], 0, 0, []⟩,
  ⟨(some 13), .mov (.tmp 5), none, [5], 2, [], 0, 0, []⟩,
  ⟨(some 14), .idxS 20 (.tmp 12) (.tmp 13), none, [12, 13], 3, [1, 2], 0, 0, []⟩,
  ⟨(some 15), .loadN 20 (.tmp 14), none, [14], 4, [3], 0, 0, []⟩,
  ⟨(some 16), .eqN false (zk 20) (.tmp 11) (.tmp 15), none, [11, 15], 5, [0, 4], 0, 0, []⟩]
def c266_5 : List SOper := [⟨(some 17), .mov (.tmp 5), none, [], 0, [], 0, 0, []⟩,
  ⟨(some 4), .mov (.tmp 17), none, [], 0, [], 0, 0, []⟩]
def c266_6 : List SOper := [⟨(some 18), .bin .add (.tmp 8) (.const (.int .i64 (1))), none, [], 0, [], 0, 0, []⟩,
  ⟨(some 8), .mov (.tmp 18), none, [], 0, [], 0, 0, []⟩]
def c266_7 : SCode := (.seq (.reg [9, 8, 7, 3, 0] c266_2) (.seq (.cond (.tmp 9) .skip (.exit 0)) (.seq (.block 1 (.seq (.reg [8, 7, 5, 3, 0] c266_3) (.seq (.qreg [16, 8, 7, 5, 3, 0] c266_4) (.cond (.tmp 16) (.seq (.reg [4] c266_5) .ret) .skip)))) (.reg [8, 7, 3, 0] c266_6))))
def c266_8 : List SOper := [⟨(some 4), .mov (.const (.int .i64 (-1))), none, [], 0, [], 0, 0, []⟩]
def c266_body : SCode := (.seq (.reg [3, 0] c266_0) (.seq (.seq (.reg [8, 7, 3, 0] c266_1) (.block 0 (.loop [8, 7, 3, 0] c266_7))) (.seq (.reg [4] c266_8) .ret)))
def c266 : SFunc := ⟨2, 19, c266_body, [.tmp 4]⟩

/- cmp.isNaN[int64] -/
def c230_0 : List SOper := [⟨(some 2), .mov (.const (.bool false)), none, [], 0, [], 0, 0, []⟩]
def c230_1 : List SOper := [⟨(some 3), .mov (.tmp 0), none, [], 0, [], 0, 0, []⟩,
  ⟨(some 4), .mov (.tmp 0), none, [], 0, [], 0, 0, []⟩,
  ⟨(some 5), .bin .neq (.tmp 3) (.tmp 4), none, [], 0, [], 0, 0, []⟩,
  ⟨(some 2), .mov (.tmp 5), none, [], 0, [], 0, 0, []⟩]
def c230_body : SCode := (.seq (.reg [0] c230_0) (.seq (.reg [2] c230_1) .ret))
def c230 : SFunc := ⟨1, 6, c230_body, [.tmp 2]⟩

/- internal/strconv.FormatInt -/
def c154_0 : List SOper := [⟨(some 4), .mov (.const (.string ⟨#[]⟩)), none, [], 0, [], 0, 0, []⟩]
def c154_1 : List SOper := [⟨(some 10), .mov (.tmp 1), none, [], 0, [], 0, 0, []⟩,
  ⟨(some 11), .bin .eql (.tmp 10) (.const (.int .i64 (10))), none, [], 0, [], 0, 0, []⟩]
def c154_2 : List SOper := [⟨(some 12), .mov (.tmp 0), none, [], 0, [], 0, 0, []⟩,
  ⟨(some 13), .bin .leq (.const (.int .i64 (0))) (.tmp 12), none, [], 0, [], 0, 0, []⟩,
  ⟨(some 14), .mov (.tmp 13), none, [], 0, [], 0, 0, []⟩,
  ⟨(some 15), .mov (.tmp 0), (some (14, true)), [], 0, [], 0, 0, []⟩,
  ⟨(some 16), .bin .lss (.tmp 15) (.const (.int .i64 (100))), (some (14, true)), [], 0, [], 0, 0, []⟩,
  ⟨(some 17), .pick (.tmp 14) (.tmp 16) (.const (.bool false)), none, [], 0, [], 0, 0, []⟩]
def c154_3 : List SOper := [⟨(some 18), .mov (.tmp 0), none, [], 0, [], 0, 0, []⟩,
  ⟨(some 19), .call 202 [(.tmp 18)], none, [], 0, [], 0, 0, []⟩,
  ⟨(some 4), .mov (.tmp 19), none, [], 0, [], 0, 0, []⟩]
def c154_4 : List SOper := [⟨(some 5), .alloc (List.replicate 24 [(.int .u8 (0))]).flatten, none, [], 0, [], 0, 0, []⟩]
def c154_5 : List SOper := [⟨(some 20), .mov (.tmp 0), none, [], 0, [], 0, 0, []⟩,
  ⟨(some 21), .conv .u64 (.tmp 20), none, [], 0, [], 0, 0, []⟩,
  ⟨(some 6), .mov (.tmp 21), none, [], 0, [], 0, 0, []⟩]
def c154_6 : List SOper := [⟨(some 22), .mov (.tmp 0), none, [], 0, [], 0, 0, []⟩,
  ⟨(some 23), .bin .lss (.tmp 22) (.const (.int .i64 (0))), none, [], 0, [], 0, 0, []⟩]
def c154_7 : List SOper := [⟨(some 24), .mov (.tmp 6), none, [], 0, [], 0, 0, []⟩,
  ⟨(some 25), .un .neg (.tmp 24), none, [], 0, [], 0, 0, []⟩,
  ⟨(some 6), .mov (.tmp 25), none, [], 0, [], 0, 0, []⟩]
def c154_8 : List SOper := [⟨(some 26), .mov (.tmp 6), none, [], 0, [], 0, 0, []⟩,
  ⟨(some 27), .bad, none, [], 0, [], 0, 0, []⟩,
  ⟨(some 7), .mov (.tmp 27), none, [], 0, [], 0, 0, []⟩]
def c154_9 : List SOper := [⟨(some 28), .mov (.tmp 7), none, [], 0, [], 0, 0, []⟩,
  ⟨(some 29), .bin .add (.const (.int .i64 (1))) (.tmp 28), none, [], 0, [], 0, 0, []⟩,
  ⟨(some 30), .slarr 24 1 (.tmp 5) (some (.const (.int .i64 (1)))) (some (.tmp 29)) none, none, [], 0, [], 0, 0, []⟩,
  ⟨(some 31), .mov (.tmp 6), none, [], 0, [], 0, 0, []⟩,
  ⟨(some 32), .bad, none, [], 0, [], 0, 0, []⟩]
def c154_10 : List SOper := [⟨(some 33), .mov (.tmp 0), none, [], 0, [], 0, 0, []⟩,
  ⟨(some 34), .bin .lss (.tmp 33) (.const (.int .i64 (0))), none, [], 0, [], 0, 0, []⟩]
def c154_11 : List SOper := [⟨(some 35), .idxA 24 1 (.tmp 5) (.const (.int .i64 (0))), none, [], 0, [], 0, 0, []⟩,
  ⟨none, .store1 (.tmp 35) (.const (.int .u8 (45))), none, [], 0, [], 0, 0, []⟩]
def c154_12 : List SOper := [⟨(some 36), .mov (.tmp 7), none, [], 0, [], 0, 0, []⟩,
  ⟨(some 37), .bin .add (.const (.int .i64 (1))) (.tmp 36), none, [], 0, [], 0, 0, []⟩,
  ⟨(some 38), .slarr 24 1 (.tmp 5) none (some (.tmp 37)) none, none, [], 0, [], 0, 0, []⟩,
  ⟨(some 39), .bad, none, [], 0, [], 0, 0, []⟩,
  ⟨(some 4), .mov (.tmp 39), none, [], 0, [], 0, 0, []⟩]
def c154_13 : List SOper := [⟨(some 40), .mov (.tmp 7), none, [], 0, [], 0, 0, []⟩,
  ⟨(some 41), .bin .add (.const (.int .i64 (1))) (.tmp 40), none, [], 0, [], 0, 0, []⟩,
  ⟨(some 42), .slarr 24 1 (.tmp 5) (some (.const (.int .i64 (1)))) (some (.tmp 41)) none, none, [], 0, [], 0, 0, []⟩,
  ⟨(some 43), .bad, none, [], 0, [], 0, 0, []⟩,
  ⟨(some 4), .mov (.tmp 43), none, [], 0, [], 0, 0, []⟩]
def c154_14 : List SOper := [⟨(some 45), .mov (.tmp 0), none, [], 0, [], 0, 0, []⟩,
  ⟨(some 46), .conv .u64 (.tmp 45), none, [], 0, [], 0, 0, []⟩,
  ⟨(some 47), .mov (.tmp 1), none, [], 0, [], 0, 0, []⟩,
  ⟨(some 48), .mov (.tmp 0), none, [], 0, [], 0, 0, []⟩,
  ⟨(some 49), .bin .lss (.tmp 48) (.const (.int .i64 (0))), none, [], 0, [], 0, 0, []⟩,
  ⟨(some 50), .bad, none, [], 0, [], 0, 0, []⟩,
  ⟨(some 44), .mov (.tmp 50), none, [], 0, [], 0, 0, []⟩,
  ⟨(some 51), .extr (.tmp 44) 0, none, [], 0, [], 0, 0, []⟩,
  ⟨(some 52), .extr (.tmp 44) 1, none, [], 0, [], 0, 0, []⟩,
  ⟨(some 8), .mov (.tmp 51), none, [], 0, [], 0, 0, []⟩,
  ⟨(some 9), .mov (.tmp 52), none, [], 0, [], 0, 0, []⟩]
def c154_15 : List SOper := [⟨(some 53), .mov (.tmp 9), none, [], 0, [], 0, 0, []⟩,
  ⟨(some 4), .mov (.tmp 53), none, [], 0, [], 0, 0, []⟩]
def c154_body : SCode := (.seq (.reg [1, 0] c154_0) (.seq (.seq (.reg [11, 1, 0] c154_1) (.cond (.tmp 11) (.seq (.seq (.reg [17, 0] c154_2) (.cond (.tmp 17) (.seq (.reg [4] c154_3) .ret) .skip)) (.seq (.reg [5, 0] c154_4) (.seq (.reg [6, 5, 0] c154_5) (.seq (.seq (.reg [23, 6, 5, 0] c154_6) (.cond (.tmp 23) (.reg [6, 5, 0] c154_7) .skip)) (.seq (.reg [7, 6, 5, 0] c154_8) (.seq (.reg [7, 5, 0] c154_9) (.seq (.seq (.reg [34, 7, 5] c154_10) (.cond (.tmp 34) (.seq (.reg [7, 5] c154_11) (.seq (.reg [4] c154_12) .ret)) .skip)) (.seq (.reg [4] c154_13) .ret)))))))) .skip)) (.seq (.reg [9] c154_14) (.seq (.reg [4] c154_15) .ret))))
def c154 : SFunc := ⟨2, 54, c154_body, [.tmp 4]⟩

/- slices.insertionSortCmpFunc[jacquard/api.Final] -/
def c214_0 : List SOper := [⟨(some 10), .mov (.tmp 1), none, [], 0, [], 0, 0, []⟩,
  ⟨(some 11), .bin .add (.tmp 10) (.const (.int .i64 (1))), none, [], 0, [], 0, 0, []⟩,
  ⟨(some 8), .mov (.tmp 11), none, [], 0, [], 0, 0, []⟩]
def c214_1 : List SOper := [⟨(some 12), .mov (.tmp 8), none, [], 0, [], 0, 0, []⟩,
  ⟨(some 13), .mov (.tmp 2), none, [], 0, [], 0, 0, []⟩,
  ⟨(some 14), .bin .lss (.tmp 12) (.tmp 13), none, [], 0, [], 0, 0, []⟩]
def c214_2 : List SOper := [⟨(some 17), .mov (.tmp 8), none, [], 0, [], 0, 0, []⟩,
  ⟨(some 9), .mov (.tmp 17), none, [], 0, [], 0, 0, []⟩]
def c214_3 : List SOper := [⟨(some 18), .mov (.tmp 9), none, [9], 0, [], 0, 0, []⟩,
  ⟨(some 19), .mov (.tmp 1), none, [1], 1, [], 0, 0, []⟩,
  ⟨(some 20), .bin .gtr (.tmp 18) (.tmp 19), none, [18, 19], 2, [0, 1], 0, 0, []⟩,
  ⟨(some 21), .mov (.tmp 20), none, [20], 3, [2], 0, 0, []⟩,
  ⟨(some 22), .mov (.tmp 3), (some (21, true)), [3, 21], 4, [3], 0, 0, []⟩,
  ⟨(some 23), .mov (.tmp 0), (some (21, true)), [0, 21], 5, [3], 0, 0, []⟩,
  ⟨(some 24), .mov (.tmp 9), (some (21, true)), [9, 21], 6, [3], 0, 0, []⟩,
  ⟨(some 25), .idxS 20 (.tmp 23) (.tmp 24), (some (21, true)), [23, 24, 21], 7, [5, 6, 3], 0, 0, []⟩,
  ⟨(some 26), .loadN 20 (.tmp 25), (some (21, true)), [25, 21], 8, [7, 3], 0, 0, []⟩,
  ⟨(some 27), .mov (.tmp 0), (some (21, true)), [0, 21], 9, [3], 0, 0, []⟩,
  ⟨(some 28), .mov (.tmp 9), (some (21, true)), [9, 21], 10, [3], 0, 0, []⟩,
  ⟨(some 29), .bin .sub (.tmp 28) (.const (.int .i64 (1))), (some (21, true)), [28, 21], 11, [10, 3], 0, 0, []⟩,
  ⟨(some 30), .idxS 20 (.tmp 27) (.tmp 29), (some (21, true)), [27, 29, 21], 12, [9, 11, 3], 0, 0, []⟩,
  ⟨(some 31), .loadN 20 (.tmp 30), (some (21, true)), [30, 21], 13, [12, 3], 0, 0, []⟩,
  ⟨(some 32), .callv (.tmp 22) [(.tmp 26), (.tmp 31)], (some (21, true)), [22, 26, 31, 21], 14, [4, 8, 13, 3, 3], 0, 0, []⟩,
  ⟨(some 33), .bin .lss (.tmp 32) (.const (.int .i64 (0))), (some (21, true)), [32, 21], 15, [14, 3], 0, 0, []⟩,
  ⟨(some 34), .pick (.tmp 21) (.tmp 33) (.const (.bool false)), none, [21, 33], 16, [3, 15], 0, 0, []⟩]
def c214_3b : List SOper := []
def c214_4 : List SOper := [⟨(some 37), .mov (.tmp 0), none, [0], 0, [], 0, 0, []⟩,
  ⟨(some 38), .mov (.tmp 9), none, [9], 1, [], 0, 0, []⟩,
  ⟨(some 39), .mov (.tmp 0), none, [0], 2, [], 0, 0, []⟩,
  ⟨(some 40), .mov (.tmp 9), none, [9], 3, [], 0, 0, []⟩,
  ⟨(some 41), .bin .sub (.tmp 40) (.const (.int .i64 (1))), none, [40], 4, [3], 0, 0, []⟩,
  ⟨(some 42), .mov (.tmp 0), none, [0], 5, [], 0, 0, []⟩,
  ⟨(some 43), .mov (.tmp 9), none, [9], 6, [], 0, 0, []⟩,
  ⟨(some 44), .bin .sub (.tmp 43) (.const (.int .i64 (1))), none, [43], 7, [6], 0, 0, []⟩,
  ⟨(some 45), .idxS 20 (.tmp 42) (.tmp 44), none, [42, 44], 8, [5, 7], 0, 0, []⟩,
  ⟨(some 46), .loadN 20 (.tmp 45), none, [45], 9, [8], 0, 0, []⟩,
  ⟨(some 47), .mov (.tmp 0), none, [0], 10, [], 0, 0, []⟩,
  ⟨(some 48), .mov (.tmp 9), none, [9], 11, [], 0, 0, []⟩,
  ⟨(some 49), .idxS 20 (.tmp 47) (.tmp 48), none, [47, 48], 12, [10, 11], 0, 0, []⟩,
  ⟨(some 50), .loadN 20 (.tmp 49), none, [49], 13, [12], 0, 0, []⟩,
  ⟨(some 51), .idxS 20 (.tmp 37) (.tmp 38), none, [37, 38], 14, [0, 1, 0, 1, 5, 6, 7, 8, 9, 13], 0, 0, []⟩,
  ⟨(some 52), .idxS 20 (.tmp 39) (.tmp 41), none, [39, 41], 16, [2, 4, 0, 1, 2, 3, 4, 5, 6, 7, 8, 9, 10, 11, 12, 13, 14, 15], 0, 0, []⟩]
def c214_4b : List SOper := [⟨none, .storeN 20 (.tmp 51) (.tmp 46), none, [51, 46], 15, [14, 9, 0, 1, 5, 6, 7, 8, 9, 13], 0, 0, [9, 13]⟩,
  ⟨none, .storeN 20 (.tmp 52) (.tmp 50), none, [52, 50], 17, [16, 13, 15, 0, 1, 2, 3, 4, 5, 6, 7, 8, 9, 10, 11, 12, 13, 14, 15], 0, 0, [9, 13]⟩]
def c214_5 : List SOper := [⟨(some 35), .mov (.tmp 9), none, [], 0, [], 0, 0, []⟩,
  ⟨(some 36), .bin .sub (.tmp 35) (.const (.int .i64 (1))), none, [], 0, [], 0, 0, []⟩,
  ⟨(some 9), .mov (.tmp 36), none, [], 0, [], 0, 0, []⟩]
def c214_6 : SCode := (.seq (.seq (.dreg [34, 9, 8, 3, 2, 1, 0] c214_3 c214_3b) (.cond (.tmp 34) .skip (.exit 2))) (.seq (.block 3 (.dreg [9, 8, 3, 2, 1, 0] c214_4 c214_4b)) (.reg [9, 8, 3, 2, 1, 0] c214_5)))
def c214_7 : List SOper := [⟨(some 15), .mov (.tmp 8), none, [], 0, [], 0, 0, []⟩,
  ⟨(some 16), .bin .add (.tmp 15) (.const (.int .i64 (1))), none, [], 0, [], 0, 0, []⟩,
  ⟨(some 8), .mov (.tmp 16), none, [], 0, [], 0, 0, []⟩]
def c214_8 : SCode := (.seq (.seq (.reg [14, 8, 3, 2, 1, 0] c214_1) (.cond (.tmp 14) .skip (.exit 0))) (.seq (.block 1 (.seq (.reg [9, 8, 3, 2, 1, 0] c214_2) (.block 2 (.loop [9, 8, 3, 2, 1, 0] c214_6)))) (.reg [8, 3, 2, 1, 0] c214_7)))
def c214_body : SCode := (.seq (.reg [8, 3, 2, 1, 0] c214_0) (.block 0 (.loop [8, 3, 2, 1, 0] c214_8)))
def c214 : SFunc := ⟨4, 53, c214_body, []⟩

/- math/bits.Len32 -/
def c195_0 : List SOper := [⟨(some 2), .mov (.const (.int .i64 (0))), none, [], 0, [], 0, 0, []⟩]
def c195_1 : List SOper := [⟨(some 3), .mov (.tmp 0), none, [], 0, [], 0, 0, []⟩,
  ⟨(some 4), .bin .geq (.tmp 3) (.const (.int .u32 (65536))), none, [], 0, [], 0, 0, []⟩]
def c195_2 : List SOper := [⟨(some 5), .mov (.tmp 0), none, [], 0, [], 0, 0, []⟩,
  ⟨(some 6), .bin .shr (.tmp 5) (.const (.int .u64 (16))), none, [], 0, [], 0, 0, []⟩,
  ⟨(some 0), .mov (.tmp 6), none, [], 0, [], 0, 0, []⟩]
def c195_3 : List SOper := [⟨(some 2), .mov (.const (.int .i64 (16))), none, [], 0, [], 0, 0, []⟩]
def c195_4 : List SOper := [⟨(some 7), .mov (.tmp 0), none, [], 0, [], 0, 0, []⟩,
  ⟨(some 8), .bin .geq (.tmp 7) (.const (.int .u32 (256))), none, [], 0, [], 0, 0, []⟩]
def c195_5 : List SOper := [⟨(some 9), .mov (.tmp 0), none, [], 0, [], 0, 0, []⟩,
  ⟨(some 10), .bin .shr (.tmp 9) (.const (.int .u64 (8))), none, [], 0, [], 0, 0, []⟩,
  ⟨(some 0), .mov (.tmp 10), none, [], 0, [], 0, 0, []⟩]
def c195_6 : List SOper := [⟨(some 11), .mov (.tmp 2), none, [], 0, [], 0, 0, []⟩,
  ⟨(some 12), .bin .add (.tmp 11) (.const (.int .i64 (8))), none, [], 0, [], 0, 0, []⟩,
  ⟨(some 2), .mov (.tmp 12), none, [], 0, [], 0, 0, []⟩]
def c195_7 : List SOper := [⟨(some 13), .mov (.tmp 2), none, [], 0, [], 0, 0, []⟩,
  ⟨(some 14), .mov (.tmp 0), none, [], 0, [], 0, 0, []⟩,
  ⟨(some 15), .conv .u8 (.tmp 14), none, [], 0, [], 0, 0, []⟩,
  ⟨(some 16), .idxT (.const (.string ⟨#[0, 1, 2, 2, 3, 3, 3, 3, 4, 4, 4, 4, 4, 4, 4, 4, 5, 5, 5, 5, 5, 5, 5, 5, 5, 5, 5, 5, 5, 5, 5, 5, 6, 6, 6, 6, 6, 6, 6, 6, 6, 6, 6, 6, 6, 6, 6, 6, 6, 6, 6, 6, 6, 6, 6, 6, 6, 6, 6, 6, 6, 6, 6, 6, 7, 7, 7, 7, 7, 7, 7, 7, 7, 7, 7, 7, 7, 7, 7, 7, 7, 7, 7, 7, 7, 7, 7, 7, 7, 7, 7, 7, 7, 7, 7, 7, 7, 7, 7, 7, 7, 7, 7, 7, 7, 7, 7, 7, 7, 7, 7, 7, 7, 7, 7, 7, 7, 7, 7, 7, 7, 7, 7, 7, 7, 7, 7, 7, 8, 8, 8, 8, 8, 8, 8, 8, 8, 8, 8, 8, 8, 8, 8, 8, 8, 8, 8, 8, 8, 8, 8, 8, 8, 8, 8, 8, 8, 8, 8, 8, 8, 8, 8, 8, 8, 8, 8, 8, 8, 8, 8, 8, 8, 8, 8, 8, 8, 8, 8, 8, 8, 8, 8, 8, 8, 8, 8, 8, 8, 8, 8, 8, 8, 8, 8, 8, 8, 8, 8, 8, 8, 8, 8, 8, 8, 8, 8, 8, 8, 8, 8, 8, 8, 8, 8, 8, 8, 8, 8, 8, 8, 8, 8, 8, 8, 8, 8, 8, 8, 8, 8, 8, 8, 8, 8, 8, 8, 8, 8, 8, 8, 8, 8, 8, 8, 8, 8, 8, 8, 8, 8, 8, 8, 8, 8, 8]⟩)) (.tmp 15), none, [], 0, [], 0, 0, []⟩,
  ⟨(some 17), .conv .i64 (.tmp 16), none, [], 0, [], 0, 0, []⟩,
  ⟨(some 18), .bin .add (.tmp 13) (.tmp 17), none, [], 0, [], 0, 0, []⟩,
  ⟨(some 2), .mov (.tmp 18), none, [], 0, [], 0, 0, []⟩]
def c195_body : SCode := (.seq (.reg [2, 0] c195_0) (.seq (.seq (.reg [4, 2, 0] c195_1) (.cond (.tmp 4) (.seq (.reg [0] c195_2) (.reg [2, 0] c195_3)) .skip)) (.seq (.seq (.reg [8, 2, 0] c195_4) (.cond (.tmp 8) (.seq (.reg [2, 0] c195_5) (.reg [2, 0] c195_6)) .skip)) (.seq (.reg [2] c195_7) .ret))))
def c195 : SFunc := ⟨1, 19, c195_body, [.tmp 2]⟩

/- math/bits.Len64 -/
def c196_0 : List SOper := [⟨(some 2), .mov (.const (.int .i64 (0))), none, [], 0, [], 0, 0, []⟩]
def c196_1 : List SOper := [⟨(some 3), .mov (.tmp 0), none, [], 0, [], 0, 0, []⟩,
  ⟨(some 4), .bin .geq (.tmp 3) (.const (.int .u64 (4294967296))), none, [], 0, [], 0, 0, []⟩]
def c196_2 : List SOper := [⟨(some 5), .mov (.tmp 0), none, [], 0, [], 0, 0, []⟩,
  ⟨(some 6), .bin .shr (.tmp 5) (.const (.int .u64 (32))), none, [], 0, [], 0, 0, []⟩,
  ⟨(some 0), .mov (.tmp 6), none, [], 0, [], 0, 0, []⟩]
def c196_3 : List SOper := [⟨(some 2), .mov (.const (.int .i64 (32))), none, [], 0, [], 0, 0, []⟩]
def c196_4 : List SOper := [⟨(some 7), .mov (.tmp 0), none, [], 0, [], 0, 0, []⟩,
  ⟨(some 8), .bin .geq (.tmp 7) (.const (.int .u64 (65536))), none, [], 0, [], 0, 0, []⟩]
def c196_5 : List SOper := [⟨(some 9), .mov (.tmp 0), none, [], 0, [], 0, 0, []⟩,
  ⟨(some 10), .bin .shr (.tmp 9) (.const (.int .u64 (16))), none, [], 0, [], 0, 0, []⟩,
  ⟨(some 0), .mov (.tmp 10), none, [], 0, [], 0, 0, []⟩]
def c196_6 : List SOper := [⟨(some 11), .mov (.tmp 2), none, [], 0, [], 0, 0, []⟩,
  ⟨(some 12), .bin .add (.tmp 11) (.const (.int .i64 (16))), none, [], 0, [], 0, 0, []⟩,
  ⟨(some 2), .mov (.tmp 12), none, [], 0, [], 0, 0, []⟩]
def c196_7 : List SOper := [⟨(some 13), .mov (.tmp 0), none, [], 0, [], 0, 0, []⟩,
  ⟨(some 14), .bin .geq (.tmp 13) (.const (.int .u64 (256))), none, [], 0, [], 0, 0, []⟩]
def c196_8 : List SOper := [⟨(some 15), .mov (.tmp 0), none, [], 0, [], 0, 0, []⟩,
  ⟨(some 16), .bin .shr (.tmp 15) (.const (.int .u64 (8))), none, [], 0, [], 0, 0, []⟩,
  ⟨(some 0), .mov (.tmp 16), none, [], 0, [], 0, 0, []⟩]
def c196_9 : List SOper := [⟨(some 17), .mov (.tmp 2), none, [], 0, [], 0, 0, []⟩,
  ⟨(some 18), .bin .add (.tmp 17) (.const (.int .i64 (8))), none, [], 0, [], 0, 0, []⟩,
  ⟨(some 2), .mov (.tmp 18), none, [], 0, [], 0, 0, []⟩]
def c196_10 : List SOper := [⟨(some 19), .mov (.tmp 2), none, [], 0, [], 0, 0, []⟩,
  ⟨(some 20), .mov (.tmp 0), none, [], 0, [], 0, 0, []⟩,
  ⟨(some 21), .conv .u8 (.tmp 20), none, [], 0, [], 0, 0, []⟩,
  ⟨(some 22), .idxT (.const (.string ⟨#[0, 1, 2, 2, 3, 3, 3, 3, 4, 4, 4, 4, 4, 4, 4, 4, 5, 5, 5, 5, 5, 5, 5, 5, 5, 5, 5, 5, 5, 5, 5, 5, 6, 6, 6, 6, 6, 6, 6, 6, 6, 6, 6, 6, 6, 6, 6, 6, 6, 6, 6, 6, 6, 6, 6, 6, 6, 6, 6, 6, 6, 6, 6, 6, 7, 7, 7, 7, 7, 7, 7, 7, 7, 7, 7, 7, 7, 7, 7, 7, 7, 7, 7, 7, 7, 7, 7, 7, 7, 7, 7, 7, 7, 7, 7, 7, 7, 7, 7, 7, 7, 7, 7, 7, 7, 7, 7, 7, 7, 7, 7, 7, 7, 7, 7, 7, 7, 7, 7, 7, 7, 7, 7, 7, 7, 7, 7, 7, 8, 8, 8, 8, 8, 8, 8, 8, 8, 8, 8, 8, 8, 8, 8, 8, 8, 8, 8, 8, 8, 8, 8, 8, 8, 8, 8, 8, 8, 8, 8, 8, 8, 8, 8, 8, 8, 8, 8, 8, 8, 8, 8, 8, 8, 8, 8, 8, 8, 8, 8, 8, 8, 8, 8, 8, 8, 8, 8, 8, 8, 8, 8, 8, 8, 8, 8, 8, 8, 8, 8, 8, 8, 8, 8, 8, 8, 8, 8, 8, 8, 8, 8, 8, 8, 8, 8, 8, 8, 8, 8, 8, 8, 8, 8, 8, 8, 8, 8, 8, 8, 8, 8, 8, 8, 8, 8, 8, 8, 8, 8, 8, 8, 8, 8, 8, 8, 8, 8, 8, 8, 8, 8, 8, 8, 8, 8, 8]⟩)) (.tmp 21), none, [], 0, [], 0, 0, []⟩,
  ⟨(some 23), .conv .i64 (.tmp 22), none, [], 0, [], 0, 0, []⟩,
  ⟨(some 24), .bin .add (.tmp 19) (.tmp 23), none, [], 0, [], 0, 0, []⟩,
  ⟨(some 2), .mov (.tmp 24), none, [], 0, [], 0, 0, []⟩]
def c196_body : SCode := (.seq (.reg [2, 0] c196_0) (.seq (.seq (.reg [4, 2, 0] c196_1) (.cond (.tmp 4) (.seq (.reg [0] c196_2) (.reg [2, 0] c196_3)) .skip)) (.seq (.seq (.reg [8, 2, 0] c196_4) (.cond (.tmp 8) (.seq (.reg [2, 0] c196_5) (.reg [2, 0] c196_6)) .skip)) (.seq (.seq (.reg [14, 2, 0] c196_7) (.cond (.tmp 14) (.seq (.reg [2, 0] c196_8) (.reg [2, 0] c196_9)) .skip)) (.seq (.reg [2] c196_10) .ret)))))
def c196 : SFunc := ⟨1, 25, c196_body, [.tmp 2]⟩

/- internal/strconv.small -/
def c202_0 : List SOper := [⟨(some 2), .mov (.const (.string ⟨#[]⟩)), none, [], 0, [], 0, 0, []⟩]
def c202_1 : List SOper := [⟨(some 3), .mov (.tmp 0), none, [], 0, [], 0, 0, []⟩,
  ⟨(some 4), .bin .lss (.tmp 3) (.const (.int .i64 (10))), none, [], 0, [], 0, 0, []⟩]
def c202_2 : List SOper := [⟨(some 5), .mov (.tmp 0), none, [], 0, [], 0, 0, []⟩,
  ⟨(some 6), .mov (.tmp 0), none, [], 0, [], 0, 0, []⟩,
  ⟨(some 7), .bin .add (.tmp 6) (.const (.int .i64 (1))), none, [], 0, [], 0, 0, []⟩,
  ⟨(some 8), .slstr (.const (.string ⟨#[48, 49, 50, 51, 52, 53, 54, 55, 56, 57, 97, 98, 99, 100, 101, 102, 103, 104, 105, 106, 107, 108, 109, 110, 111, 112, 113, 114, 115, 116, 117, 118, 119, 120, 121, 122]⟩)) (some (.tmp 5)) (some (.tmp 7)), none, [], 0, [], 0, 0, []⟩,
  ⟨(some 2), .mov (.tmp 8), none, [], 0, [], 0, 0, []⟩]
def c202_3 : List SOper := [⟨(some 9), .mov (.tmp 0), none, [], 0, [], 0, 0, []⟩,
  ⟨(some 10), .bin .mul (.tmp 9) (.const (.int .i64 (2))), none, [], 0, [], 0, 0, []⟩,
  ⟨(some 11), .mov (.tmp 0), none, [], 0, [], 0, 0, []⟩,
  ⟨(some 12), .bin .mul (.tmp 11) (.const (.int .i64 (2))), none, [], 0, [], 0, 0, []⟩,
  ⟨(some 13), .bin .add (.tmp 12) (.const (.int .i64 (2))), none, [], 0, [], 0, 0, []⟩,
  ⟨(some 14), .slstr (.const (.string ⟨#[48, 48, 48, 49, 48, 50, 48, 51, 48, 52, 48, 53, 48, 54, 48, 55, 48, 56, 48, 57, 49, 48, 49, 49, 49, 50, 49, 51, 49, 52, 49, 53, 49, 54, 49, 55, 49, 56, 49, 57, 50, 48, 50, 49, 50, 50, 50, 51, 50, 52, 50, 53, 50, 54, 50, 55, 50, 56, 50, 57, 51, 48, 51, 49, 51, 50, 51, 51, 51, 52, 51, 53, 51, 54, 51, 55, 51, 56, 51, 57, 52, 48, 52, 49, 52, 50, 52, 51, 52, 52, 52, 53, 52, 54, 52, 55, 52, 56, 52, 57, 53, 48, 53, 49, 53, 50, 53, 51, 53, 52, 53, 53, 53, 54, 53, 55, 53, 56, 53, 57, 54, 48, 54, 49, 54, 50, 54, 51, 54, 52, 54, 53, 54, 54, 54, 55, 54, 56, 54, 57, 55, 48, 55, 49, 55, 50, 55, 51, 55, 52, 55, 53, 55, 54, 55, 55, 55, 56, 55, 57, 56, 48, 56, 49, 56, 50, 56, 51, 56, 52, 56, 53, 56, 54, 56, 55, 56, 56, 56, 57, 57, 48, 57, 49, 57, 50, 57, 51, 57, 52, 57, 53, 57, 54, 57, 55, 57, 56, 57, 57]⟩)) (some (.tmp 10)) (some (.tmp 13)), none, [], 0, [], 0, 0, []⟩,
  ⟨(some 2), .mov (.tmp 14), none, [], 0, [], 0, 0, []⟩]
def c202_body : SCode := (.seq (.reg [0] c202_0) (.seq (.seq (.reg [4, 0] c202_1) (.cond (.tmp 4) (.seq (.reg [2] c202_2) .ret) .skip)) (.seq (.reg [2] c202_3) .ret)))
def c202 : SFunc := ⟨1, 15, c202_body, [.tmp 2]⟩

def Fin_list : List (Nat × SFunc) := [(258, c258), (259, c259), (260, c260), (261, c261), (95, c95), (262, c262), (49, c49), (263, c263), (169, c169), (142, c142), (264, c264), (87, c87), (93, c93), (94, c94), (96, c96), (97, c97), (265, c265), (198, c198), (86, c86), (168, c168), (141, c141), (266, c266), (230, c230), (154, c154), (214, c214), (195, c195), (196, c196), (202, c202)]
def Fin_tree : Tri SFunc := (.node none (.node none (.node none (.node none (.node none (.node none .leaf (.node (some c95) .leaf .leaf)) .leaf) (.node none (.node none (.node none (.node none (.node (some c263) .leaf .leaf) .leaf) .leaf) .leaf) (.node none (.node (some c87) .leaf .leaf) .leaf))) (.node none (.node none (.node none (.node none (.node none (.node (some c259) .leaf .leaf) .leaf) (.node (some c195) .leaf .leaf)) .leaf) .leaf) .leaf)) (.node none (.node none (.node none (.node none .leaf (.node (some c97) .leaf .leaf)) (.node (some c49) .leaf .leaf)) (.node none (.node none (.node none (.node none (.node (some c265) .leaf .leaf) .leaf) .leaf) (.node none (.node (some c169) .leaf .leaf) .leaf)) .leaf)) (.node none (.node none (.node none (.node none (.node none (.node (some c261) .leaf .leaf) .leaf) .leaf) .leaf) .leaf) (.node none (.node none (.node none (.node (some c141) .leaf .leaf) .leaf) .leaf) (.node none (.node (some c93) .leaf .leaf) .leaf))))) (.node none (.node none (.node none (.node none (.node none .leaf (.node (some c96) .leaf .leaf)) .leaf) (.node none (.node none (.node none (.node none (.node (some c264) .leaf .leaf) .leaf) .leaf) (.node none (.node (some c168) .leaf .leaf) .leaf)) .leaf)) (.node none (.node none (.node none (.node none (.node none (.node (some c260) .leaf .leaf) .leaf) (.node (some c196) .leaf .leaf)) .leaf) .leaf) .leaf)) (.node none (.node none (.node none (.node none (.node none (.node none (.node (some c258) .leaf .leaf) .leaf) .leaf) .leaf) .leaf) (.node none (.node none (.node none (.node none (.node (some c266) .leaf .leaf) .leaf) (.node (some c202) .leaf .leaf)) .leaf) (.node none (.node none (.node (some c154) .leaf .leaf) .leaf) .leaf))) (.node none (.node none (.node none (.node none (.node none (.node (some c262) .leaf .leaf) .leaf) (.node (some c198) .leaf .leaf)) (.node none .leaf (.node (some c230) .leaf .leaf))) (.node none (.node (some c86) .leaf (.node (some c214) .leaf .leaf)) .leaf)) (.node none (.node none (.node none (.node (some c142) .leaf .leaf) .leaf) .leaf) (.node none (.node (some c94) .leaf .leaf) .leaf))))))
end Go.Jq
