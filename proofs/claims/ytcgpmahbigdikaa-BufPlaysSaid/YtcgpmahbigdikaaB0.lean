/- Small code. Printed by Gen.lean. -/
import Derived.Test.YtcgpmahbigdikaaM25
set_option linter.unusedSimpArgs false
set_option linter.unusedVariables false
namespace Go.Jq

/- jacquard/jacquardlaw15.BufFull -/
def c0_0 : List SOper := [⟨(some 6), .mov (.const (.bool false)), none, [], 0, [], 0, 0, []⟩]
def c0_1 : List SOper := [⟨(some 14), .mov (.tmp 0), none, [], 0, [], 0, 0, []⟩,
  ⟨(some 15), .bin .and (.tmp 14) (.const (.int .i64 (63))), none, [], 0, [], 0, 0, []⟩,
  ⟨(some 16), .mov (.tmp 1), none, [], 0, [], 0, 0, []⟩,
  ⟨(some 17), .bin .and (.tmp 16) (.const (.int .i64 (3))), none, [], 0, [], 0, 0, []⟩,
  ⟨(some 0), .mov (.tmp 15), none, [], 0, [], 0, 0, []⟩,
  ⟨(some 1), .mov (.tmp 17), none, [], 0, [], 0, 0, []⟩]
def c0_2 : List SOper := [⟨(some 18), .call 4 [(.const (.int .i64 (3)))], none, [], 0, [], 0, 0, []⟩,
  ⟨(some 19), .mov (.tmp 2), none, [], 0, [], 0, 0, []⟩,
  ⟨(some 20), .call 4 [(.tmp 19)], none, [], 0, [], 0, 0, []⟩,
  ⟨(some 21), .call 4 [(.const (.int .i64 (2)))], none, [], 0, [], 0, 0, []⟩,
  ⟨(some 7), .alloc (zi 74), none, [], 0, [], 0, 0, []⟩,
  ⟨(some 8), .alloc (zi 74), none, [], 0, [], 0, 0, []⟩,
  ⟨(some 9), .alloc (zi 74), none, [], 0, [], 0, 0, []⟩,
  ⟨none, .storeN 74 (.tmp 7) (.tmp 18), none, [], 0, [], 0, 0, []⟩,
  ⟨none, .storeN 74 (.tmp 8) (.tmp 20), none, [], 0, [], 0, 0, []⟩,
  ⟨none, .storeN 74 (.tmp 9) (.tmp 21), none, [], 0, [], 0, 0, []⟩]
def c0_3 : List SOper := [⟨(some 10), .mov (.const (.int .i64 (0))), none, [], 0, [], 0, 0, []⟩]
def c0_4 : List SOper := [⟨(some 22), .mov (.tmp 10), none, [], 0, [], 0, 0, []⟩,
  ⟨(some 23), .mov (.tmp 0), none, [], 0, [], 0, 0, []⟩,
  ⟨(some 24), .bin .lss (.tmp 22) (.tmp 23), none, [], 0, [], 0, 0, []⟩]
def c0_5 : List SOper := [⟨(some 27), .loadN 74 (.tmp 7), none, [], 0, [], 0, 0, []⟩,
  ⟨(some 28), .mov (.tmp 1), none, [], 0, [], 0, 0, []⟩,
  ⟨(some 29), .mov (.tmp 10), none, [], 0, [], 0, 0, []⟩,
  ⟨(some 30), .mov (.tmp 10), none, [], 0, [], 0, 0, []⟩,
  ⟨(some 31), .call 5 [(.tmp 27), (.tmp 28), (.tmp 29), (.tmp 30)], none, [], 0, [], 0, 0, []⟩,
  ⟨none, .storeN 74 (.tmp 7) (.tmp 31), none, [], 0, [], 0, 0, []⟩]
def c0_6 : List SOper := [⟨(some 32), .loadN 74 (.tmp 8), none, [], 0, [], 0, 0, []⟩,
  ⟨(some 33), .mov (.tmp 1), none, [], 0, [], 0, 0, []⟩,
  ⟨(some 34), .mov (.tmp 10), none, [], 0, [], 0, 0, []⟩,
  ⟨(some 35), .mov (.tmp 10), none, [], 0, [], 0, 0, []⟩,
  ⟨(some 36), .call 5 [(.tmp 32), (.tmp 33), (.tmp 34), (.tmp 35)], none, [], 0, [], 0, 0, []⟩,
  ⟨none, .storeN 74 (.tmp 8) (.tmp 36), none, [], 0, [], 0, 0, []⟩]
def c0_7 : List SOper := [⟨(some 37), .loadN 74 (.tmp 9), none, [], 0, [], 0, 0, []⟩,
  ⟨(some 38), .mov (.tmp 10), none, [], 0, [], 0, 0, []⟩,
  ⟨(some 39), .bin .and (.tmp 38) (.const (.int .i64 (7))), none, [], 0, [], 0, 0, []⟩,
  ⟨(some 40), .mov (.tmp 10), none, [], 0, [], 0, 0, []⟩,
  ⟨(some 41), .mov (.tmp 10), none, [], 0, [], 0, 0, []⟩,
  ⟨(some 42), .call 5 [(.tmp 37), (.tmp 39), (.tmp 40), (.tmp 41)], none, [], 0, [], 0, 0, []⟩,
  ⟨none, .storeN 74 (.tmp 9) (.tmp 42), none, [], 0, [], 0, 0, []⟩]
def c0_8 : List SOper := [⟨(some 25), .mov (.tmp 10), none, [], 0, [], 0, 0, []⟩,
  ⟨(some 26), .bin .add (.tmp 25) (.const (.int .i64 (1))), none, [], 0, [], 0, 0, []⟩,
  ⟨(some 10), .mov (.tmp 26), none, [], 0, [], 0, 0, []⟩]
def c0_9 : SCode := (.seq (.seq (.reg [0, 1, 2, 7, 8, 9, 10, 24] c0_4) (.cond (.tmp 24) .skip (.exit 0))) (.seq (.block 1 (.seq (.reg [0, 1, 2, 7, 8, 9, 10] c0_5) (.seq (.reg [0, 1, 2, 7, 8, 9, 10] c0_6) (.reg [0, 1, 2, 7, 8, 9, 10] c0_7)))) (.reg [0, 1, 2, 7, 8, 9, 10] c0_8)))
def c0_10 : List SOper := [⟨(some 43), .mov (.tmp 0), none, [], 0, [], 0, 0, []⟩,
  ⟨(some 44), .mm false [(.tmp 43), (.const (.int .i64 (24)))], none, [], 0, [], 0, 0, []⟩,
  ⟨(some 11), .mov (.tmp 44), none, [], 0, [], 0, 0, []⟩]
def c0_11 : List SOper := [⟨(some 45), .loadN 74 (.tmp 7), none, [], 0, [], 0, 0, []⟩,
  ⟨(some 46), .call 6 [(.tmp 45)], none, [], 0, [], 0, 0, []⟩,
  ⟨(some 47), .mov (.tmp 11), none, [], 0, [], 0, 0, []⟩,
  ⟨(some 48), .bin .neq (.tmp 46) (.tmp 47), none, [], 0, [], 0, 0, []⟩,
  ⟨(some 49), .mov (.tmp 48), none, [], 0, [], 0, 0, []⟩,
  ⟨(some 50), .loadN 74 (.tmp 7), (some (49, false)), [], 0, [], 0, 0, []⟩,
  ⟨(some 51), .mov (.tmp 1), (some (49, false)), [], 0, [], 0, 0, []⟩,
  ⟨(some 52), .call 7 [(.tmp 50), (.tmp 51)], (some (49, false)), [], 0, [], 0, 0, []⟩,
  ⟨(some 53), .lenS (.tmp 52), (some (49, false)), [], 0, [], 0, 0, []⟩,
  ⟨(some 54), .mov (.tmp 11), (some (49, false)), [], 0, [], 0, 0, []⟩,
  ⟨(some 55), .bin .neq (.tmp 53) (.tmp 54), (some (49, false)), [], 0, [], 0, 0, []⟩,
  ⟨(some 56), .pick (.tmp 49) (.const (.bool true)) (.tmp 55), none, [], 0, [], 0, 0, []⟩,
  ⟨(some 57), .mov (.tmp 56), none, [], 0, [], 0, 0, []⟩,
  ⟨(some 58), .mov (.tmp 2), (some (57, false)), [], 0, [], 0, 0, []⟩,
  ⟨(some 59), .bin .neq (.tmp 58) (.const (.int .i64 (2))), (some (57, false)), [], 0, [], 0, 0, []⟩,
  ⟨(some 60), .mov (.tmp 59), (some (57, false)), [], 0, [], 0, 0, []⟩,
  ⟨(some 61), .mov (.tmp 2), (some (60, true)), [], 0, [], 0, 0, []⟩,
  ⟨(some 62), .bin .neq (.tmp 61) (.const (.int .i64 (3))), (some (60, true)), [], 0, [], 0, 0, []⟩,
  ⟨(some 63), .pick (.tmp 60) (.tmp 62) (.const (.bool false)), (some (57, false)), [], 0, [], 0, 0, []⟩,
  ⟨(some 64), .mov (.tmp 63), (some (57, false)), [], 0, [], 0, 0, []⟩,
  ⟨(some 65), .loadN 74 (.tmp 8), (some (64, true)), [], 0, [], 0, 0, []⟩,
  ⟨(some 66), .call 8 [(.tmp 65)], (some (64, true)), [], 0, [], 0, 0, []⟩,
  ⟨(some 67), .un .not (.tmp 66), (some (64, true)), [], 0, [], 0, 0, []⟩,
  ⟨(some 68), .pick (.tmp 64) (.tmp 67) (.const (.bool false)), (some (57, false)), [], 0, [], 0, 0, []⟩,
  ⟨(some 69), .pick (.tmp 57) (.const (.bool true)) (.tmp 68), none, [], 0, [], 0, 0, []⟩]
def c0_12 : List SOper := [⟨(some 6), .mov (.const (.bool false)), none, [], 0, [], 0, 0, []⟩]
def c0_13 : List SOper := [⟨(some 12), .mov (.const (.int .i64 (0))), none, [], 0, [], 0, 0, []⟩]
def c0_14 : List SOper := [⟨(some 13), .mov (.const (.int .i64 (0))), none, [], 0, [], 0, 0, []⟩]
def c0_15 : List SOper := [⟨(some 70), .mov (.tmp 13), none, [], 0, [], 0, 0, []⟩,
  ⟨(some 71), .mov (.tmp 0), none, [], 0, [], 0, 0, []⟩,
  ⟨(some 72), .bin .lss (.tmp 70) (.tmp 71), none, [], 0, [], 0, 0, []⟩,
  ⟨(some 73), .mov (.tmp 72), none, [], 0, [], 0, 0, []⟩,
  ⟨(some 74), .mov (.tmp 12), (some (73, true)), [], 0, [], 0, 0, []⟩,
  ⟨(some 75), .bin .lss (.tmp 74) (.const (.int .i64 (24))), (some (73, true)), [], 0, [], 0, 0, []⟩,
  ⟨(some 76), .pick (.tmp 73) (.tmp 75) (.const (.bool false)), none, [], 0, [], 0, 0, []⟩]
def c0_16 : List SOper := [⟨(some 79), .mov (.tmp 13), none, [], 0, [], 0, 0, []⟩,
  ⟨(some 80), .bin .and (.tmp 79) (.const (.int .i64 (7))), none, [], 0, [], 0, 0, []⟩,
  ⟨(some 81), .bin .lss (.tmp 80) (.const (.int .i64 (4))), none, [], 0, [], 0, 0, []⟩]
def c0_17 : List SOper := [⟨(some 82), .mov (.tmp 12), none, [], 0, [], 0, 0, []⟩,
  ⟨(some 83), .bin .add (.tmp 82) (.const (.int .i64 (1))), none, [], 0, [], 0, 0, []⟩,
  ⟨(some 12), .mov (.tmp 83), none, [], 0, [], 0, 0, []⟩]
def c0_18 : List SOper := [⟨(some 77), .mov (.tmp 13), none, [], 0, [], 0, 0, []⟩,
  ⟨(some 78), .bin .add (.tmp 77) (.const (.int .i64 (1))), none, [], 0, [], 0, 0, []⟩,
  ⟨(some 13), .mov (.tmp 78), none, [], 0, [], 0, 0, []⟩]
def c0_19 : SCode := (.seq (.seq (.reg [0, 9, 12, 13, 76] c0_15) (.cond (.tmp 76) .skip (.exit 2))) (.seq (.block 3 (.seq (.reg [0, 9, 12, 13, 81] c0_16) (.cond (.tmp 81) (.reg [0, 9, 12, 13] c0_17) .skip))) (.reg [0, 9, 12, 13] c0_18)))
def c0_20 : List SOper := [⟨(some 84), .loadN 74 (.tmp 9), none, [], 0, [], 0, 0, []⟩,
  ⟨(some 85), .call 6 [(.tmp 84)], none, [], 0, [], 0, 0, []⟩,
  ⟨(some 86), .mov (.tmp 12), none, [], 0, [], 0, 0, []⟩,
  ⟨(some 87), .bin .eql (.tmp 85) (.tmp 86), none, [], 0, [], 0, 0, []⟩,
  ⟨(some 88), .mov (.tmp 87), none, [], 0, [], 0, 0, []⟩,
  ⟨(some 89), .call 9 [], (some (88, true)), [], 0, [], 0, 0, []⟩,
  ⟨(some 90), .pick (.tmp 88) (.tmp 89) (.const (.bool false)), none, [], 0, [], 0, 0, []⟩,
  ⟨(some 6), .mov (.tmp 90), none, [], 0, [], 0, 0, []⟩]
def c0_body : SCode := (.seq (.reg [0, 1, 2] c0_0) (.seq (.reg [0, 1, 2] c0_1) (.seq (.reg [0, 1, 2, 7, 8, 9] c0_2) (.seq (.seq (.reg [0, 1, 2, 7, 8, 9, 10] c0_3) (.block 0 (.loop [0, 1, 2, 7, 8, 9, 10] c0_9))) (.seq (.reg [0, 1, 2, 7, 8, 9, 11] c0_10) (.seq (.seq (.reg [0, 9, 69] c0_11) (.cond (.tmp 69) (.seq (.reg [6] c0_12) .ret) .skip)) (.seq (.reg [0, 9, 12] c0_13) (.seq (.seq (.reg [0, 9, 12, 13] c0_14) (.block 2 (.loop [0, 9, 12, 13] c0_19))) (.seq (.reg [6] c0_20) .ret)))))))))
def c0 : SFunc := ⟨3, 91, c0_body, [.tmp 6]⟩

/- jacquard/jacquardlaw15.BufValues -/
def c1_0 : List SOper := [⟨(some 4), .mov (.const (.bool false)), none, [], 0, [], 0, 0, []⟩]
def c1_1 : List SOper := [⟨(some 12), .mov (.tmp 0), none, [], 0, [], 0, 0, []⟩,
  ⟨(some 13), .bin .and (.tmp 12) (.const (.int .i64 (1))), none, [], 0, [], 0, 0, []⟩,
  ⟨(some 14), .bin .add (.tmp 13) (.const (.int .i64 (2))), none, [], 0, [], 0, 0, []⟩,
  ⟨(some 0), .mov (.tmp 14), none, [], 0, [], 0, 0, []⟩]
def c1_2 : List SOper := [⟨(some 15), .mov (.tmp 0), none, [], 0, [], 0, 0, []⟩,
  ⟨(some 16), .call 4 [(.tmp 15)], none, [], 0, [], 0, 0, []⟩,
  ⟨(some 17), .mov (.tmp 0), none, [], 0, [], 0, 0, []⟩,
  ⟨(some 18), .call 4 [(.tmp 17)], none, [], 0, [], 0, 0, []⟩,
  ⟨(some 5), .alloc (zi 74), none, [], 0, [], 0, 0, []⟩,
  ⟨(some 6), .alloc (zi 74), none, [], 0, [], 0, 0, []⟩,
  ⟨none, .storeN 74 (.tmp 5) (.tmp 16), none, [], 0, [], 0, 0, []⟩,
  ⟨none, .storeN 74 (.tmp 6) (.tmp 18), none, [], 0, [], 0, 0, []⟩]
def c1_3 : List SOper := [⟨(some 7), .mov (.const (.int .i64 (0))), none, [], 0, [], 0, 0, []⟩]
def c1_4 : List SOper := [⟨(some 19), .mov (.tmp 7), none, [], 0, [], 0, 0, []⟩,
  ⟨(some 20), .mov (.tmp 1), none, [], 0, [], 0, 0, []⟩,
  ⟨(some 21), .lenS (.tmp 20), none, [], 0, [], 0, 0, []⟩,
  ⟨(some 22), .bin .lss (.tmp 19) (.tmp 21), none, [], 0, [], 0, 0, []⟩,
  ⟨(some 23), .mov (.tmp 22), none, [], 0, [], 0, 0, []⟩,
  ⟨(some 24), .mov (.tmp 7), (some (23, true)), [], 0, [], 0, 0, []⟩,
  ⟨(some 25), .bin .lss (.tmp 24) (.const (.int .i64 (20))), (some (23, true)), [], 0, [], 0, 0, []⟩,
  ⟨(some 26), .pick (.tmp 23) (.tmp 25) (.const (.bool false)), none, [], 0, [], 0, 0, []⟩]
def c1_5 : List SOper := [⟨(some 29), .loadN 74 (.tmp 5), none, [5], 0, [], 0, 1, []⟩,
  ⟨(some 30), .loadN 74 (.tmp 5), none, [5], 1, [], 0, 0, []⟩,
  ⟨(some 8), .alloc (zi 74), none, [], 3, [], 0, 0, []⟩,
  ⟨(some 31), .call 6 [(.tmp 30)], none, [30], 2, [1], 0, 0, []⟩,
  ⟨(some 9), .mov (.tmp 31), none, [31], 5, [2, 4, 0, 1, 2, 3, 4], 0, 0, []⟩]
def c1_5b : List SOper := [⟨none, .storeN 74 (.tmp 8) (.tmp 29), none, [8, 29], 4, [3, 0, 2, 0, 3], 0, 0, [0, 1, 3]⟩]
def c1_6 : List SOper := [⟨(some 32), .loadN 74 (.tmp 5), none, [5], 0, [], 0, 0, []⟩,
  ⟨(some 33), .mov (.tmp 1), none, [1], 1, [], 0, 0, []⟩,
  ⟨(some 34), .mov (.tmp 7), none, [7], 2, [], 0, 0, []⟩,
  ⟨(some 35), .idxS 3 (.tmp 33) (.tmp 34), none, [33, 34], 3, [1, 2], 0, 0, []⟩,
  ⟨(some 36), .fld 1 (.tmp 35), none, [35], 4, [3], 0, 0, []⟩,
  ⟨(some 37), .load1 (.tmp 36), none, [36], 5, [4], 0, 0, []⟩,
  ⟨(some 38), .bin .and (.tmp 37) (.const (.int .i64 (3))), none, [37], 6, [5], 0, 0, []⟩,
  ⟨(some 39), .mov (.tmp 1), none, [1], 7, [], 0, 0, []⟩,
  ⟨(some 40), .mov (.tmp 7), none, [7], 8, [], 0, 0, []⟩,
  ⟨(some 41), .idxS 3 (.tmp 39) (.tmp 40), none, [39, 40], 9, [7, 8], 0, 0, []⟩,
  ⟨(some 42), .fld 2 (.tmp 41), none, [41], 10, [9], 0, 0, []⟩,
  ⟨(some 43), .load1 (.tmp 42), none, [42], 11, [10], 0, 0, []⟩,
  ⟨(some 44), .mov (.tmp 7), none, [7], 12, [], 0, 0, []⟩,
  ⟨(some 10), .alloc (zi 74), none, [], 14, [], 0, 0, []⟩,
  ⟨(some 45), .call 5 [(.tmp 32), (.tmp 38), (.tmp 43), (.tmp 44)], none, [32, 38, 43, 44], 13, [0, 6, 11, 12], 0, 0, []⟩]
def c1_6b : List SOper := [⟨none, .storeN 74 (.tmp 10) (.tmp 45), none, [10, 45], 15, [14, 13, 13, 0, 1, 2, 3, 4, 5, 6, 7, 8, 9, 10, 11, 12, 13, 14], 0, 0, [0, 5, 11, 14]⟩]
def c1_7 : List SOper := [⟨(some 46), .loadN 74 (.tmp 5), none, [5], 0, [], 0, 0, []⟩,
  ⟨(some 47), .mov (.tmp 1), none, [1], 1, [], 0, 0, []⟩,
  ⟨(some 48), .mov (.tmp 7), none, [7], 2, [], 0, 0, []⟩,
  ⟨(some 49), .idxS 3 (.tmp 47) (.tmp 48), none, [47, 48], 3, [1, 2], 0, 0, []⟩,
  ⟨(some 50), .fld 1 (.tmp 49), none, [49], 4, [3], 0, 0, []⟩,
  ⟨(some 51), .load1 (.tmp 50), none, [50], 5, [4], 0, 0, []⟩,
  ⟨(some 52), .bin .and (.tmp 51) (.const (.int .i64 (3))), none, [51], 6, [5], 0, 0, []⟩,
  ⟨(some 11), .alloc (zi 74), none, [], 8, [], 0, 0, []⟩,
  ⟨(some 53), .call 10 [(.tmp 46), (.tmp 52)], none, [46, 52], 7, [0, 6], 0, 0, []⟩]
def c1_7b : List SOper := [⟨none, .storeN 74 (.tmp 11) (.tmp 53), none, [11, 53], 9, [8, 7, 7, 0, 1, 2, 3, 4, 5, 6, 7, 8], 0, 0, [0, 5, 8]⟩]
def c1_8 : List SOper := [⟨(some 54), .loadN 74 (.tmp 5), none, [], 0, [], 0, 0, []⟩,
  ⟨(some 55), .loadN 74 (.tmp 8), none, [], 0, [], 0, 0, []⟩,
  ⟨(some 56), .eqN true (zk 74) (.tmp 54) (.tmp 55), none, [], 0, [], 0, 0, []⟩,
  ⟨(some 57), .mov (.tmp 56), none, [], 0, [], 0, 0, []⟩,
  ⟨(some 58), .loadN 74 (.tmp 5), (some (57, false)), [], 0, [], 0, 0, []⟩,
  ⟨(some 59), .call 6 [(.tmp 58)], (some (57, false)), [], 0, [], 0, 0, []⟩,
  ⟨(some 60), .mov (.tmp 9), (some (57, false)), [], 0, [], 0, 0, []⟩,
  ⟨(some 61), .bin .neq (.tmp 59) (.tmp 60), (some (57, false)), [], 0, [], 0, 0, []⟩,
  ⟨(some 62), .pick (.tmp 57) (.const (.bool true)) (.tmp 61), none, [], 0, [], 0, 0, []⟩,
  ⟨(some 63), .mov (.tmp 62), none, [], 0, [], 0, 0, []⟩,
  ⟨(some 64), .loadN 74 (.tmp 10), (some (63, false)), [], 0, [], 0, 0, []⟩,
  ⟨(some 65), .call 6 [(.tmp 64)], (some (63, false)), [], 0, [], 0, 0, []⟩,
  ⟨(some 66), .mov (.tmp 9), (some (63, false)), [], 0, [], 0, 0, []⟩,
  ⟨(some 67), .bin .add (.tmp 66) (.const (.int .i64 (1))), (some (63, false)), [], 0, [], 0, 0, []⟩,
  ⟨(some 68), .bin .neq (.tmp 65) (.tmp 67), (some (63, false)), [], 0, [], 0, 0, []⟩,
  ⟨(some 69), .pick (.tmp 63) (.const (.bool true)) (.tmp 68), none, [], 0, [], 0, 0, []⟩,
  ⟨(some 70), .mov (.tmp 69), none, [], 0, [], 0, 0, []⟩,
  ⟨(some 71), .loadN 74 (.tmp 11), (some (70, false)), [], 0, [], 0, 0, []⟩,
  ⟨(some 72), .call 6 [(.tmp 71)], (some (70, false)), [], 0, [], 0, 0, []⟩,
  ⟨(some 73), .mov (.tmp 9), (some (70, false)), [], 0, [], 0, 0, []⟩,
  ⟨(some 74), .bin .gtr (.tmp 72) (.tmp 73), (some (70, false)), [], 0, [], 0, 0, []⟩,
  ⟨(some 75), .pick (.tmp 70) (.const (.bool true)) (.tmp 74), none, [], 0, [], 0, 0, []⟩,
  ⟨(some 76), .mov (.tmp 75), none, [], 0, [], 0, 0, []⟩,
  ⟨(some 77), .loadN 74 (.tmp 10), (some (76, false)), [], 0, [], 0, 0, []⟩,
  ⟨(some 78), .loadN 74 (.tmp 5), (some (76, false)), [], 0, [], 0, 0, []⟩,
  ⟨(some 79), .eqN false (zk 74) (.tmp 77) (.tmp 78), (some (76, false)), [], 0, [], 0, 0, []⟩,
  ⟨(some 80), .pick (.tmp 76) (.const (.bool true)) (.tmp 79), none, [], 0, [], 0, 0, []⟩]
def c1_9 : List SOper := [⟨(some 4), .mov (.const (.bool false)), none, [], 0, [], 0, 0, []⟩]
def c1_10 : List SOper := [⟨(some 81), .loadN 74 (.tmp 10), none, [], 0, [], 0, 0, []⟩,
  ⟨none, .storeN 74 (.tmp 5) (.tmp 81), none, [], 0, [], 0, 0, []⟩]
def c1_11 : List SOper := [⟨(some 82), .loadN 74 (.tmp 6), none, [6], 0, [], 0, 0, []⟩,
  ⟨(some 83), .mov (.tmp 1), none, [1], 1, [], 0, 0, []⟩,
  ⟨(some 84), .mov (.tmp 7), none, [7], 2, [], 0, 0, []⟩,
  ⟨(some 85), .idxS 3 (.tmp 83) (.tmp 84), none, [83, 84], 3, [1, 2], 0, 0, []⟩,
  ⟨(some 86), .fld 1 (.tmp 85), none, [85], 4, [3], 0, 0, []⟩,
  ⟨(some 87), .load1 (.tmp 86), none, [86], 5, [4], 0, 0, []⟩,
  ⟨(some 88), .bin .and (.tmp 87) (.const (.int .i64 (3))), none, [87], 6, [5], 0, 0, []⟩,
  ⟨(some 89), .mov (.tmp 1), none, [1], 7, [], 0, 0, []⟩,
  ⟨(some 90), .mov (.tmp 7), none, [7], 8, [], 0, 0, []⟩,
  ⟨(some 91), .idxS 3 (.tmp 89) (.tmp 90), none, [89, 90], 9, [7, 8], 0, 0, []⟩,
  ⟨(some 92), .fld 2 (.tmp 91), none, [91], 10, [9], 0, 0, []⟩,
  ⟨(some 93), .load1 (.tmp 92), none, [92], 11, [10], 0, 0, []⟩,
  ⟨(some 94), .mov (.tmp 7), none, [7], 12, [], 0, 0, []⟩,
  ⟨(some 95), .call 5 [(.tmp 82), (.tmp 88), (.tmp 93), (.tmp 94)], none, [82, 88, 93, 94], 13, [0, 6, 11, 12], 0, 0, []⟩]
def c1_11b : List SOper := [⟨none, .storeN 74 (.tmp 6) (.tmp 95), none, [6, 95], 14, [13, 13, 0, 1, 2, 3, 4, 5, 6, 7, 8, 9, 10, 11, 12, 13], 0, 0, [0, 5, 11]⟩]
def c1_12 : List SOper := [⟨(some 96), .loadN 74 (.tmp 5), none, [], 0, [], 0, 0, []⟩,
  ⟨(some 97), .loadN 74 (.tmp 6), none, [], 0, [], 0, 0, []⟩,
  ⟨(some 98), .eqN true (zk 74) (.tmp 96) (.tmp 97), none, [], 0, [], 0, 0, []⟩]
def c1_13 : List SOper := [⟨(some 4), .mov (.const (.bool false)), none, [], 0, [], 0, 0, []⟩]
def c1_14 : List SOper := [⟨(some 99), .mov (.tmp 1), none, [], 0, [], 0, 0, []⟩,
  ⟨(some 100), .mov (.tmp 7), none, [], 0, [], 0, 0, []⟩,
  ⟨(some 101), .idxS 3 (.tmp 99) (.tmp 100), none, [], 0, [], 0, 0, []⟩,
  ⟨(some 102), .fld 0 (.tmp 101), none, [], 0, [], 0, 0, []⟩,
  ⟨(some 103), .load1 (.tmp 102), none, [], 0, [], 0, 0, []⟩,
  ⟨(some 104), .bin .neq (.tmp 103) (.const (.int .i64 (0))), none, [], 0, [], 0, 0, []⟩]
def c1_15 : List SOper := [⟨(some 105), .loadN 74 (.tmp 5), none, [5], 0, [], 0, 0, []⟩,
  ⟨(some 106), .mov (.tmp 1), none, [1], 1, [], 0, 0, []⟩,
  ⟨(some 107), .mov (.tmp 7), none, [7], 2, [], 0, 0, []⟩,
  ⟨(some 108), .idxS 3 (.tmp 106) (.tmp 107), none, [106, 107], 3, [1, 2], 0, 0, []⟩,
  ⟨(some 109), .fld 1 (.tmp 108), none, [108], 4, [3], 0, 0, []⟩,
  ⟨(some 110), .load1 (.tmp 109), none, [109], 5, [4], 0, 0, []⟩,
  ⟨(some 111), .bin .and (.tmp 110) (.const (.int .i64 (3))), none, [110], 6, [5], 0, 0, []⟩,
  ⟨(some 113), .loadN 74 (.tmp 6), none, [6], 8, [], 0, 1, []⟩,
  ⟨(some 114), .mov (.tmp 1), none, [1], 9, [], 0, 0, []⟩,
  ⟨(some 115), .mov (.tmp 7), none, [7], 10, [], 0, 0, []⟩,
  ⟨(some 116), .idxS 3 (.tmp 114) (.tmp 115), none, [114, 115], 11, [9, 10], 0, 0, []⟩,
  ⟨(some 117), .fld 1 (.tmp 116), none, [116], 12, [11], 0, 0, []⟩,
  ⟨(some 118), .load1 (.tmp 117), none, [117], 13, [12], 0, 1, []⟩,
  ⟨(some 119), .bin .and (.tmp 118) (.const (.int .i64 (3))), none, [118], 14, [13], 0, 0, []⟩,
  ⟨(some 112), .call 10 [(.tmp 105), (.tmp 111)], none, [105, 111], 7, [0, 6], 0, 0, []⟩,
  ⟨(some 120), .call 10 [(.tmp 113), (.tmp 119)], none, [113, 119], 15, [8, 14, 7], 0, 0, []⟩]
def c1_15b : List SOper := [⟨none, .storeN 74 (.tmp 5) (.tmp 112), none, [5, 112], 16, [7, 15, 0, 1, 2, 3, 4, 5, 6, 7], 0, 0, [0, 5, 8, 13]⟩,
  ⟨none, .storeN 74 (.tmp 6) (.tmp 120), none, [6, 120], 17, [15, 16, 0, 1, 2, 3, 4, 5, 6, 7, 8, 9, 10, 11, 12, 13, 14, 15, 16], 0, 0, [0, 5, 8, 13]⟩]
def c1_16 : List SOper := [⟨(some 27), .mov (.tmp 7), none, [], 0, [], 0, 0, []⟩,
  ⟨(some 28), .bin .add (.tmp 27) (.const (.int .i64 (1))), none, [], 0, [], 0, 0, []⟩,
  ⟨(some 7), .mov (.tmp 28), none, [], 0, [], 0, 0, []⟩]
def c1_17 : SCode := (.seq (.seq (.reg [1, 5, 6, 7, 26] c1_4) (.cond (.tmp 26) .skip (.exit 0))) (.seq (.block 1 (.seq (.dreg [1, 5, 6, 7, 8, 9] c1_5 c1_5b) (.seq (.dreg [1, 5, 6, 7, 8, 9, 10] c1_6 c1_6b) (.seq (.dreg [1, 5, 6, 7, 8, 9, 10, 11] c1_7 c1_7b) (.seq (.seq (.reg [1, 5, 6, 7, 10, 80] c1_8) (.cond (.tmp 80) (.seq (.reg [4] c1_9) .ret) .skip)) (.seq (.reg [1, 5, 6, 7] c1_10) (.seq (.dreg [1, 5, 6, 7] c1_11 c1_11b) (.seq (.seq (.reg [1, 5, 6, 7, 98] c1_12) (.cond (.tmp 98) (.seq (.reg [4] c1_13) .ret) .skip)) (.seq (.reg [1, 5, 6, 7, 104] c1_14) (.cond (.tmp 104) (.dreg [1, 5, 6, 7] c1_15 c1_15b) .skip)))))))))) (.reg [1, 5, 6, 7] c1_16)))
def c1_18 : List SOper := [⟨(some 121), .loadN 74 (.tmp 5), none, [], 0, [], 0, 0, []⟩,
  ⟨(some 122), .loadN 74 (.tmp 6), none, [], 0, [], 0, 0, []⟩,
  ⟨(some 123), .eqN false (zk 74) (.tmp 121) (.tmp 122), none, [], 0, [], 0, 0, []⟩,
  ⟨(some 124), .mov (.tmp 123), none, [], 0, [], 0, 0, []⟩,
  ⟨(some 125), .call 9 [], (some (124, true)), [], 0, [], 0, 0, []⟩,
  ⟨(some 126), .pick (.tmp 124) (.tmp 125) (.const (.bool false)), none, [], 0, [], 0, 0, []⟩,
  ⟨(some 4), .mov (.tmp 126), none, [], 0, [], 0, 0, []⟩]
def c1_body : SCode := (.seq (.reg [0, 1] c1_0) (.seq (.reg [0, 1] c1_1) (.seq (.reg [1, 5, 6] c1_2) (.seq (.seq (.reg [1, 5, 6, 7] c1_3) (.block 0 (.loop [1, 5, 6, 7] c1_17))) (.seq (.reg [4] c1_18) .ret)))))
def c1 : SFunc := ⟨2, 127, c1_body, [.tmp 4]⟩

/- jacquard/jacquardlaw15.BufOrder -/
def c2_0 : List SOper := [⟨(some 2), .mov (.const (.bool false)), none, [], 0, [], 0, 0, []⟩]
def c2_1 : List SOper := [⟨(some 18), .call 4 [(.const (.int .i64 (2)))], none, [], 0, [], 0, 0, []⟩,
  ⟨(some 19), .call 4 [(.const (.int .i64 (3)))], none, [], 0, [], 0, 0, []⟩,
  ⟨(some 3), .alloc (zi 74), none, [], 0, [], 0, 0, []⟩,
  ⟨(some 4), .alloc (zi 74), none, [], 0, [], 0, 0, []⟩,
  ⟨none, .storeN 74 (.tmp 3) (.tmp 18), none, [], 0, [], 0, 0, []⟩,
  ⟨none, .storeN 74 (.tmp 4) (.tmp 19), none, [], 0, [], 0, 0, []⟩]
def c2_2 : List SOper := [⟨(some 20), .mov (.tmp 0), none, [], 0, [], 0, 0, []⟩,
  ⟨(some 21), .lenS (.tmp 20), none, [], 0, [], 0, 0, []⟩,
  ⟨(some 22), .mm false [(.tmp 21), (.const (.int .i64 (20)))], none, [], 0, [], 0, 0, []⟩,
  ⟨(some 5), .mov (.tmp 22), none, [], 0, [], 0, 0, []⟩]
def c2_3 : List SOper := [⟨(some 6), .mov (.const (.int .i64 (0))), none, [], 0, [], 0, 0, []⟩]
def c2_4 : List SOper := [⟨(some 23), .mov (.tmp 6), none, [], 0, [], 0, 0, []⟩,
  ⟨(some 24), .mov (.tmp 5), none, [], 0, [], 0, 0, []⟩,
  ⟨(some 25), .bin .lss (.tmp 23) (.tmp 24), none, [], 0, [], 0, 0, []⟩]
def c2_5 : List SOper := [⟨(some 28), .loadN 74 (.tmp 3), none, [3], 0, [], 0, 0, []⟩,
  ⟨(some 29), .mov (.tmp 0), none, [0], 1, [], 0, 0, []⟩,
  ⟨(some 30), .mov (.tmp 6), none, [6], 2, [], 0, 0, []⟩,
  ⟨(some 31), .idxS 3 (.tmp 29) (.tmp 30), none, [29, 30], 3, [1, 2], 0, 0, []⟩,
  ⟨(some 32), .fld 1 (.tmp 31), none, [31], 4, [3], 0, 0, []⟩,
  ⟨(some 33), .load1 (.tmp 32), none, [32], 5, [4], 0, 0, []⟩,
  ⟨(some 34), .bin .and (.tmp 33) (.const (.int .i64 (3))), none, [33], 6, [5], 0, 0, []⟩,
  ⟨(some 35), .mov (.tmp 0), none, [0], 7, [], 0, 0, []⟩,
  ⟨(some 36), .mov (.tmp 6), none, [6], 8, [], 0, 0, []⟩,
  ⟨(some 37), .idxS 3 (.tmp 35) (.tmp 36), none, [35, 36], 9, [7, 8], 0, 0, []⟩,
  ⟨(some 38), .fld 2 (.tmp 37), none, [37], 10, [9], 0, 0, []⟩,
  ⟨(some 39), .load1 (.tmp 38), none, [38], 11, [10], 0, 0, []⟩,
  ⟨(some 40), .mov (.tmp 6), none, [6], 12, [], 0, 0, []⟩,
  ⟨(some 41), .call 5 [(.tmp 28), (.tmp 34), (.tmp 39), (.tmp 40)], none, [28, 34, 39, 40], 13, [0, 6, 11, 12], 0, 0, []⟩]
def c2_5b : List SOper := [⟨none, .storeN 74 (.tmp 3) (.tmp 41), none, [3, 41], 14, [13, 13, 0, 1, 2, 3, 4, 5, 6, 7, 8, 9, 10, 11, 12, 13], 0, 0, [0, 5, 11]⟩]
def c2_6 : List SOper := [⟨(some 42), .loadN 74 (.tmp 4), none, [4], 0, [], 0, 0, []⟩,
  ⟨(some 43), .mov (.tmp 0), none, [0], 1, [], 0, 0, []⟩,
  ⟨(some 44), .mov (.tmp 6), none, [6], 2, [], 0, 0, []⟩,
  ⟨(some 45), .idxS 3 (.tmp 43) (.tmp 44), none, [43, 44], 3, [1, 2], 0, 0, []⟩,
  ⟨(some 46), .fld 1 (.tmp 45), none, [45], 4, [3], 0, 0, []⟩,
  ⟨(some 47), .load1 (.tmp 46), none, [46], 5, [4], 0, 0, []⟩,
  ⟨(some 48), .bin .and (.tmp 47) (.const (.int .i64 (3))), none, [47], 6, [5], 0, 0, []⟩,
  ⟨(some 49), .mov (.tmp 0), none, [0], 7, [], 0, 0, []⟩,
  ⟨(some 50), .mov (.tmp 6), none, [6], 8, [], 0, 0, []⟩,
  ⟨(some 51), .idxS 3 (.tmp 49) (.tmp 50), none, [49, 50], 9, [7, 8], 0, 0, []⟩,
  ⟨(some 52), .fld 2 (.tmp 51), none, [51], 10, [9], 0, 0, []⟩,
  ⟨(some 53), .load1 (.tmp 52), none, [52], 11, [10], 0, 0, []⟩,
  ⟨(some 54), .mov (.tmp 6), none, [6], 12, [], 0, 0, []⟩,
  ⟨(some 55), .call 5 [(.tmp 42), (.tmp 48), (.tmp 53), (.tmp 54)], none, [42, 48, 53, 54], 13, [0, 6, 11, 12], 0, 0, []⟩]
def c2_6b : List SOper := [⟨none, .storeN 74 (.tmp 4) (.tmp 55), none, [4, 55], 14, [13, 13, 0, 1, 2, 3, 4, 5, 6, 7, 8, 9, 10, 11, 12, 13], 0, 0, [0, 5, 11]⟩]
def c2_7 : List SOper := [⟨(some 26), .mov (.tmp 6), none, [], 0, [], 0, 0, []⟩,
  ⟨(some 27), .bin .add (.tmp 26) (.const (.int .i64 (1))), none, [], 0, [], 0, 0, []⟩,
  ⟨(some 6), .mov (.tmp 27), none, [], 0, [], 0, 0, []⟩]
def c2_8 : SCode := (.seq (.seq (.reg [0, 3, 4, 5, 6, 25] c2_4) (.cond (.tmp 25) .skip (.exit 0))) (.seq (.block 1 (.seq (.dreg [0, 3, 4, 5, 6] c2_5 c2_5b) (.dreg [0, 3, 4, 5, 6] c2_6 c2_6b))) (.reg [0, 3, 4, 5, 6] c2_7)))
def c2_9 : List SOper := [⟨(some 7), .mov (.const (.int .i64 (0))), none, [], 0, [], 0, 0, []⟩]
def c2_10 : List SOper := [⟨(some 56), .mov (.tmp 7), none, [], 0, [], 0, 0, []⟩,
  ⟨(some 57), .mov (.tmp 5), none, [], 0, [], 0, 0, []⟩,
  ⟨(some 58), .bin .lss (.tmp 56) (.tmp 57), none, [], 0, [], 0, 0, []⟩]
def c2_11 : List SOper := [⟨(some 62), .loadN 74 (.tmp 3), none, [], 0, [], 0, 0, []⟩,
  ⟨(some 63), .call 11 [(.tmp 62), (.const (.int .i64 (0)))], none, [], 0, [], 0, 0, []⟩,
  ⟨(some 61), .mov (.tmp 63), none, [], 0, [], 0, 0, []⟩,
  ⟨(some 64), .extr (.tmp 61) 0, none, [], 0, [], 0, 0, []⟩,
  ⟨(some 65), .extr (.tmp 61) 1, none, [], 0, [], 0, 0, []⟩,
  ⟨(some 66), .extr (.tmp 61) 2, none, [], 0, [], 0, 0, []⟩,
  ⟨(some 67), .extr (.tmp 61) 3, none, [], 0, [], 0, 0, []⟩,
  ⟨(some 8), .mov (.tmp 64), none, [], 0, [], 0, 0, []⟩,
  ⟨(some 9), .mov (.tmp 65), none, [], 0, [], 0, 0, []⟩,
  ⟨(some 10), .mov (.tmp 66), none, [], 0, [], 0, 0, []⟩,
  ⟨(some 11), .mov (.tmp 67), none, [], 0, [], 0, 0, []⟩]
def c2_12 : List SOper := [⟨(some 68), .mov (.tmp 11), none, [], 0, [], 0, 0, []⟩,
  ⟨(some 69), .un .not (.tmp 68), none, [], 0, [], 0, 0, []⟩,
  ⟨(some 70), .mov (.tmp 69), none, [], 0, [], 0, 0, []⟩,
  ⟨(some 71), .mov (.tmp 8), (some (70, false)), [], 0, [], 0, 0, []⟩,
  ⟨(some 72), .mov (.tmp 0), (some (70, false)), [], 0, [], 0, 0, []⟩,
  ⟨(some 73), .mov (.tmp 7), (some (70, false)), [], 0, [], 0, 0, []⟩,
  ⟨(some 74), .idxS 3 (.tmp 72) (.tmp 73), (some (70, false)), [], 0, [], 0, 0, []⟩,
  ⟨(some 75), .fld 1 (.tmp 74), (some (70, false)), [], 0, [], 0, 0, []⟩,
  ⟨(some 76), .load1 (.tmp 75), (some (70, false)), [], 0, [], 0, 0, []⟩,
  ⟨(some 77), .bin .and (.tmp 76) (.const (.int .i64 (3))), (some (70, false)), [], 0, [], 0, 0, []⟩,
  ⟨(some 78), .bin .neq (.tmp 71) (.tmp 77), (some (70, false)), [], 0, [], 0, 0, []⟩,
  ⟨(some 79), .pick (.tmp 70) (.const (.bool true)) (.tmp 78), none, [], 0, [], 0, 0, []⟩,
  ⟨(some 80), .mov (.tmp 79), none, [], 0, [], 0, 0, []⟩,
  ⟨(some 81), .mov (.tmp 9), (some (80, false)), [], 0, [], 0, 0, []⟩,
  ⟨(some 82), .mov (.tmp 0), (some (80, false)), [], 0, [], 0, 0, []⟩,
  ⟨(some 83), .mov (.tmp 7), (some (80, false)), [], 0, [], 0, 0, []⟩,
  ⟨(some 84), .idxS 3 (.tmp 82) (.tmp 83), (some (80, false)), [], 0, [], 0, 0, []⟩,
  ⟨(some 85), .fld 2 (.tmp 84), (some (80, false)), [], 0, [], 0, 0, []⟩,
  ⟨(some 86), .load1 (.tmp 85), (some (80, false)), [], 0, [], 0, 0, []⟩,
  ⟨(some 87), .bin .neq (.tmp 81) (.tmp 86), (some (80, false)), [], 0, [], 0, 0, []⟩,
  ⟨(some 88), .pick (.tmp 80) (.const (.bool true)) (.tmp 87), none, [], 0, [], 0, 0, []⟩,
  ⟨(some 89), .mov (.tmp 88), none, [], 0, [], 0, 0, []⟩,
  ⟨(some 90), .mov (.tmp 10), (some (89, false)), [], 0, [], 0, 0, []⟩,
  ⟨(some 91), .mov (.tmp 7), (some (89, false)), [], 0, [], 0, 0, []⟩,
  ⟨(some 92), .bin .neq (.tmp 90) (.tmp 91), (some (89, false)), [], 0, [], 0, 0, []⟩,
  ⟨(some 93), .pick (.tmp 89) (.const (.bool true)) (.tmp 92), none, [], 0, [], 0, 0, []⟩]
def c2_13 : List SOper := [⟨(some 2), .mov (.const (.bool false)), none, [], 0, [], 0, 0, []⟩]
def c2_14 : List SOper := [⟨(some 94), .loadN 74 (.tmp 3), none, [], 0, [], 0, 0, []⟩,
  ⟨(some 95), .call 10 [(.tmp 94), (.const (.int .i64 (0)))], none, [], 0, [], 0, 0, []⟩,
  ⟨none, .storeN 74 (.tmp 3) (.tmp 95), none, [], 0, [], 0, 0, []⟩]
def c2_15 : List SOper := [⟨(some 59), .mov (.tmp 7), none, [], 0, [], 0, 0, []⟩,
  ⟨(some 60), .bin .add (.tmp 59) (.const (.int .i64 (1))), none, [], 0, [], 0, 0, []⟩,
  ⟨(some 7), .mov (.tmp 60), none, [], 0, [], 0, 0, []⟩]
def c2_16 : SCode := (.seq (.seq (.reg [0, 3, 4, 5, 7, 58] c2_10) (.cond (.tmp 58) .skip (.exit 2))) (.seq (.block 3 (.seq (.reg [0, 3, 4, 5, 7, 8, 9, 10, 11] c2_11) (.seq (.seq (.reg [0, 3, 4, 5, 7, 93] c2_12) (.cond (.tmp 93) (.seq (.reg [2] c2_13) .ret) .skip)) (.reg [0, 3, 4, 5, 7] c2_14)))) (.reg [0, 3, 4, 5, 7] c2_15)))
def c2_17 : List SOper := [⟨(some 12), .mov (.const (.int .i64 (0))), none, [], 0, [], 0, 0, []⟩]
def c2_18 : List SOper := [⟨(some 96), .mov (.tmp 12), none, [], 0, [], 0, 0, []⟩,
  ⟨(some 97), .bin .lss (.tmp 96) (.const (.int .i64 (4))), none, [], 0, [], 0, 0, []⟩]
def c2_19 : List SOper := [⟨(some 13), .mov (.const (.int .i64 (0))), none, [], 0, [], 0, 0, []⟩]
def c2_20 : List SOper := [⟨(some 100), .mov (.tmp 13), none, [], 0, [], 0, 0, []⟩,
  ⟨(some 101), .mov (.tmp 5), none, [], 0, [], 0, 0, []⟩,
  ⟨(some 102), .bin .lss (.tmp 100) (.tmp 101), none, [], 0, [], 0, 0, []⟩]
def c2_21 : List SOper := [⟨(some 105), .mov (.tmp 0), none, [], 0, [], 0, 0, []⟩,
  ⟨(some 106), .mov (.tmp 13), none, [], 0, [], 0, 0, []⟩,
  ⟨(some 107), .idxS 3 (.tmp 105) (.tmp 106), none, [], 0, [], 0, 0, []⟩,
  ⟨(some 108), .fld 1 (.tmp 107), none, [], 0, [], 0, 0, []⟩,
  ⟨(some 109), .load1 (.tmp 108), none, [], 0, [], 0, 0, []⟩,
  ⟨(some 110), .bin .and (.tmp 109) (.const (.int .i64 (3))), none, [], 0, [], 0, 0, []⟩,
  ⟨(some 111), .mov (.tmp 12), none, [], 0, [], 0, 0, []⟩,
  ⟨(some 112), .bin .neq (.tmp 110) (.tmp 111), none, [], 0, [], 0, 0, []⟩]
def c2_22 : List SOper := [⟨(some 114), .loadN 74 (.tmp 4), none, [], 0, [], 0, 0, []⟩,
  ⟨(some 115), .mov (.tmp 12), none, [], 0, [], 0, 0, []⟩,
  ⟨(some 116), .call 11 [(.tmp 114), (.tmp 115)], none, [], 0, [], 0, 0, []⟩,
  ⟨(some 113), .mov (.tmp 116), none, [], 0, [], 0, 0, []⟩,
  ⟨(some 117), .extr (.tmp 113) 0, none, [], 0, [], 0, 0, []⟩,
  ⟨(some 118), .extr (.tmp 113) 1, none, [], 0, [], 0, 0, []⟩,
  ⟨(some 119), .extr (.tmp 113) 2, none, [], 0, [], 0, 0, []⟩,
  ⟨(some 120), .extr (.tmp 113) 3, none, [], 0, [], 0, 0, []⟩,
  ⟨(some 14), .mov (.tmp 117), none, [], 0, [], 0, 0, []⟩,
  ⟨(some 15), .mov (.tmp 118), none, [], 0, [], 0, 0, []⟩,
  ⟨(some 16), .mov (.tmp 119), none, [], 0, [], 0, 0, []⟩,
  ⟨(some 17), .mov (.tmp 120), none, [], 0, [], 0, 0, []⟩]
def c2_23 : List SOper := [⟨(some 121), .mov (.tmp 17), none, [], 0, [], 0, 0, []⟩,
  ⟨(some 122), .un .not (.tmp 121), none, [], 0, [], 0, 0, []⟩,
  ⟨(some 123), .mov (.tmp 122), none, [], 0, [], 0, 0, []⟩,
  ⟨(some 124), .mov (.tmp 14), (some (123, false)), [], 0, [], 0, 0, []⟩,
  ⟨(some 125), .mov (.tmp 12), (some (123, false)), [], 0, [], 0, 0, []⟩,
  ⟨(some 126), .bin .neq (.tmp 124) (.tmp 125), (some (123, false)), [], 0, [], 0, 0, []⟩,
  ⟨(some 127), .pick (.tmp 123) (.const (.bool true)) (.tmp 126), none, [], 0, [], 0, 0, []⟩,
  ⟨(some 128), .mov (.tmp 127), none, [], 0, [], 0, 0, []⟩,
  ⟨(some 129), .mov (.tmp 15), (some (128, false)), [], 0, [], 0, 0, []⟩,
  ⟨(some 130), .mov (.tmp 0), (some (128, false)), [], 0, [], 0, 0, []⟩,
  ⟨(some 131), .mov (.tmp 13), (some (128, false)), [], 0, [], 0, 0, []⟩,
  ⟨(some 132), .idxS 3 (.tmp 130) (.tmp 131), (some (128, false)), [], 0, [], 0, 0, []⟩,
  ⟨(some 133), .fld 2 (.tmp 132), (some (128, false)), [], 0, [], 0, 0, []⟩,
  ⟨(some 134), .load1 (.tmp 133), (some (128, false)), [], 0, [], 0, 0, []⟩,
  ⟨(some 135), .bin .neq (.tmp 129) (.tmp 134), (some (128, false)), [], 0, [], 0, 0, []⟩,
  ⟨(some 136), .pick (.tmp 128) (.const (.bool true)) (.tmp 135), none, [], 0, [], 0, 0, []⟩,
  ⟨(some 137), .mov (.tmp 136), none, [], 0, [], 0, 0, []⟩,
  ⟨(some 138), .mov (.tmp 16), (some (137, false)), [], 0, [], 0, 0, []⟩,
  ⟨(some 139), .mov (.tmp 13), (some (137, false)), [], 0, [], 0, 0, []⟩,
  ⟨(some 140), .bin .neq (.tmp 138) (.tmp 139), (some (137, false)), [], 0, [], 0, 0, []⟩,
  ⟨(some 141), .pick (.tmp 137) (.const (.bool true)) (.tmp 140), none, [], 0, [], 0, 0, []⟩]
def c2_24 : List SOper := [⟨(some 2), .mov (.const (.bool false)), none, [], 0, [], 0, 0, []⟩]
def c2_25 : List SOper := [⟨(some 142), .loadN 74 (.tmp 4), none, [], 0, [], 0, 0, []⟩,
  ⟨(some 143), .mov (.tmp 12), none, [], 0, [], 0, 0, []⟩,
  ⟨(some 144), .call 10 [(.tmp 142), (.tmp 143)], none, [], 0, [], 0, 0, []⟩,
  ⟨none, .storeN 74 (.tmp 4) (.tmp 144), none, [], 0, [], 0, 0, []⟩]
def c2_26 : List SOper := [⟨(some 103), .mov (.tmp 13), none, [], 0, [], 0, 0, []⟩,
  ⟨(some 104), .bin .add (.tmp 103) (.const (.int .i64 (1))), none, [], 0, [], 0, 0, []⟩,
  ⟨(some 13), .mov (.tmp 104), none, [], 0, [], 0, 0, []⟩]
def c2_27 : SCode := (.seq (.seq (.reg [0, 3, 4, 5, 12, 13, 102] c2_20) (.cond (.tmp 102) .skip (.exit 6))) (.seq (.block 7 (.seq (.seq (.reg [0, 3, 4, 5, 12, 13, 112] c2_21) (.cond (.tmp 112) (.exit 7) .skip)) (.seq (.reg [0, 3, 4, 5, 12, 13, 14, 15, 16, 17] c2_22) (.seq (.seq (.reg [0, 3, 4, 5, 12, 13, 141] c2_23) (.cond (.tmp 141) (.seq (.reg [2] c2_24) .ret) .skip)) (.reg [0, 3, 4, 5, 12, 13] c2_25))))) (.reg [0, 3, 4, 5, 12, 13] c2_26)))
def c2_28 : List SOper := [⟨(some 98), .mov (.tmp 12), none, [], 0, [], 0, 0, []⟩,
  ⟨(some 99), .bin .add (.tmp 98) (.const (.int .i64 (1))), none, [], 0, [], 0, 0, []⟩,
  ⟨(some 12), .mov (.tmp 99), none, [], 0, [], 0, 0, []⟩]
def c2_29 : SCode := (.seq (.seq (.reg [0, 3, 4, 5, 12, 97] c2_18) (.cond (.tmp 97) .skip (.exit 4))) (.seq (.block 5 (.seq (.reg [0, 3, 4, 5, 12, 13] c2_19) (.block 6 (.loop [0, 3, 4, 5, 12, 13] c2_27)))) (.reg [0, 3, 4, 5, 12] c2_28)))
def c2_30 : List SOper := [⟨(some 145), .loadN 74 (.tmp 3), none, [], 0, [], 0, 0, []⟩,
  ⟨(some 146), .call 8 [(.tmp 145)], none, [], 0, [], 0, 0, []⟩,
  ⟨(some 147), .mov (.tmp 146), none, [], 0, [], 0, 0, []⟩,
  ⟨(some 148), .loadN 74 (.tmp 4), (some (147, true)), [], 0, [], 0, 0, []⟩,
  ⟨(some 149), .call 8 [(.tmp 148)], (some (147, true)), [], 0, [], 0, 0, []⟩,
  ⟨(some 150), .pick (.tmp 147) (.tmp 149) (.const (.bool false)), none, [], 0, [], 0, 0, []⟩,
  ⟨(some 151), .mov (.tmp 150), none, [], 0, [], 0, 0, []⟩,
  ⟨(some 152), .loadN 74 (.tmp 3), (some (151, true)), [], 0, [], 0, 0, []⟩,
  ⟨(some 153), .call 10 [(.tmp 152), (.const (.int .i64 (0)))], (some (151, true)), [], 0, [], 0, 0, []⟩,
  ⟨(some 154), .call 8 [(.tmp 153)], (some (151, true)), [], 0, [], 0, 0, []⟩,
  ⟨(some 155), .pick (.tmp 151) (.tmp 154) (.const (.bool false)), none, [], 0, [], 0, 0, []⟩,
  ⟨(some 156), .mov (.tmp 155), none, [], 0, [], 0, 0, []⟩,
  ⟨(some 157), .call 9 [], (some (156, true)), [], 0, [], 0, 0, []⟩,
  ⟨(some 158), .pick (.tmp 156) (.tmp 157) (.const (.bool false)), none, [], 0, [], 0, 0, []⟩,
  ⟨(some 2), .mov (.tmp 158), none, [], 0, [], 0, 0, []⟩]
def c2_body : SCode := (.seq (.reg [0] c2_0) (.seq (.reg [0, 3, 4] c2_1) (.seq (.reg [0, 3, 4, 5] c2_2) (.seq (.seq (.reg [0, 3, 4, 5, 6] c2_3) (.block 0 (.loop [0, 3, 4, 5, 6] c2_8))) (.seq (.seq (.reg [0, 3, 4, 5, 7] c2_9) (.block 2 (.loop [0, 3, 4, 5, 7] c2_16))) (.seq (.seq (.reg [0, 3, 4, 5, 12] c2_17) (.block 4 (.loop [0, 3, 4, 5, 12] c2_29))) (.seq (.reg [2] c2_30) .ret)))))))
def c2 : SFunc := ⟨1, 159, c2_body, [.tmp 2]⟩

/- jacquard/jacquardlaw15.BufPlays -/
def c3_0 : List SOper := [⟨(some 6), .mov (.const (.bool false)), none, [], 0, [], 0, 0, []⟩]
def c3_1 : List SOper := [⟨(some 14), .mov (.tmp 0), none, [], 0, [], 0, 0, []⟩,
  ⟨(some 15), .call 4 [(.tmp 14)], none, [], 0, [], 0, 0, []⟩,
  ⟨(some 7), .alloc (zi 74), none, [], 0, [], 0, 0, []⟩,
  ⟨none, .storeN 74 (.tmp 7) (.tmp 15), none, [], 0, [], 0, 0, []⟩]
def c3_2 : List SOper := [⟨(some 8), .mov (.const (.slice none 0 0)), none, [], 0, [], 0, 0, []⟩]
def c3_3 : List SOper := [⟨(some 9), .mov (.const (.int .i64 (0))), none, [], 0, [], 0, 0, []⟩]
def c3_4 : List SOper := [⟨(some 16), .mov (.tmp 9), none, [], 0, [], 0, 0, []⟩,
  ⟨(some 17), .mov (.tmp 1), none, [], 0, [], 0, 0, []⟩,
  ⟨(some 18), .lenS (.tmp 17), none, [], 0, [], 0, 0, []⟩,
  ⟨(some 19), .bin .lss (.tmp 16) (.tmp 18), none, [], 0, [], 0, 0, []⟩,
  ⟨(some 20), .mov (.tmp 19), none, [], 0, [], 0, 0, []⟩,
  ⟨(some 21), .mov (.tmp 9), (some (20, true)), [], 0, [], 0, 0, []⟩,
  ⟨(some 22), .bin .lss (.tmp 21) (.const (.int .i64 (60))), (some (20, true)), [], 0, [], 0, 0, []⟩,
  ⟨(some 23), .pick (.tmp 20) (.tmp 22) (.const (.bool false)), none, [], 0, [], 0, 0, []⟩]
def c3_5 : List SOper := [⟨(some 26), .mov (.tmp 1), none, [], 0, [], 0, 0, []⟩,
  ⟨(some 27), .mov (.tmp 9), none, [], 0, [], 0, 0, []⟩,
  ⟨(some 28), .idxS 3 (.tmp 26) (.tmp 27), none, [], 0, [], 0, 0, []⟩,
  ⟨(some 29), .loadN 3 (.tmp 28), none, [], 0, [], 0, 0, []⟩,
  ⟨(some 10), .alloc [(.int .i64 (0)), (.int .i64 (0)), (.int .i64 (0))], none, [], 0, [], 0, 0, []⟩,
  ⟨none, .storeN 3 (.tmp 10) (.tmp 29), none, [], 0, [], 0, 0, []⟩]
def c3_6 : List SOper := [⟨(some 30), .loadN 74 (.tmp 7), none, [], 0, [], 0, 0, []⟩,
  ⟨(some 11), .alloc (zi 74), none, [], 0, [], 0, 0, []⟩,
  ⟨none, .storeN 74 (.tmp 11) (.tmp 30), none, [], 0, [], 0, 0, []⟩]
def c3_7 : List SOper := [⟨(some 31), .fld 0 (.tmp 10), none, [], 0, [], 0, 0, []⟩,
  ⟨(some 32), .load1 (.tmp 31), none, [], 0, [], 0, 0, []⟩,
  ⟨(some 33), .bin .eql (.tmp 32) (.const (.int .i64 (0))), none, [], 0, [], 0, 0, []⟩]
def c3_8 : List SOper := [⟨(some 34), .loadN 74 (.tmp 7), none, [], 0, [], 0, 0, []⟩,
  ⟨(some 35), .fld 1 (.tmp 10), none, [], 0, [], 0, 0, []⟩,
  ⟨(some 36), .load1 (.tmp 35), none, [], 0, [], 0, 0, []⟩,
  ⟨(some 37), .fld 2 (.tmp 10), none, [], 0, [], 0, 0, []⟩,
  ⟨(some 38), .load1 (.tmp 37), none, [], 0, [], 0, 0, []⟩,
  ⟨(some 39), .mov (.tmp 9), none, [], 0, [], 0, 0, []⟩,
  ⟨(some 40), .call 5 [(.tmp 34), (.tmp 36), (.tmp 38), (.tmp 39)], none, [], 0, [], 0, 0, []⟩,
  ⟨none, .storeN 74 (.tmp 7) (.tmp 40), none, [], 0, [], 0, 0, []⟩]
def c3_9 : List SOper := [⟨(some 41), .mov (.tmp 0), none, [], 0, [], 0, 0, []⟩,
  ⟨(some 42), .bin .eql (.tmp 41) (.const (.int .i64 (2))), none, [], 0, [], 0, 0, []⟩,
  ⟨(some 43), .mov (.tmp 42), none, [], 0, [], 0, 0, []⟩,
  ⟨(some 44), .mov (.tmp 0), (some (43, false)), [], 0, [], 0, 0, []⟩,
  ⟨(some 45), .bin .eql (.tmp 44) (.const (.int .i64 (3))), (some (43, false)), [], 0, [], 0, 0, []⟩,
  ⟨(some 46), .pick (.tmp 43) (.const (.bool true)) (.tmp 45), none, [], 0, [], 0, 0, []⟩,
  ⟨(some 47), .mov (.tmp 46), none, [], 0, [], 0, 0, []⟩,
  ⟨(some 48), .fld 1 (.tmp 10), (some (47, true)), [], 0, [], 0, 0, []⟩,
  ⟨(some 49), .load1 (.tmp 48), (some (47, true)), [], 0, [], 0, 0, []⟩,
  ⟨(some 50), .bin .geq (.tmp 49) (.const (.int .i64 (0))), (some (47, true)), [], 0, [], 0, 0, []⟩,
  ⟨(some 51), .pick (.tmp 47) (.tmp 50) (.const (.bool false)), none, [], 0, [], 0, 0, []⟩,
  ⟨(some 52), .mov (.tmp 51), none, [], 0, [], 0, 0, []⟩,
  ⟨(some 53), .fld 1 (.tmp 10), (some (52, true)), [], 0, [], 0, 0, []⟩,
  ⟨(some 54), .load1 (.tmp 53), (some (52, true)), [], 0, [], 0, 0, []⟩,
  ⟨(some 55), .bin .leq (.tmp 54) (.const (.int .i64 (3))), (some (52, true)), [], 0, [], 0, 0, []⟩,
  ⟨(some 56), .pick (.tmp 52) (.tmp 55) (.const (.bool false)), none, [], 0, [], 0, 0, []⟩,
  ⟨(some 57), .mov (.tmp 56), none, [], 0, [], 0, 0, []⟩,
  ⟨(some 58), .mov (.tmp 8), (some (57, true)), [], 0, [], 0, 0, []⟩,
  ⟨(some 59), .lenS (.tmp 58), (some (57, true)), [], 0, [], 0, 0, []⟩,
  ⟨(some 60), .bin .lss (.tmp 59) (.const (.int .i64 (24))), (some (57, true)), [], 0, [], 0, 0, []⟩,
  ⟨(some 61), .pick (.tmp 57) (.tmp 60) (.const (.bool false)), none, [], 0, [], 0, 0, []⟩]
def c3_10 : List SOper := [⟨(some 62), .mkslice 0 [] [], none, [], 0, [], 0, 0, []⟩,
  ⟨(some 63), .mov (.tmp 8), none, [8], 1, [], 0, 0, []⟩,
  ⟨(some 65), .fld 1 (.tmp 10), none, [10], 3, [], 0, 0, []⟩,
  ⟨(some 66), .load1 (.tmp 65), none, [65], 4, [3], 0, 1, []⟩,
  ⟨(some 67), .fld 2 (.tmp 10), none, [10], 5, [], 0, 0, []⟩,
  ⟨(some 68), .load1 (.tmp 67), none, [67], 6, [5], 0, 1, []⟩,
  ⟨(some 69), .mov (.tmp 9), none, [9], 7, [], 0, 0, []⟩,
  ⟨(some 70), .build [(.int .i64 (0)), (.int .i64 (0)), (.int .i64 (0))] [(0, 1, (.tmp 66)), (1, 1, (.tmp 68)), (2, 1, (.tmp 69))], none, [66, 68, 69], 8, [4, 6, 7], 0, 0, []⟩,
  ⟨(some 71), .mkslice 1 [(.int .i64 (0)), (.int .i64 (0)), (.int .i64 (0))] [(0, 3, (.tmp 70))], none, [70], 9, [8], 0, 0, []⟩,
  ⟨(some 64), .append 3 24 (.tmp 62) (.tmp 63), none, [62, 63], 2, [0, 1], 0, 0, [0]⟩,
  ⟨(some 72), .append 3 24 (.tmp 64) (.tmp 71), none, [64, 71], 10, [2, 9, 2], 0, 0, [0, 9]⟩,
  ⟨(some 8), .mov (.tmp 72), none, [72], 11, [10, 10, 0, 1, 2, 3, 4, 5, 6, 7, 8, 9, 10], 0, 0, []⟩]
def c3_10b : List SOper := []
def c3_11 : List SOper := [⟨(some 73), .loadN 74 (.tmp 7), none, [], 0, [], 0, 0, []⟩,
  ⟨(some 74), .fld 1 (.tmp 10), none, [], 0, [], 0, 0, []⟩,
  ⟨(some 75), .load1 (.tmp 74), none, [], 0, [], 0, 0, []⟩,
  ⟨(some 76), .call 10 [(.tmp 73), (.tmp 75)], none, [], 0, [], 0, 0, []⟩,
  ⟨none, .storeN 74 (.tmp 7) (.tmp 76), none, [], 0, [], 0, 0, []⟩]
def c3_12 : List SOper := [⟨(some 77), .mov (.tmp 8), none, [], 0, [], 0, 0, []⟩,
  ⟨(some 78), .mov (.tmp 0), none, [], 0, [], 0, 0, []⟩,
  ⟨(some 79), .fld 1 (.tmp 10), none, [], 0, [], 0, 0, []⟩,
  ⟨(some 80), .load1 (.tmp 79), none, [], 0, [], 0, 0, []⟩,
  ⟨(some 81), .call 12 [(.tmp 77), (.tmp 78), (.tmp 80)], none, [], 0, [], 0, 0, []⟩,
  ⟨(some 12), .mov (.tmp 81), none, [], 0, [], 0, 0, []⟩]
def c3_13 : List SOper := [⟨(some 82), .mov (.tmp 12), none, [], 0, [], 0, 0, []⟩,
  ⟨(some 83), .bin .geq (.tmp 82) (.const (.int .i64 (0))), none, [], 0, [], 0, 0, []⟩]
def c3_14 : List SOper := [⟨(some 84), .mkslice 0 [] [], none, [], 0, [], 0, 0, []⟩,
  ⟨(some 85), .mov (.tmp 8), none, [8], 1, [], 0, 0, []⟩,
  ⟨(some 86), .mov (.tmp 12), none, [12], 2, [], 0, 0, []⟩,
  ⟨(some 87), .slsl 3 (.tmp 85) none (some (.tmp 86)) none, none, [85, 86], 3, [1, 2], 0, 0, []⟩,
  ⟨(some 89), .mov (.tmp 8), none, [8], 5, [], 0, 0, []⟩,
  ⟨(some 90), .mov (.tmp 12), none, [12], 6, [], 0, 0, []⟩,
  ⟨(some 91), .bin .add (.tmp 90) (.const (.int .i64 (1))), none, [90], 7, [6], 0, 0, []⟩,
  ⟨(some 92), .slsl 3 (.tmp 89) (some (.tmp 91)) none none, none, [89, 91], 8, [5, 7], 0, 0, []⟩,
  ⟨(some 88), .append 3 24 (.tmp 84) (.tmp 87), none, [84, 87], 4, [0, 3], 0, 0, [0]⟩,
  ⟨(some 93), .append 3 24 (.tmp 88) (.tmp 92), none, [88, 92], 9, [4, 8, 4], 0, 0, [0]⟩,
  ⟨(some 8), .mov (.tmp 93), none, [93], 10, [9, 9, 0, 1, 2, 3, 4, 5, 6, 7, 8, 9], 0, 0, []⟩]
def c3_14b : List SOper := []
def c3_15 : List SOper := [⟨(some 94), .loadN 74 (.tmp 11), none, [], 0, [], 0, 0, []⟩,
  ⟨(some 95), .call 6 [(.tmp 94)], none, [], 0, [], 0, 0, []⟩,
  ⟨(some 96), .mov (.tmp 8), none, [], 0, [], 0, 0, []⟩,
  ⟨(some 97), .lenS (.tmp 96), none, [], 0, [], 0, 0, []⟩,
  ⟨(some 98), .bin .neq (.tmp 95) (.tmp 97), none, [], 0, [], 0, 0, []⟩,
  ⟨(some 99), .mov (.tmp 98), none, [], 0, [], 0, 0, []⟩,
  ⟨(some 100), .loadN 74 (.tmp 7), (some (99, true)), [], 0, [], 0, 0, []⟩,
  ⟨(some 101), .loadN 74 (.tmp 11), (some (99, true)), [], 0, [], 0, 0, []⟩,
  ⟨(some 102), .eqN false (zk 74) (.tmp 100) (.tmp 101), (some (99, true)), [], 0, [], 0, 0, []⟩,
  ⟨(some 103), .pick (.tmp 99) (.tmp 102) (.const (.bool false)), none, [], 0, [], 0, 0, []⟩]
def c3_16 : List SOper := [⟨(some 6), .mov (.const (.bool false)), none, [], 0, [], 0, 0, []⟩]
def c3_17 : List SOper := [⟨(some 13), .mov (.const (.int .i64 (-1))), none, [], 0, [], 0, 0, []⟩]
def c3_18 : List SOper := [⟨(some 104), .mov (.tmp 13), none, [], 0, [], 0, 0, []⟩,
  ⟨(some 105), .bin .leq (.tmp 104) (.const (.int .i64 (4))), none, [], 0, [], 0, 0, []⟩]
def c3_19 : List SOper := [⟨(some 108), .loadN 74 (.tmp 7), none, [], 0, [], 0, 0, []⟩,
  ⟨(some 109), .mov (.tmp 8), none, [], 0, [], 0, 0, []⟩,
  ⟨(some 110), .mov (.tmp 0), none, [], 0, [], 0, 0, []⟩,
  ⟨(some 111), .mov (.tmp 13), none, [], 0, [], 0, 0, []⟩,
  ⟨(some 112), .call 13 [(.tmp 108), (.tmp 109), (.tmp 110), (.tmp 111)], none, [], 0, [], 0, 0, []⟩,
  ⟨(some 113), .un .not (.tmp 112), none, [], 0, [], 0, 0, []⟩]
def c3_20 : List SOper := [⟨(some 6), .mov (.const (.bool false)), none, [], 0, [], 0, 0, []⟩]
def c3_21 : List SOper := [⟨(some 106), .mov (.tmp 13), none, [], 0, [], 0, 0, []⟩,
  ⟨(some 107), .bin .add (.tmp 106) (.const (.int .i64 (1))), none, [], 0, [], 0, 0, []⟩,
  ⟨(some 13), .mov (.tmp 107), none, [], 0, [], 0, 0, []⟩]
def c3_22 : SCode := (.seq (.seq (.reg [0, 1, 2, 7, 8, 9, 13, 105] c3_18) (.cond (.tmp 105) .skip (.exit 2))) (.seq (.block 3 (.seq (.reg [0, 1, 2, 7, 8, 9, 13, 113] c3_19) (.cond (.tmp 113) (.seq (.reg [6] c3_20) .ret) .skip))) (.reg [0, 1, 2, 7, 8, 9, 13] c3_21)))
def c3_23 : List SOper := [⟨(some 24), .mov (.tmp 9), none, [], 0, [], 0, 0, []⟩,
  ⟨(some 25), .bin .add (.tmp 24) (.const (.int .i64 (1))), none, [], 0, [], 0, 0, []⟩,
  ⟨(some 9), .mov (.tmp 25), none, [], 0, [], 0, 0, []⟩]
def c3_24 : SCode := (.seq (.seq (.reg [0, 1, 2, 7, 8, 9, 23] c3_4) (.cond (.tmp 23) .skip (.exit 0))) (.seq (.block 1 (.seq (.reg [0, 1, 2, 7, 8, 9, 10] c3_5) (.seq (.reg [0, 1, 2, 7, 8, 9, 10, 11] c3_6) (.seq (.seq (.reg [0, 1, 2, 7, 8, 9, 10, 11, 33] c3_7) (.cond (.tmp 33) (.seq (.reg [0, 1, 2, 7, 8, 9, 10, 11] c3_8) (.seq (.reg [0, 1, 2, 7, 8, 9, 10, 11, 61] c3_9) (.cond (.tmp 61) (.dreg [0, 1, 2, 7, 8, 9, 11] c3_10 c3_10b) .skip))) (.seq (.reg [0, 1, 2, 7, 8, 9, 10, 11] c3_11) (.seq (.reg [0, 1, 2, 7, 8, 9, 11, 12] c3_12) (.seq (.reg [0, 1, 2, 7, 8, 9, 11, 12, 83] c3_13) (.cond (.tmp 83) (.dreg [0, 1, 2, 7, 8, 9, 11] c3_14 c3_14b) .skip)))))) (.seq (.seq (.reg [0, 1, 2, 7, 8, 9, 103] c3_15) (.cond (.tmp 103) (.seq (.reg [6] c3_16) .ret) .skip)) (.seq (.reg [0, 1, 2, 7, 8, 9, 13] c3_17) (.block 2 (.loop [0, 1, 2, 7, 8, 9, 13] c3_22)))))))) (.reg [0, 1, 2, 7, 8, 9] c3_23)))
def c3_25 : List SOper := [⟨(some 114), .loadN 74 (.tmp 7), none, [], 0, [], 0, 0, []⟩,
  ⟨(some 115), .mov (.tmp 8), none, [], 0, [], 0, 0, []⟩,
  ⟨(some 116), .mov (.tmp 0), none, [], 0, [], 0, 0, []⟩,
  ⟨(some 117), .mov (.tmp 2), none, [], 0, [], 0, 0, []⟩,
  ⟨(some 118), .call 13 [(.tmp 114), (.tmp 115), (.tmp 116), (.tmp 117)], none, [], 0, [], 0, 0, []⟩,
  ⟨(some 119), .mov (.tmp 118), none, [], 0, [], 0, 0, []⟩,
  ⟨(some 120), .loadN 74 (.tmp 7), (some (119, true)), [], 0, [], 0, 0, []⟩,
  ⟨(some 121), .call 6 [(.tmp 120)], (some (119, true)), [], 0, [], 0, 0, []⟩,
  ⟨(some 122), .mov (.tmp 8), (some (119, true)), [], 0, [], 0, 0, []⟩,
  ⟨(some 123), .lenS (.tmp 122), (some (119, true)), [], 0, [], 0, 0, []⟩,
  ⟨(some 124), .bin .eql (.tmp 121) (.tmp 123), (some (119, true)), [], 0, [], 0, 0, []⟩,
  ⟨(some 125), .pick (.tmp 119) (.tmp 124) (.const (.bool false)), none, [], 0, [], 0, 0, []⟩,
  ⟨(some 126), .mov (.tmp 125), none, [], 0, [], 0, 0, []⟩,
  ⟨(some 127), .loadN 74 (.tmp 7), (some (126, true)), [], 0, [], 0, 0, []⟩,
  ⟨(some 128), .call 8 [(.tmp 127)], (some (126, true)), [], 0, [], 0, 0, []⟩,
  ⟨(some 129), .mov (.tmp 8), (some (126, true)), [], 0, [], 0, 0, []⟩,
  ⟨(some 130), .lenS (.tmp 129), (some (126, true)), [], 0, [], 0, 0, []⟩,
  ⟨(some 131), .bin .eql (.tmp 130) (.const (.int .i64 (0))), (some (126, true)), [], 0, [], 0, 0, []⟩,
  ⟨(some 132), .eqB false (.tmp 128) (.tmp 131), (some (126, true)), [], 0, [], 0, 0, []⟩,
  ⟨(some 133), .pick (.tmp 126) (.tmp 132) (.const (.bool false)), none, [], 0, [], 0, 0, []⟩,
  ⟨(some 134), .mov (.tmp 133), none, [], 0, [], 0, 0, []⟩,
  ⟨(some 135), .call 9 [], (some (134, true)), [], 0, [], 0, 0, []⟩,
  ⟨(some 136), .pick (.tmp 134) (.tmp 135) (.const (.bool false)), none, [], 0, [], 0, 0, []⟩,
  ⟨(some 6), .mov (.tmp 136), none, [], 0, [], 0, 0, []⟩]
def c3_body : SCode := (.seq (.reg [0, 1, 2] c3_0) (.seq (.reg [0, 1, 2, 7] c3_1) (.seq (.reg [0, 1, 2, 7, 8] c3_2) (.seq (.seq (.reg [0, 1, 2, 7, 8, 9] c3_3) (.block 0 (.loop [0, 1, 2, 7, 8, 9] c3_24))) (.seq (.reg [6] c3_25) .ret)))))
def c3 : SFunc := ⟨3, 137, c3_body, [.tmp 6]⟩

/- jacquard/buf.New -/
def c4_0 : List SOper := [⟨(some 2), .alloc (zi 74), none, [], 0, [], 0, 0, []⟩]
def c4_1 : List SOper := [⟨(some 3), .mov (.tmp 0), none, [], 0, [], 0, 0, []⟩,
  ⟨(some 4), .bin .neq (.tmp 3) (.const (.int .i64 (2))), none, [], 0, [], 0, 0, []⟩,
  ⟨(some 5), .mov (.tmp 4), none, [], 0, [], 0, 0, []⟩,
  ⟨(some 6), .mov (.tmp 0), (some (5, true)), [], 0, [], 0, 0, []⟩,
  ⟨(some 7), .bin .neq (.tmp 6) (.const (.int .i64 (3))), (some (5, true)), [], 0, [], 0, 0, []⟩,
  ⟨(some 8), .pick (.tmp 5) (.tmp 7) (.const (.bool false)), none, [], 0, [], 0, 0, []⟩]
def c4_2 : List SOper := [⟨(some 0), .mov (.const (.int .i64 (0))), none, [], 0, [], 0, 0, []⟩]
def c4_3 : List SOper := [⟨(some 9), .mov (.tmp 0), none, [], 0, [], 0, 0, []⟩,
  ⟨(some 10), .build (zi 74) [(0, 1, (.tmp 9))], none, [], 0, [], 0, 0, []⟩,
  ⟨none, .storeN 74 (.tmp 2) (.tmp 10), none, [], 0, [], 0, 0, []⟩]
def c4_body : SCode := (.seq (.reg [0, 2] c4_0) (.seq (.seq (.reg [0, 2, 8] c4_1) (.cond (.tmp 8) (.reg [0, 2] c4_2) .skip)) (.seq (.reg [2] c4_3) .ret)))
def c4 : SFunc := ⟨1, 11, c4_body, [.cellN 2 74]⟩

/- (jacquard/buf.Buf).Put -/
def c5_0 : List SOper := [⟨(some 4), .box (.tmp 0), none, [], 0, [], 0, 0, []⟩,
  ⟨(some 8), .alloc (zi 74), none, [], 0, [], 0, 0, []⟩]
def c5_1 : List SOper := [⟨(some 9), .fld 0 (.tmp 4), none, [], 0, [], 0, 0, []⟩,
  ⟨(some 10), .load1 (.tmp 9), none, [], 0, [], 0, 0, []⟩,
  ⟨(some 11), .bin .eql (.tmp 10) (.const (.int .i64 (0))), none, [], 0, [], 0, 0, []⟩,
  ⟨(some 12), .mov (.tmp 11), none, [], 0, [], 0, 0, []⟩,
  ⟨(some 13), .mov (.tmp 1), (some (12, false)), [], 0, [], 0, 0, []⟩,
  ⟨(some 14), .bin .lss (.tmp 13) (.const (.int .i64 (0))), (some (12, false)), [], 0, [], 0, 0, []⟩,
  ⟨(some 15), .pick (.tmp 12) (.const (.bool true)) (.tmp 14), none, [], 0, [], 0, 0, []⟩,
  ⟨(some 16), .mov (.tmp 15), none, [], 0, [], 0, 0, []⟩,
  ⟨(some 17), .mov (.tmp 1), (some (16, false)), [], 0, [], 0, 0, []⟩,
  ⟨(some 18), .bin .geq (.tmp 17) (.const (.int .i64 (4))), (some (16, false)), [], 0, [], 0, 0, []⟩,
  ⟨(some 19), .pick (.tmp 16) (.const (.bool true)) (.tmp 18), none, [], 0, [], 0, 0, []⟩,
  ⟨(some 20), .mov (.tmp 19), none, [], 0, [], 0, 0, []⟩,
  ⟨(some 21), .fld 1 (.tmp 4), (some (20, false)), [], 0, [], 0, 0, []⟩,
  ⟨(some 22), .load1 (.tmp 21), (some (20, false)), [], 0, [], 0, 0, []⟩,
  ⟨(some 23), .bin .geq (.tmp 22) (.const (.int .i64 (24))), (some (20, false)), [], 0, [], 0, 0, []⟩,
  ⟨(some 24), .pick (.tmp 20) (.const (.bool true)) (.tmp 23), none, [], 0, [], 0, 0, []⟩]
def c5_2 : List SOper := [⟨(some 25), .loadN 74 (.tmp 4), none, [], 0, [], 0, 0, []⟩,
  ⟨none, .storeN 74 (.tmp 8) (.tmp 25), none, [], 0, [], 0, 0, []⟩]
def c5_3 : List SOper := [⟨(some 26), .fld 1 (.tmp 4), none, [], 0, [], 0, 0, []⟩,
  ⟨(some 27), .load1 (.tmp 26), none, [], 0, [], 0, 0, []⟩,
  ⟨(some 28), .mov (.tmp 1), none, [], 0, [], 0, 0, []⟩,
  ⟨(some 29), .mov (.tmp 2), none, [], 0, [], 0, 0, []⟩,
  ⟨(some 30), .mov (.tmp 3), none, [], 0, [], 0, 0, []⟩,
  ⟨(some 31), .build [(.int .i64 (0)), (.int .i64 (0)), (.int .i64 (0))] [(0, 1, (.tmp 28)), (1, 1, (.tmp 29)), (2, 1, (.tmp 30))], none, [], 0, [], 0, 0, []⟩,
  ⟨(some 32), .fld 2 (.tmp 4), none, [], 0, [], 0, 0, []⟩,
  ⟨(some 33), .idxA 24 3 (.tmp 32) (.tmp 27), none, [], 0, [], 0, 0, []⟩,
  ⟨none, .storeN 3 (.tmp 33) (.tmp 31), none, [], 0, [], 0, 0, []⟩]
def c5_4 : List SOper := [⟨(some 34), .fld 1 (.tmp 4), none, [], 0, [], 0, 0, []⟩,
  ⟨(some 35), .load1 (.tmp 34), none, [], 0, [], 0, 0, []⟩,
  ⟨(some 36), .bin .add (.tmp 35) (.const (.int .i64 (1))), none, [], 0, [], 0, 0, []⟩,
  ⟨(some 37), .fld 1 (.tmp 4), none, [], 0, [], 0, 0, []⟩,
  ⟨none, .store1 (.tmp 37) (.tmp 36), none, [], 0, [], 0, 0, []⟩]
def c5_5 : List SOper := [⟨(some 38), .loadN 74 (.tmp 4), none, [], 0, [], 0, 0, []⟩,
  ⟨none, .storeN 74 (.tmp 8) (.tmp 38), none, [], 0, [], 0, 0, []⟩]
def c5_body : SCode := (.seq (.reg [1, 2, 3, 4, 8] c5_0) (.seq (.seq (.reg [1, 2, 3, 4, 8, 24] c5_1) (.cond (.tmp 24) (.seq (.reg [8] c5_2) .ret) .skip)) (.seq (.reg [4, 8] c5_3) (.seq (.reg [4, 8] c5_4) (.seq (.reg [8] c5_5) .ret)))))
def c5 : SFunc := ⟨4, 39, c5_body, [.cellN 8 74]⟩

/- (jacquard/buf.Buf).Len -/
def c6_0 : List SOper := [⟨(some 1), .box (.tmp 0), none, [], 0, [], 0, 0, []⟩,
  ⟨(some 2), .mov (.const (.int .i64 (0))), none, [], 0, [], 0, 0, []⟩]
def c6_1 : List SOper := [⟨(some 3), .fld 1 (.tmp 1), none, [], 0, [], 0, 0, []⟩,
  ⟨(some 4), .load1 (.tmp 3), none, [], 0, [], 0, 0, []⟩,
  ⟨(some 2), .mov (.tmp 4), none, [], 0, [], 0, 0, []⟩]
def c6_body : SCode := (.seq (.reg [1] c6_0) (.seq (.reg [2] c6_1) .ret))
def c6 : SFunc := ⟨1, 5, c6_body, [.tmp 2]⟩

/- (jacquard/buf.Buf).List -/
def c7_0 : List SOper := [⟨(some 2), .box (.tmp 0), none, [], 0, [], 0, 0, []⟩,
  ⟨(some 4), .mov (.const (.slice none 0 0)), none, [], 0, [], 0, 0, []⟩]
def c7_1 : List SOper := [⟨(some 5), .mov (.const (.slice none 0 0)), none, [], 0, [], 0, 0, []⟩]
def c7_2 : List SOper := [⟨(some 8), .fld 2 (.tmp 2), none, [], 0, [], 0, 0, []⟩,
  ⟨(some 9), .fld 1 (.tmp 2), none, [], 0, [], 0, 0, []⟩,
  ⟨(some 10), .load1 (.tmp 9), none, [], 0, [], 0, 0, []⟩,
  ⟨(some 11), .slarr 24 3 (.tmp 8) none (some (.tmp 10)) none, none, [], 0, [], 0, 0, []⟩,
  ⟨(some 12), .lenS (.tmp 11), none, [], 0, [], 0, 0, []⟩,
  ⟨(some 13), .mov (.const (.int .i64 (0))), none, [], 0, [], 0, 0, []⟩]
def c7_3 : List SOper := [⟨(some 14), .bin .lss (.tmp 13) (.tmp 12), none, [], 0, [], 0, 0, []⟩]
def c7_4 : List SOper := [⟨(some 15), .idxS 3 (.tmp 11) (.tmp 13), none, [], 0, [], 0, 0, []⟩,
  ⟨(some 16), .loadN 3 (.tmp 15), none, [], 0, [], 0, 0, []⟩,
  ⟨(some 7), .alloc [(.int .i64 (0)), (.int .i64 (0)), (.int .i64 (0))], none, [], 0, [], 0, 0, []⟩,
  ⟨none, .storeN 3 (.tmp 7) (.tmp 16), none, [], 0, [], 0, 0, []⟩]
def c7_5 : List SOper := [⟨(some 17), .fld 0 (.tmp 2), none, [], 0, [], 0, 0, []⟩,
  ⟨(some 18), .load1 (.tmp 17), none, [], 0, [], 0, 0, []⟩,
  ⟨(some 19), .bin .eql (.tmp 18) (.const (.int .i64 (2))), none, [], 0, [], 0, 0, []⟩,
  ⟨(some 20), .mov (.tmp 19), none, [], 0, [], 0, 0, []⟩,
  ⟨(some 21), .fld 0 (.tmp 7), (some (20, false)), [], 0, [], 0, 0, []⟩,
  ⟨(some 22), .load1 (.tmp 21), (some (20, false)), [], 0, [], 0, 0, []⟩,
  ⟨(some 23), .mov (.tmp 1), (some (20, false)), [], 0, [], 0, 0, []⟩,
  ⟨(some 24), .bin .eql (.tmp 22) (.tmp 23), (some (20, false)), [], 0, [], 0, 0, []⟩,
  ⟨(some 25), .pick (.tmp 20) (.const (.bool true)) (.tmp 24), none, [], 0, [], 0, 0, []⟩]
def c7_6 : List SOper := [⟨(some 26), .mov (.tmp 5), none, [], 0, [], 0, 0, []⟩,
  ⟨(some 27), .loadN 3 (.tmp 7), none, [], 0, [], 0, 0, []⟩,
  ⟨(some 28), .mkslice 1 [(.int .i64 (0)), (.int .i64 (0)), (.int .i64 (0))] [(0, 3, (.tmp 27))], none, [], 0, [], 0, 0, []⟩,
  ⟨(some 29), .append 3 24 (.tmp 26) (.tmp 28), none, [], 0, [], 0, 0, []⟩,
  ⟨(some 5), .mov (.tmp 29), none, [], 0, [], 0, 0, []⟩]
def c7_7 : List SOper := [⟨(some 30), .bin .add (.tmp 13) (.const (.int .i64 (1))), none, [], 0, [], 0, 0, []⟩,
  ⟨(some 13), .mov (.tmp 30), none, [], 0, [], 0, 0, []⟩]
def c7_8 : SCode := (.seq (.reg [1, 2, 5, 11, 12, 13, 14] c7_3) (.seq (.cond (.tmp 14) .skip (.exit 0)) (.seq (.block 1 (.seq (.reg [1, 2, 5, 7, 11, 12, 13] c7_4) (.seq (.reg [1, 2, 5, 7, 11, 12, 13, 25] c7_5) (.cond (.tmp 25) (.reg [1, 2, 5, 11, 12, 13] c7_6) .skip)))) (.reg [1, 2, 5, 11, 12, 13] c7_7))))
def c7_9 : List SOper := [⟨(some 31), .mov (.tmp 5), none, [], 0, [], 0, 0, []⟩,
  ⟨(some 4), .mov (.tmp 31), none, [], 0, [], 0, 0, []⟩]
def c7_body : SCode := (.seq (.reg [1, 2] c7_0) (.seq (.reg [1, 2, 5] c7_1) (.seq (.seq (.reg [1, 2, 5, 11, 12, 13] c7_2) (.block 0 (.loop [1, 2, 5, 11, 12, 13] c7_8))) (.seq (.reg [4] c7_9) .ret))))
def c7 : SFunc := ⟨2, 32, c7_body, [.tmp 4]⟩

/- (jacquard/buf.Buf).Empty -/
def c8_0 : List SOper := [⟨(some 1), .box (.tmp 0), none, [], 0, [], 0, 0, []⟩,
  ⟨(some 2), .mov (.const (.bool false)), none, [], 0, [], 0, 0, []⟩]
def c8_1 : List SOper := [⟨(some 3), .fld 1 (.tmp 1), none, [], 0, [], 0, 0, []⟩,
  ⟨(some 4), .load1 (.tmp 3), none, [], 0, [], 0, 0, []⟩,
  ⟨(some 5), .bin .eql (.tmp 4) (.const (.int .i64 (0))), none, [], 0, [], 0, 0, []⟩,
  ⟨(some 2), .mov (.tmp 5), none, [], 0, [], 0, 0, []⟩]
def c8_body : SCode := (.seq (.reg [1] c8_0) (.seq (.reg [2] c8_1) .ret))
def c8 : SFunc := ⟨1, 6, c8_body, [.tmp 2]⟩

/- jacquard/jacquardlaw15.awake -/
def c9_0 : List SOper := [⟨(some 0), .mov (.const (.bool false)), none, [], 0, [], 0, 0, []⟩]
def c9_1 : List SOper := [⟨(some 9), .call 4 [(.const (.int .i64 (2)))], none, [], 0, [], 0, 0, []⟩,
  ⟨(some 10), .call 5 [(.tmp 9), (.const (.int .i64 (0))), (.const (.int .i64 (5))), (.const (.int .i64 (1)))], none, [], 0, [], 0, 0, []⟩,
  ⟨(some 11), .call 5 [(.tmp 10), (.const (.int .i64 (1))), (.const (.int .i64 (6))), (.const (.int .i64 (2)))], none, [], 0, [], 0, 0, []⟩,
  ⟨(some 1), .alloc (zi 74), none, [], 0, [], 0, 0, []⟩,
  ⟨none, .storeN 74 (.tmp 1) (.tmp 11), none, [], 0, [], 0, 0, []⟩]
def c9_2 : List SOper := [⟨(some 13), .loadN 74 (.tmp 1), none, [], 0, [], 0, 0, []⟩,
  ⟨(some 14), .call 11 [(.tmp 13), (.const (.int .i64 (1)))], none, [], 0, [], 0, 0, []⟩,
  ⟨(some 12), .mov (.tmp 14), none, [], 0, [], 0, 0, []⟩,
  ⟨(some 15), .extr (.tmp 12) 0, none, [], 0, [], 0, 0, []⟩,
  ⟨(some 16), .extr (.tmp 12) 1, none, [], 0, [], 0, 0, []⟩,
  ⟨(some 17), .extr (.tmp 12) 2, none, [], 0, [], 0, 0, []⟩,
  ⟨(some 18), .extr (.tmp 12) 3, none, [], 0, [], 0, 0, []⟩,
  ⟨(some 2), .mov (.tmp 15), none, [], 0, [], 0, 0, []⟩,
  ⟨(some 3), .mov (.tmp 16), none, [], 0, [], 0, 0, []⟩,
  ⟨(some 4), .mov (.tmp 17), none, [], 0, [], 0, 0, []⟩,
  ⟨(some 5), .mov (.tmp 18), none, [], 0, [], 0, 0, []⟩]
def c9_3 : List SOper := [⟨(some 20), .loadN 74 (.tmp 1), none, [], 0, [], 0, 0, []⟩,
  ⟨(some 21), .call 14 [(.tmp 20), (.const (.int .i64 (1)))], none, [], 0, [], 0, 0, []⟩,
  ⟨(some 19), .mov (.tmp 21), none, [], 0, [], 0, 0, []⟩,
  ⟨(some 22), .extr (.tmp 19) 0, none, [], 0, [], 0, 0, []⟩,
  ⟨(some 23), .extr (.tmp 19) 1, none, [], 0, [], 0, 0, []⟩,
  ⟨(some 24), .extr (.tmp 19) 2, none, [], 0, [], 0, 0, []⟩,
  ⟨(some 6), .mov (.tmp 22), none, [], 0, [], 0, 0, []⟩,
  ⟨(some 7), .mov (.tmp 23), none, [], 0, [], 0, 0, []⟩,
  ⟨(some 8), .mov (.tmp 24), none, [], 0, [], 0, 0, []⟩]
def c9_4 : List SOper := [⟨(some 25), .mov (.tmp 2), none, [], 0, [], 0, 0, []⟩,
  ⟨(some 26), .bin .eql (.tmp 25) (.const (.int .i64 (0))), none, [], 0, [], 0, 0, []⟩,
  ⟨(some 27), .mov (.tmp 26), none, [], 0, [], 0, 0, []⟩,
  ⟨(some 28), .mov (.tmp 3), (some (27, true)), [], 0, [], 0, 0, []⟩,
  ⟨(some 29), .bin .eql (.tmp 28) (.const (.int .i64 (5))), (some (27, true)), [], 0, [], 0, 0, []⟩,
  ⟨(some 30), .pick (.tmp 27) (.tmp 29) (.const (.bool false)), none, [], 0, [], 0, 0, []⟩,
  ⟨(some 31), .mov (.tmp 30), none, [], 0, [], 0, 0, []⟩,
  ⟨(some 32), .mov (.tmp 4), (some (31, true)), [], 0, [], 0, 0, []⟩,
  ⟨(some 33), .bin .eql (.tmp 32) (.const (.int .i64 (1))), (some (31, true)), [], 0, [], 0, 0, []⟩,
  ⟨(some 34), .pick (.tmp 31) (.tmp 33) (.const (.bool false)), none, [], 0, [], 0, 0, []⟩,
  ⟨(some 35), .mov (.tmp 34), none, [], 0, [], 0, 0, []⟩,
  ⟨(some 36), .mov (.tmp 5), (some (35, true)), [], 0, [], 0, 0, []⟩,
  ⟨(some 37), .pick (.tmp 35) (.tmp 36) (.const (.bool false)), none, [], 0, [], 0, 0, []⟩,
  ⟨(some 38), .mov (.tmp 37), none, [], 0, [], 0, 0, []⟩,
  ⟨(some 39), .mov (.tmp 6), (some (38, true)), [], 0, [], 0, 0, []⟩,
  ⟨(some 40), .bin .eql (.tmp 39) (.const (.int .i64 (6))), (some (38, true)), [], 0, [], 0, 0, []⟩,
  ⟨(some 41), .pick (.tmp 38) (.tmp 40) (.const (.bool false)), none, [], 0, [], 0, 0, []⟩,
  ⟨(some 42), .mov (.tmp 41), none, [], 0, [], 0, 0, []⟩,
  ⟨(some 43), .mov (.tmp 8), (some (42, true)), [], 0, [], 0, 0, []⟩,
  ⟨(some 44), .pick (.tmp 42) (.tmp 43) (.const (.bool false)), none, [], 0, [], 0, 0, []⟩,
  ⟨(some 45), .mov (.tmp 44), none, [], 0, [], 0, 0, []⟩,
  ⟨(some 46), .loadN 74 (.tmp 1), (some (45, true)), [], 0, [], 0, 0, []⟩,
  ⟨(some 47), .call 6 [(.tmp 46)], (some (45, true)), [], 0, [], 0, 0, []⟩,
  ⟨(some 48), .bin .eql (.tmp 47) (.const (.int .i64 (2))), (some (45, true)), [], 0, [], 0, 0, []⟩,
  ⟨(some 49), .pick (.tmp 45) (.tmp 48) (.const (.bool false)), none, [], 0, [], 0, 0, []⟩,
  ⟨(some 50), .mov (.tmp 49), none, [], 0, [], 0, 0, []⟩,
  ⟨(some 51), .loadN 74 (.tmp 1), (some (50, true)), [], 0, [], 0, 0, []⟩,
  ⟨(some 52), .call 8 [(.tmp 51)], (some (50, true)), [], 0, [], 0, 0, []⟩,
  ⟨(some 53), .un .not (.tmp 52), (some (50, true)), [], 0, [], 0, 0, []⟩,
  ⟨(some 54), .pick (.tmp 50) (.tmp 53) (.const (.bool false)), none, [], 0, [], 0, 0, []⟩,
  ⟨(some 0), .mov (.tmp 54), none, [], 0, [], 0, 0, []⟩]
def c9_body : SCode := (.seq (.reg [] c9_0) (.seq (.reg [1] c9_1) (.seq (.reg [1, 2, 3, 4, 5] c9_2) (.seq (.reg [1, 2, 3, 4, 5, 6, 8] c9_3) (.seq (.reg [0] c9_4) .ret)))))
def c9 : SFunc := ⟨0, 55, c9_body, [.tmp 0]⟩

/- (jacquard/buf.Buf).Drop -/
def c10_0 : List SOper := [⟨(some 2), .box (.tmp 0), none, [], 0, [], 0, 0, []⟩,
  ⟨(some 4), .alloc (zi 74), none, [], 0, [], 0, 0, []⟩]
def c10_1 : List SOper := [⟨(some 6), .loadN 74 (.tmp 2), none, [], 0, [], 0, 0, []⟩,
  ⟨(some 7), .mov (.tmp 1), none, [], 0, [], 0, 0, []⟩,
  ⟨(some 8), .call 15 [(.tmp 6), (.tmp 7)], none, [], 0, [], 0, 0, []⟩,
  ⟨(some 5), .mov (.tmp 8), none, [], 0, [], 0, 0, []⟩]
def c10_2 : List SOper := [⟨(some 9), .mov (.tmp 5), none, [], 0, [], 0, 0, []⟩,
  ⟨(some 10), .bin .lss (.tmp 9) (.const (.int .i64 (0))), none, [], 0, [], 0, 0, []⟩]
def c10_3 : List SOper := [⟨(some 11), .loadN 74 (.tmp 2), none, [], 0, [], 0, 0, []⟩,
  ⟨none, .storeN 74 (.tmp 4) (.tmp 11), none, [], 0, [], 0, 0, []⟩]
def c10_4 : List SOper := [⟨(some 12), .fld 2 (.tmp 2), none, [2], 0, [], 0, 0, []⟩,
  ⟨(some 13), .mov (.tmp 5), none, [5], 1, [], 0, 0, []⟩,
  ⟨(some 14), .slarr 24 3 (.tmp 12) (some (.tmp 13)) none none, none, [12, 13], 2, [0, 1], 0, 0, []⟩,
  ⟨(some 15), .fld 2 (.tmp 2), none, [2], 3, [], 0, 0, []⟩,
  ⟨(some 16), .mov (.tmp 5), none, [5], 4, [], 0, 0, []⟩,
  ⟨(some 17), .bin .add (.tmp 16) (.const (.int .i64 (1))), none, [16], 5, [4], 0, 0, []⟩,
  ⟨(some 18), .slarr 24 3 (.tmp 15) (some (.tmp 17)) none none, none, [15, 17], 6, [3, 5], 0, 0, []⟩,
  ⟨(some 19), .copy 3 (.tmp 14) (.tmp 18), none, [14, 18], 7, [2, 6], 0, 0, []⟩]
def c10_4b : List SOper := []
def c10_5 : List SOper := [⟨(some 20), .fld 1 (.tmp 2), none, [], 0, [], 0, 0, []⟩,
  ⟨(some 21), .load1 (.tmp 20), none, [], 0, [], 0, 0, []⟩,
  ⟨(some 22), .bin .sub (.tmp 21) (.const (.int .i64 (1))), none, [], 0, [], 0, 0, []⟩,
  ⟨(some 23), .fld 1 (.tmp 2), none, [], 0, [], 0, 0, []⟩,
  ⟨none, .store1 (.tmp 23) (.tmp 22), none, [], 0, [], 0, 0, []⟩]
def c10_6 : List SOper := [⟨(some 24), .fld 1 (.tmp 2), none, [], 0, [], 0, 0, []⟩,
  ⟨(some 25), .load1 (.tmp 24), none, [], 0, [], 0, 0, []⟩,
  ⟨(some 26), .build [(.int .i64 (0)), (.int .i64 (0)), (.int .i64 (0))] [], none, [], 0, [], 0, 0, []⟩,
  ⟨(some 27), .fld 2 (.tmp 2), none, [], 0, [], 0, 0, []⟩,
  ⟨(some 28), .idxA 24 3 (.tmp 27) (.tmp 25), none, [], 0, [], 0, 0, []⟩,
  ⟨none, .storeN 3 (.tmp 28) (.tmp 26), none, [], 0, [], 0, 0, []⟩]
def c10_7 : List SOper := [⟨(some 29), .loadN 74 (.tmp 2), none, [], 0, [], 0, 0, []⟩,
  ⟨none, .storeN 74 (.tmp 4) (.tmp 29), none, [], 0, [], 0, 0, []⟩]
def c10_body : SCode := (.seq (.reg [1, 2, 4] c10_0) (.seq (.reg [2, 4, 5] c10_1) (.seq (.seq (.reg [2, 4, 5, 10] c10_2) (.cond (.tmp 10) (.seq (.reg [4] c10_3) .ret) .skip)) (.seq (.dreg [2, 4] c10_4 c10_4b) (.seq (.reg [2, 4] c10_5) (.seq (.reg [2, 4] c10_6) (.seq (.reg [4] c10_7) .ret)))))))
def c10 : SFunc := ⟨2, 30, c10_body, [.cellN 4 74]⟩

/- (jacquard/buf.Buf).Oldest -/
def c11_0 : List SOper := [⟨(some 2), .box (.tmp 0), none, [], 0, [], 0, 0, []⟩,
  ⟨(some 4), .mov (.const (.int .i64 (0))), none, [], 0, [], 0, 0, []⟩,
  ⟨(some 5), .mov (.const (.int .i64 (0))), none, [], 0, [], 0, 0, []⟩,
  ⟨(some 6), .mov (.const (.int .i64 (0))), none, [], 0, [], 0, 0, []⟩,
  ⟨(some 7), .mov (.const (.bool false)), none, [], 0, [], 0, 0, []⟩]
def c11_1 : List SOper := [⟨(some 9), .loadN 74 (.tmp 2), none, [], 0, [], 0, 0, []⟩,
  ⟨(some 10), .mov (.tmp 1), none, [], 0, [], 0, 0, []⟩,
  ⟨(some 11), .call 15 [(.tmp 9), (.tmp 10)], none, [], 0, [], 0, 0, []⟩,
  ⟨(some 8), .mov (.tmp 11), none, [], 0, [], 0, 0, []⟩]
def c11_2 : List SOper := [⟨(some 12), .mov (.tmp 8), none, [], 0, [], 0, 0, []⟩,
  ⟨(some 13), .bin .lss (.tmp 12) (.const (.int .i64 (0))), none, [], 0, [], 0, 0, []⟩]
def c11_3 : List SOper := [⟨(some 4), .mov (.const (.int .i64 (0))), none, [], 0, [], 0, 0, []⟩,
  ⟨(some 5), .mov (.const (.int .i64 (0))), none, [], 0, [], 0, 0, []⟩,
  ⟨(some 6), .mov (.const (.int .i64 (0))), none, [], 0, [], 0, 0, []⟩,
  ⟨(some 7), .mov (.const (.bool false)), none, [], 0, [], 0, 0, []⟩]
def c11_4 : List SOper := [⟨(some 14), .mov (.tmp 8), none, [8], 0, [], 0, 0, []⟩,
  ⟨(some 15), .fld 2 (.tmp 2), none, [2], 1, [], 0, 0, []⟩,
  ⟨(some 16), .idxA 24 3 (.tmp 15) (.tmp 14), none, [15, 14], 2, [1, 0], 0, 0, []⟩,
  ⟨(some 17), .fld 0 (.tmp 16), none, [16], 3, [2], 0, 0, []⟩,
  ⟨(some 18), .load1 (.tmp 17), none, [17], 4, [3], 0, 0, []⟩,
  ⟨(some 19), .mov (.tmp 8), none, [8], 5, [], 0, 0, []⟩,
  ⟨(some 20), .fld 2 (.tmp 2), none, [2], 6, [], 0, 0, []⟩,
  ⟨(some 21), .idxA 24 3 (.tmp 20) (.tmp 19), none, [20, 19], 7, [6, 5], 0, 0, []⟩,
  ⟨(some 22), .fld 1 (.tmp 21), none, [21], 8, [7], 0, 0, []⟩,
  ⟨(some 23), .load1 (.tmp 22), none, [22], 9, [8], 0, 0, []⟩,
  ⟨(some 24), .mov (.tmp 8), none, [8], 10, [], 0, 0, []⟩,
  ⟨(some 25), .fld 2 (.tmp 2), none, [2], 11, [], 0, 0, []⟩,
  ⟨(some 26), .idxA 24 3 (.tmp 25) (.tmp 24), none, [25, 24], 12, [11, 10], 0, 0, []⟩,
  ⟨(some 27), .fld 2 (.tmp 26), none, [26], 13, [12], 0, 0, []⟩,
  ⟨(some 28), .load1 (.tmp 27), none, [27], 14, [13], 0, 0, []⟩,
  ⟨(some 4), .mov (.tmp 18), none, [18], 15, [4, 0, 1, 2, 3, 4], 0, 0, []⟩,
  ⟨(some 5), .mov (.tmp 23), none, [23], 16, [9, 15, 0, 1, 2, 3, 4, 5, 6, 7, 8, 9, 15], 0, 0, []⟩,
  ⟨(some 6), .mov (.tmp 28), none, [28], 17, [14, 16, 0, 1, 2, 3, 4, 5, 6, 7, 8, 9, 10, 11, 12, 13, 14, 15, 16], 0, 0, []⟩,
  ⟨(some 7), .mov (.const (.bool true)), none, [], 18, [17, 0, 1, 2, 3, 4, 5, 6, 7, 8, 9, 10, 11, 12, 13, 14, 15, 16, 17], 0, 0, []⟩]
def c11_body : SCode := (.seq (.reg [1, 2] c11_0) (.seq (.reg [2, 8] c11_1) (.seq (.seq (.reg [2, 8, 13] c11_2) (.cond (.tmp 13) (.seq (.reg [4, 5, 6, 7] c11_3) .ret) .skip)) (.seq (.qreg [4, 5, 6, 7] c11_4) .ret))))
def c11 : SFunc := ⟨2, 29, c11_body, [.tmp 4, .tmp 5, .tmp 6, .tmp 7]⟩

/- jacquard/jacquardlaw15.first -/
def c12_0 : List SOper := [⟨(some 6), .mov (.const (.int .i64 (0))), none, [], 0, [], 0, 0, []⟩]
def c12_1 : List SOper := [⟨(some 7), .mov (.const (.int .i64 (0))), none, [], 0, [], 0, 0, []⟩]
def c12_2 : List SOper := [⟨(some 8), .mov (.tmp 7), none, [], 0, [], 0, 0, []⟩,
  ⟨(some 9), .mov (.tmp 0), none, [], 0, [], 0, 0, []⟩,
  ⟨(some 10), .lenS (.tmp 9), none, [], 0, [], 0, 0, []⟩,
  ⟨(some 11), .bin .lss (.tmp 8) (.tmp 10), none, [], 0, [], 0, 0, []⟩]
def c12_3 : List SOper := [⟨(some 14), .mov (.tmp 1), none, [], 0, [], 0, 0, []⟩,
  ⟨(some 15), .bin .eql (.tmp 14) (.const (.int .i64 (2))), none, [], 0, [], 0, 0, []⟩,
  ⟨(some 16), .mov (.tmp 15), none, [], 0, [], 0, 0, []⟩,
  ⟨(some 17), .mov (.tmp 0), (some (16, false)), [], 0, [], 0, 0, []⟩,
  ⟨(some 18), .mov (.tmp 7), (some (16, false)), [], 0, [], 0, 0, []⟩,
  ⟨(some 19), .idxS 3 (.tmp 17) (.tmp 18), (some (16, false)), [], 0, [], 0, 0, []⟩,
  ⟨(some 20), .fld 0 (.tmp 19), (some (16, false)), [], 0, [], 0, 0, []⟩,
  ⟨(some 21), .load1 (.tmp 20), (some (16, false)), [], 0, [], 0, 0, []⟩,
  ⟨(some 22), .mov (.tmp 2), (some (16, false)), [], 0, [], 0, 0, []⟩,
  ⟨(some 23), .bin .eql (.tmp 21) (.tmp 22), (some (16, false)), [], 0, [], 0, 0, []⟩,
  ⟨(some 24), .pick (.tmp 16) (.const (.bool true)) (.tmp 23), none, [], 0, [], 0, 0, []⟩]
def c12_4 : List SOper := [⟨(some 25), .mov (.tmp 7), none, [], 0, [], 0, 0, []⟩,
  ⟨(some 6), .mov (.tmp 25), none, [], 0, [], 0, 0, []⟩]
def c12_5 : List SOper := [⟨(some 12), .mov (.tmp 7), none, [], 0, [], 0, 0, []⟩,
  ⟨(some 13), .bin .add (.tmp 12) (.const (.int .i64 (1))), none, [], 0, [], 0, 0, []⟩,
  ⟨(some 7), .mov (.tmp 13), none, [], 0, [], 0, 0, []⟩]
def c12_6 : SCode := (.seq (.seq (.reg [0, 1, 2, 7, 11] c12_2) (.cond (.tmp 11) .skip (.exit 0))) (.seq (.block 1 (.seq (.reg [0, 1, 2, 7, 24] c12_3) (.cond (.tmp 24) (.seq (.reg [6] c12_4) .ret) .skip))) (.reg [0, 1, 2, 7] c12_5)))
def c12_7 : List SOper := [⟨(some 6), .mov (.const (.int .i64 (-1))), none, [], 0, [], 0, 0, []⟩]
def c12_body : SCode := (.seq (.reg [0, 1, 2] c12_0) (.seq (.seq (.reg [0, 1, 2, 7] c12_1) (.block 0 (.loop [0, 1, 2, 7] c12_6))) (.seq (.reg [6] c12_7) .ret)))
def c12 : SFunc := ⟨3, 26, c12_body, [.tmp 6]⟩

/- jacquard/jacquardlaw15.same -/
def c13_0 : List SOper := [⟨(some 4), .box (.tmp 0), none, [], 0, [], 0, 0, []⟩,
  ⟨(some 8), .mov (.const (.bool false)), none, [], 0, [], 0, 0, []⟩]
def c13_1 : List SOper := [⟨(some 23), .loadN 74 (.tmp 4), none, [], 0, [], 0, 0, []⟩,
  ⟨(some 24), .mov (.tmp 3), none, [], 0, [], 0, 0, []⟩,
  ⟨(some 25), .call 14 [(.tmp 23), (.tmp 24)], none, [], 0, [], 0, 0, []⟩,
  ⟨(some 22), .mov (.tmp 25), none, [], 0, [], 0, 0, []⟩,
  ⟨(some 26), .extr (.tmp 22) 0, none, [], 0, [], 0, 0, []⟩,
  ⟨(some 27), .extr (.tmp 22) 1, none, [], 0, [], 0, 0, []⟩,
  ⟨(some 28), .extr (.tmp 22) 2, none, [], 0, [], 0, 0, []⟩,
  ⟨(some 9), .mov (.tmp 26), none, [], 0, [], 0, 0, []⟩,
  ⟨(some 10), .mov (.tmp 27), none, [], 0, [], 0, 0, []⟩,
  ⟨(some 11), .mov (.tmp 28), none, [], 0, [], 0, 0, []⟩]
def c13_2 : List SOper := [⟨(some 12), .mov (.const (.int .i64 (-1))), none, [], 0, [], 0, 0, []⟩]
def c13_3 : List SOper := [⟨(some 13), .mov (.const (.int .i64 (0))), none, [], 0, [], 0, 0, []⟩]
def c13_4 : List SOper := [⟨(some 29), .mov (.tmp 13), none, [], 0, [], 0, 0, []⟩,
  ⟨(some 30), .mov (.tmp 1), none, [], 0, [], 0, 0, []⟩,
  ⟨(some 31), .lenS (.tmp 30), none, [], 0, [], 0, 0, []⟩,
  ⟨(some 32), .bin .lss (.tmp 29) (.tmp 31), none, [], 0, [], 0, 0, []⟩]
def c13_5 : List SOper := [⟨(some 35), .mov (.tmp 1), none, [], 0, [], 0, 0, []⟩,
  ⟨(some 36), .mov (.tmp 13), none, [], 0, [], 0, 0, []⟩,
  ⟨(some 37), .idxS 3 (.tmp 35) (.tmp 36), none, [], 0, [], 0, 0, []⟩,
  ⟨(some 38), .fld 0 (.tmp 37), none, [], 0, [], 0, 0, []⟩,
  ⟨(some 39), .load1 (.tmp 38), none, [], 0, [], 0, 0, []⟩,
  ⟨(some 40), .mov (.tmp 3), none, [], 0, [], 0, 0, []⟩,
  ⟨(some 41), .bin .eql (.tmp 39) (.tmp 40), none, [], 0, [], 0, 0, []⟩]
def c13_6 : List SOper := [⟨(some 42), .mov (.tmp 13), none, [], 0, [], 0, 0, []⟩,
  ⟨(some 12), .mov (.tmp 42), none, [], 0, [], 0, 0, []⟩]
def c13_7 : List SOper := [⟨(some 33), .mov (.tmp 13), none, [], 0, [], 0, 0, []⟩,
  ⟨(some 34), .bin .add (.tmp 33) (.const (.int .i64 (1))), none, [], 0, [], 0, 0, []⟩,
  ⟨(some 13), .mov (.tmp 34), none, [], 0, [], 0, 0, []⟩]
def c13_8 : SCode := (.seq (.seq (.reg [1, 2, 3, 4, 9, 10, 11, 12, 13, 32] c13_4) (.cond (.tmp 32) .skip (.exit 0))) (.seq (.block 1 (.seq (.reg [1, 2, 3, 4, 9, 10, 11, 12, 13, 41] c13_5) (.cond (.tmp 41) (.reg [1, 2, 3, 4, 9, 10, 11, 12, 13] c13_6) .skip))) (.reg [1, 2, 3, 4, 9, 10, 11, 12, 13] c13_7)))
def c13_9 : List SOper := [⟨(some 43), .mov (.tmp 11), none, [], 0, [], 0, 0, []⟩,
  ⟨(some 44), .mov (.tmp 12), none, [], 0, [], 0, 0, []⟩,
  ⟨(some 45), .bin .geq (.tmp 44) (.const (.int .i64 (0))), none, [], 0, [], 0, 0, []⟩,
  ⟨(some 46), .eqB true (.tmp 43) (.tmp 45), none, [], 0, [], 0, 0, []⟩,
  ⟨(some 47), .mov (.tmp 46), none, [], 0, [], 0, 0, []⟩,
  ⟨(some 48), .mov (.tmp 11), (some (47, false)), [], 0, [], 0, 0, []⟩,
  ⟨(some 49), .mov (.tmp 48), (some (47, false)), [], 0, [], 0, 0, []⟩,
  ⟨(some 50), .mov (.tmp 9), (some (49, true)), [], 0, [], 0, 0, []⟩,
  ⟨(some 51), .mov (.tmp 1), (some (49, true)), [], 0, [], 0, 0, []⟩,
  ⟨(some 52), .mov (.tmp 12), (some (49, true)), [], 0, [], 0, 0, []⟩,
  ⟨(some 53), .idxS 3 (.tmp 51) (.tmp 52), (some (49, true)), [], 0, [], 0, 0, []⟩,
  ⟨(some 54), .fld 1 (.tmp 53), (some (49, true)), [], 0, [], 0, 0, []⟩,
  ⟨(some 55), .load1 (.tmp 54), (some (49, true)), [], 0, [], 0, 0, []⟩,
  ⟨(some 56), .bin .neq (.tmp 50) (.tmp 55), (some (49, true)), [], 0, [], 0, 0, []⟩,
  ⟨(some 57), .mov (.tmp 56), (some (49, true)), [], 0, [], 0, 0, []⟩,
  ⟨(some 58), .mov (.tmp 10), (some (57, false)), [], 0, [], 0, 0, []⟩,
  ⟨(some 59), .mov (.tmp 1), (some (57, false)), [], 0, [], 0, 0, []⟩,
  ⟨(some 60), .mov (.tmp 12), (some (57, false)), [], 0, [], 0, 0, []⟩,
  ⟨(some 61), .idxS 3 (.tmp 59) (.tmp 60), (some (57, false)), [], 0, [], 0, 0, []⟩,
  ⟨(some 62), .fld 2 (.tmp 61), (some (57, false)), [], 0, [], 0, 0, []⟩,
  ⟨(some 63), .load1 (.tmp 62), (some (57, false)), [], 0, [], 0, 0, []⟩,
  ⟨(some 64), .bin .neq (.tmp 58) (.tmp 63), (some (57, false)), [], 0, [], 0, 0, []⟩,
  ⟨(some 65), .pick (.tmp 57) (.const (.bool true)) (.tmp 64), (some (49, true)), [], 0, [], 0, 0, []⟩,
  ⟨(some 66), .pick (.tmp 49) (.tmp 65) (.const (.bool false)), (some (47, false)), [], 0, [], 0, 0, []⟩,
  ⟨(some 67), .pick (.tmp 47) (.const (.bool true)) (.tmp 66), none, [], 0, [], 0, 0, []⟩,
  ⟨(some 68), .mov (.tmp 67), none, [], 0, [], 0, 0, []⟩,
  ⟨(some 69), .mov (.tmp 11), (some (68, false)), [], 0, [], 0, 0, []⟩,
  ⟨(some 70), .un .not (.tmp 69), (some (68, false)), [], 0, [], 0, 0, []⟩,
  ⟨(some 71), .mov (.tmp 70), (some (68, false)), [], 0, [], 0, 0, []⟩,
  ⟨(some 72), .mov (.tmp 9), (some (71, true)), [], 0, [], 0, 0, []⟩,
  ⟨(some 73), .bin .neq (.tmp 72) (.const (.int .i64 (0))), (some (71, true)), [], 0, [], 0, 0, []⟩,
  ⟨(some 74), .mov (.tmp 73), (some (71, true)), [], 0, [], 0, 0, []⟩,
  ⟨(some 75), .mov (.tmp 10), (some (74, false)), [], 0, [], 0, 0, []⟩,
  ⟨(some 76), .bin .neq (.tmp 75) (.const (.int .i64 (0))), (some (74, false)), [], 0, [], 0, 0, []⟩,
  ⟨(some 77), .pick (.tmp 74) (.const (.bool true)) (.tmp 76), (some (71, true)), [], 0, [], 0, 0, []⟩,
  ⟨(some 78), .pick (.tmp 71) (.tmp 77) (.const (.bool false)), (some (68, false)), [], 0, [], 0, 0, []⟩,
  ⟨(some 79), .pick (.tmp 68) (.const (.bool true)) (.tmp 78), none, [], 0, [], 0, 0, []⟩]
def c13_10 : List SOper := [⟨(some 8), .mov (.const (.bool false)), none, [], 0, [], 0, 0, []⟩]
def c13_11 : List SOper := [⟨(some 81), .loadN 74 (.tmp 4), none, [], 0, [], 0, 0, []⟩,
  ⟨(some 82), .mov (.tmp 3), none, [], 0, [], 0, 0, []⟩,
  ⟨(some 83), .call 11 [(.tmp 81), (.tmp 82)], none, [], 0, [], 0, 0, []⟩,
  ⟨(some 80), .mov (.tmp 83), none, [], 0, [], 0, 0, []⟩,
  ⟨(some 84), .extr (.tmp 80) 0, none, [], 0, [], 0, 0, []⟩,
  ⟨(some 85), .extr (.tmp 80) 1, none, [], 0, [], 0, 0, []⟩,
  ⟨(some 86), .extr (.tmp 80) 2, none, [], 0, [], 0, 0, []⟩,
  ⟨(some 87), .extr (.tmp 80) 3, none, [], 0, [], 0, 0, []⟩,
  ⟨(some 14), .mov (.tmp 84), none, [], 0, [], 0, 0, []⟩,
  ⟨(some 15), .mov (.tmp 85), none, [], 0, [], 0, 0, []⟩,
  ⟨(some 16), .mov (.tmp 86), none, [], 0, [], 0, 0, []⟩,
  ⟨(some 17), .mov (.tmp 87), none, [], 0, [], 0, 0, []⟩]
def c13_12 : List SOper := [⟨(some 88), .mov (.tmp 1), none, [], 0, [], 0, 0, []⟩,
  ⟨(some 89), .mov (.tmp 2), none, [], 0, [], 0, 0, []⟩,
  ⟨(some 90), .mov (.tmp 3), none, [], 0, [], 0, 0, []⟩,
  ⟨(some 91), .call 12 [(.tmp 88), (.tmp 89), (.tmp 90)], none, [], 0, [], 0, 0, []⟩,
  ⟨(some 18), .mov (.tmp 91), none, [], 0, [], 0, 0, []⟩]
def c13_13 : List SOper := [⟨(some 92), .mov (.tmp 17), none, [], 0, [], 0, 0, []⟩,
  ⟨(some 93), .mov (.tmp 18), none, [], 0, [], 0, 0, []⟩,
  ⟨(some 94), .bin .geq (.tmp 93) (.const (.int .i64 (0))), none, [], 0, [], 0, 0, []⟩,
  ⟨(some 95), .eqB true (.tmp 92) (.tmp 94), none, [], 0, [], 0, 0, []⟩,
  ⟨(some 96), .mov (.tmp 95), none, [], 0, [], 0, 0, []⟩,
  ⟨(some 97), .mov (.tmp 17), (some (96, false)), [], 0, [], 0, 0, []⟩,
  ⟨(some 98), .mov (.tmp 97), (some (96, false)), [], 0, [], 0, 0, []⟩,
  ⟨(some 99), .mov (.tmp 14), (some (98, true)), [], 0, [], 0, 0, []⟩,
  ⟨(some 100), .mov (.tmp 1), (some (98, true)), [], 0, [], 0, 0, []⟩,
  ⟨(some 101), .mov (.tmp 18), (some (98, true)), [], 0, [], 0, 0, []⟩,
  ⟨(some 102), .idxS 3 (.tmp 100) (.tmp 101), (some (98, true)), [], 0, [], 0, 0, []⟩,
  ⟨(some 103), .fld 0 (.tmp 102), (some (98, true)), [], 0, [], 0, 0, []⟩,
  ⟨(some 104), .load1 (.tmp 103), (some (98, true)), [], 0, [], 0, 0, []⟩,
  ⟨(some 105), .bin .neq (.tmp 99) (.tmp 104), (some (98, true)), [], 0, [], 0, 0, []⟩,
  ⟨(some 106), .mov (.tmp 105), (some (98, true)), [], 0, [], 0, 0, []⟩,
  ⟨(some 107), .mov (.tmp 15), (some (106, false)), [], 0, [], 0, 0, []⟩,
  ⟨(some 108), .mov (.tmp 1), (some (106, false)), [], 0, [], 0, 0, []⟩,
  ⟨(some 109), .mov (.tmp 18), (some (106, false)), [], 0, [], 0, 0, []⟩,
  ⟨(some 110), .idxS 3 (.tmp 108) (.tmp 109), (some (106, false)), [], 0, [], 0, 0, []⟩,
  ⟨(some 111), .fld 1 (.tmp 110), (some (106, false)), [], 0, [], 0, 0, []⟩,
  ⟨(some 112), .load1 (.tmp 111), (some (106, false)), [], 0, [], 0, 0, []⟩,
  ⟨(some 113), .bin .neq (.tmp 107) (.tmp 112), (some (106, false)), [], 0, [], 0, 0, []⟩,
  ⟨(some 114), .pick (.tmp 106) (.const (.bool true)) (.tmp 113), (some (98, true)), [], 0, [], 0, 0, []⟩,
  ⟨(some 115), .mov (.tmp 114), (some (98, true)), [], 0, [], 0, 0, []⟩,
  ⟨(some 116), .mov (.tmp 16), (some (115, false)), [], 0, [], 0, 0, []⟩,
  ⟨(some 117), .mov (.tmp 1), (some (115, false)), [], 0, [], 0, 0, []⟩,
  ⟨(some 118), .mov (.tmp 18), (some (115, false)), [], 0, [], 0, 0, []⟩,
  ⟨(some 119), .idxS 3 (.tmp 117) (.tmp 118), (some (115, false)), [], 0, [], 0, 0, []⟩,
  ⟨(some 120), .fld 2 (.tmp 119), (some (115, false)), [], 0, [], 0, 0, []⟩,
  ⟨(some 121), .load1 (.tmp 120), (some (115, false)), [], 0, [], 0, 0, []⟩,
  ⟨(some 122), .bin .neq (.tmp 116) (.tmp 121), (some (115, false)), [], 0, [], 0, 0, []⟩,
  ⟨(some 123), .pick (.tmp 115) (.const (.bool true)) (.tmp 122), (some (98, true)), [], 0, [], 0, 0, []⟩,
  ⟨(some 124), .pick (.tmp 98) (.tmp 123) (.const (.bool false)), (some (96, false)), [], 0, [], 0, 0, []⟩,
  ⟨(some 125), .pick (.tmp 96) (.const (.bool true)) (.tmp 124), none, [], 0, [], 0, 0, []⟩,
  ⟨(some 126), .mov (.tmp 125), none, [], 0, [], 0, 0, []⟩,
  ⟨(some 127), .mov (.tmp 17), (some (126, false)), [], 0, [], 0, 0, []⟩,
  ⟨(some 128), .un .not (.tmp 127), (some (126, false)), [], 0, [], 0, 0, []⟩,
  ⟨(some 129), .mov (.tmp 128), (some (126, false)), [], 0, [], 0, 0, []⟩,
  ⟨(some 130), .mov (.tmp 14), (some (129, true)), [], 0, [], 0, 0, []⟩,
  ⟨(some 131), .bin .neq (.tmp 130) (.const (.int .i64 (0))), (some (129, true)), [], 0, [], 0, 0, []⟩,
  ⟨(some 132), .mov (.tmp 131), (some (129, true)), [], 0, [], 0, 0, []⟩,
  ⟨(some 133), .mov (.tmp 15), (some (132, false)), [], 0, [], 0, 0, []⟩,
  ⟨(some 134), .bin .neq (.tmp 133) (.const (.int .i64 (0))), (some (132, false)), [], 0, [], 0, 0, []⟩,
  ⟨(some 135), .pick (.tmp 132) (.const (.bool true)) (.tmp 134), (some (129, true)), [], 0, [], 0, 0, []⟩,
  ⟨(some 136), .mov (.tmp 135), (some (129, true)), [], 0, [], 0, 0, []⟩,
  ⟨(some 137), .mov (.tmp 16), (some (136, false)), [], 0, [], 0, 0, []⟩,
  ⟨(some 138), .bin .neq (.tmp 137) (.const (.int .i64 (0))), (some (136, false)), [], 0, [], 0, 0, []⟩,
  ⟨(some 139), .pick (.tmp 136) (.const (.bool true)) (.tmp 138), (some (129, true)), [], 0, [], 0, 0, []⟩,
  ⟨(some 140), .pick (.tmp 129) (.tmp 139) (.const (.bool false)), (some (126, false)), [], 0, [], 0, 0, []⟩,
  ⟨(some 141), .pick (.tmp 126) (.const (.bool true)) (.tmp 140), none, [], 0, [], 0, 0, []⟩]
def c13_14 : List SOper := [⟨(some 8), .mov (.const (.bool false)), none, [], 0, [], 0, 0, []⟩]
def c13_15 : List SOper := [⟨(some 142), .loadN 74 (.tmp 4), none, [], 0, [], 0, 0, []⟩,
  ⟨(some 143), .mov (.tmp 3), none, [], 0, [], 0, 0, []⟩,
  ⟨(some 144), .call 7 [(.tmp 142), (.tmp 143)], none, [], 0, [], 0, 0, []⟩,
  ⟨(some 19), .mov (.tmp 144), none, [], 0, [], 0, 0, []⟩]
def c13_16 : List SOper := [⟨(some 20), .mov (.const (.int .i64 (0))), none, [], 0, [], 0, 0, []⟩]
def c13_17 : List SOper := [⟨(some 21), .mov (.const (.int .i64 (0))), none, [], 0, [], 0, 0, []⟩]
def c13_18 : List SOper := [⟨(some 145), .mov (.tmp 21), none, [], 0, [], 0, 0, []⟩,
  ⟨(some 146), .mov (.tmp 1), none, [], 0, [], 0, 0, []⟩,
  ⟨(some 147), .lenS (.tmp 146), none, [], 0, [], 0, 0, []⟩,
  ⟨(some 148), .bin .lss (.tmp 145) (.tmp 147), none, [], 0, [], 0, 0, []⟩]
def c13_19 : List SOper := [⟨(some 151), .mov (.tmp 2), none, [], 0, [], 0, 0, []⟩,
  ⟨(some 152), .bin .neq (.tmp 151) (.const (.int .i64 (2))), none, [], 0, [], 0, 0, []⟩,
  ⟨(some 153), .mov (.tmp 152), none, [], 0, [], 0, 0, []⟩,
  ⟨(some 154), .mov (.tmp 1), (some (153, true)), [], 0, [], 0, 0, []⟩,
  ⟨(some 155), .mov (.tmp 21), (some (153, true)), [], 0, [], 0, 0, []⟩,
  ⟨(some 156), .idxS 3 (.tmp 154) (.tmp 155), (some (153, true)), [], 0, [], 0, 0, []⟩,
  ⟨(some 157), .fld 0 (.tmp 156), (some (153, true)), [], 0, [], 0, 0, []⟩,
  ⟨(some 158), .load1 (.tmp 157), (some (153, true)), [], 0, [], 0, 0, []⟩,
  ⟨(some 159), .mov (.tmp 3), (some (153, true)), [], 0, [], 0, 0, []⟩,
  ⟨(some 160), .bin .neq (.tmp 158) (.tmp 159), (some (153, true)), [], 0, [], 0, 0, []⟩,
  ⟨(some 161), .pick (.tmp 153) (.tmp 160) (.const (.bool false)), none, [], 0, [], 0, 0, []⟩]
def c13_20 : List SOper := [⟨(some 162), .mov (.tmp 20), none, [20], 0, [], 0, 0, []⟩,
  ⟨(some 163), .mov (.tmp 19), none, [19], 1, [], 0, 0, []⟩,
  ⟨(some 164), .lenS (.tmp 163), none, [163], 2, [1], 0, 0, []⟩,
  ⟨(some 165), .bin .geq (.tmp 162) (.tmp 164), none, [162, 164], 3, [0, 2], 0, 0, []⟩,
  ⟨(some 166), .mov (.tmp 165), none, [165], 4, [3], 0, 0, []⟩,
  ⟨(some 167), .mov (.tmp 19), (some (166, false)), [19, 166], 5, [4], 0, 0, []⟩,
  ⟨(some 168), .mov (.tmp 20), (some (166, false)), [20, 166], 6, [4], 0, 0, []⟩,
  ⟨(some 169), .idxS 3 (.tmp 167) (.tmp 168), (some (166, false)), [167, 168, 166], 7, [5, 6, 4], 0, 0, []⟩,
  ⟨(some 170), .loadN 3 (.tmp 169), (some (166, false)), [169, 166], 8, [7, 4], 0, 0, []⟩,
  ⟨(some 171), .mov (.tmp 1), (some (166, false)), [1, 166], 9, [4], 0, 0, []⟩,
  ⟨(some 172), .mov (.tmp 21), (some (166, false)), [21, 166], 10, [4], 0, 0, []⟩,
  ⟨(some 173), .idxS 3 (.tmp 171) (.tmp 172), (some (166, false)), [171, 172, 166], 11, [9, 10, 4], 0, 0, []⟩,
  ⟨(some 174), .loadN 3 (.tmp 173), (some (166, false)), [173, 166], 12, [11, 4], 0, 0, []⟩,
  ⟨(some 175), .eqN true [0, 0, 0] (.tmp 170) (.tmp 174), (some (166, false)), [170, 174, 166], 13, [8, 12, 4], 0, 0, []⟩,
  ⟨(some 176), .pick (.tmp 166) (.const (.bool true)) (.tmp 175), none, [166, 175], 14, [4, 13], 0, 0, []⟩]
def c13_21 : List SOper := [⟨(some 8), .mov (.const (.bool false)), none, [], 0, [], 0, 0, []⟩]
def c13_22 : List SOper := [⟨(some 177), .mov (.tmp 20), none, [], 0, [], 0, 0, []⟩,
  ⟨(some 178), .bin .add (.tmp 177) (.const (.int .i64 (1))), none, [], 0, [], 0, 0, []⟩,
  ⟨(some 20), .mov (.tmp 178), none, [], 0, [], 0, 0, []⟩]
def c13_23 : List SOper := [⟨(some 149), .mov (.tmp 21), none, [], 0, [], 0, 0, []⟩,
  ⟨(some 150), .bin .add (.tmp 149) (.const (.int .i64 (1))), none, [], 0, [], 0, 0, []⟩,
  ⟨(some 21), .mov (.tmp 150), none, [], 0, [], 0, 0, []⟩]
def c13_24 : SCode := (.seq (.seq (.reg [1, 2, 3, 4, 19, 20, 21, 148] c13_18) (.cond (.tmp 148) .skip (.exit 2))) (.seq (.block 3 (.seq (.seq (.reg [1, 2, 3, 4, 19, 20, 21, 161] c13_19) (.cond (.tmp 161) (.exit 3) .skip)) (.seq (.seq (.qreg [1, 2, 3, 4, 19, 20, 21, 176] c13_20) (.cond (.tmp 176) (.seq (.reg [8] c13_21) .ret) .skip)) (.reg [1, 2, 3, 4, 19, 20, 21] c13_22)))) (.reg [1, 2, 3, 4, 19, 20, 21] c13_23)))
def c13_25 : List SOper := [⟨(some 179), .mov (.tmp 20), none, [], 0, [], 0, 0, []⟩,
  ⟨(some 180), .mov (.tmp 19), none, [], 0, [], 0, 0, []⟩,
  ⟨(some 181), .lenS (.tmp 180), none, [], 0, [], 0, 0, []⟩,
  ⟨(some 182), .bin .eql (.tmp 179) (.tmp 181), none, [], 0, [], 0, 0, []⟩,
  ⟨(some 183), .mov (.tmp 182), none, [], 0, [], 0, 0, []⟩,
  ⟨(some 184), .loadN 74 (.tmp 4), (some (183, true)), [], 0, [], 0, 0, []⟩,
  ⟨(some 185), .call 6 [(.tmp 184)], (some (183, true)), [], 0, [], 0, 0, []⟩,
  ⟨(some 186), .mov (.tmp 1), (some (183, true)), [], 0, [], 0, 0, []⟩,
  ⟨(some 187), .lenS (.tmp 186), (some (183, true)), [], 0, [], 0, 0, []⟩,
  ⟨(some 188), .bin .eql (.tmp 185) (.tmp 187), (some (183, true)), [], 0, [], 0, 0, []⟩,
  ⟨(some 189), .pick (.tmp 183) (.tmp 188) (.const (.bool false)), none, [], 0, [], 0, 0, []⟩,
  ⟨(some 8), .mov (.tmp 189), none, [], 0, [], 0, 0, []⟩]
def c13_body : SCode := (.seq (.reg [1, 2, 3, 4] c13_0) (.seq (.reg [1, 2, 3, 4, 9, 10, 11] c13_1) (.seq (.reg [1, 2, 3, 4, 9, 10, 11, 12] c13_2) (.seq (.seq (.reg [1, 2, 3, 4, 9, 10, 11, 12, 13] c13_3) (.block 0 (.loop [1, 2, 3, 4, 9, 10, 11, 12, 13] c13_8))) (.seq (.seq (.reg [1, 2, 3, 4, 79] c13_9) (.cond (.tmp 79) (.seq (.reg [8] c13_10) .ret) .skip)) (.seq (.reg [1, 2, 3, 4, 14, 15, 16, 17] c13_11) (.seq (.reg [1, 2, 3, 4, 14, 15, 16, 17, 18] c13_12) (.seq (.seq (.reg [1, 2, 3, 4, 141] c13_13) (.cond (.tmp 141) (.seq (.reg [8] c13_14) .ret) .skip)) (.seq (.reg [1, 2, 3, 4, 19] c13_15) (.seq (.reg [1, 2, 3, 4, 19, 20] c13_16) (.seq (.seq (.reg [1, 2, 3, 4, 19, 20, 21] c13_17) (.block 2 (.loop [1, 2, 3, 4, 19, 20, 21] c13_24))) (.seq (.reg [8] c13_25) .ret))))))))))))
def c13 : SFunc := ⟨4, 190, c13_body, [.tmp 8]⟩

/- (jacquard/buf.Buf).Newest -/
def c14_0 : List SOper := [⟨(some 2), .box (.tmp 0), none, [], 0, [], 0, 0, []⟩,
  ⟨(some 4), .mov (.const (.int .i64 (0))), none, [], 0, [], 0, 0, []⟩,
  ⟨(some 5), .mov (.const (.int .i64 (0))), none, [], 0, [], 0, 0, []⟩,
  ⟨(some 6), .mov (.const (.bool false)), none, [], 0, [], 0, 0, []⟩]
def c14_1 : List SOper := [⟨(some 8), .fld 1 (.tmp 2), none, [], 0, [], 0, 0, []⟩,
  ⟨(some 9), .load1 (.tmp 8), none, [], 0, [], 0, 0, []⟩,
  ⟨(some 10), .bin .sub (.tmp 9) (.const (.int .i64 (1))), none, [], 0, [], 0, 0, []⟩,
  ⟨(some 7), .mov (.tmp 10), none, [], 0, [], 0, 0, []⟩]
def c14_2 : List SOper := [⟨(some 11), .mov (.tmp 7), none, [], 0, [], 0, 0, []⟩,
  ⟨(some 12), .bin .geq (.tmp 11) (.const (.int .i64 (0))), none, [], 0, [], 0, 0, []⟩]
def c14_3 : List SOper := [⟨(some 15), .mov (.tmp 7), none, [], 0, [], 0, 0, []⟩,
  ⟨(some 16), .fld 2 (.tmp 2), none, [], 0, [], 0, 0, []⟩,
  ⟨(some 17), .idxA 24 3 (.tmp 16) (.tmp 15), none, [], 0, [], 0, 0, []⟩,
  ⟨(some 18), .fld 0 (.tmp 17), none, [], 0, [], 0, 0, []⟩,
  ⟨(some 19), .load1 (.tmp 18), none, [], 0, [], 0, 0, []⟩,
  ⟨(some 20), .mov (.tmp 1), none, [], 0, [], 0, 0, []⟩,
  ⟨(some 21), .bin .eql (.tmp 19) (.tmp 20), none, [], 0, [], 0, 0, []⟩]
def c14_4 : List SOper := [⟨(some 22), .mov (.tmp 7), none, [7], 0, [], 0, 0, []⟩,
  ⟨(some 23), .fld 2 (.tmp 2), none, [2], 1, [], 0, 0, []⟩,
  ⟨(some 24), .idxA 24 3 (.tmp 23) (.tmp 22), none, [23, 22], 2, [1, 0], 0, 0, []⟩,
  ⟨(some 25), .fld 1 (.tmp 24), none, [24], 3, [2], 0, 0, []⟩,
  ⟨(some 26), .load1 (.tmp 25), none, [25], 4, [3], 0, 0, []⟩,
  ⟨(some 27), .mov (.tmp 7), none, [7], 5, [], 0, 0, []⟩,
  ⟨(some 28), .fld 2 (.tmp 2), none, [2], 6, [], 0, 0, []⟩,
  ⟨(some 29), .idxA 24 3 (.tmp 28) (.tmp 27), none, [28, 27], 7, [6, 5], 0, 0, []⟩,
  ⟨(some 30), .fld 2 (.tmp 29), none, [29], 8, [7], 0, 0, []⟩,
  ⟨(some 31), .load1 (.tmp 30), none, [30], 9, [8], 0, 0, []⟩,
  ⟨(some 4), .mov (.tmp 26), none, [26], 10, [4, 0, 1, 2, 3, 4], 0, 0, []⟩,
  ⟨(some 5), .mov (.tmp 31), none, [31], 11, [9, 10, 0, 1, 2, 3, 4, 5, 6, 7, 8, 9, 10], 0, 0, []⟩,
  ⟨(some 6), .mov (.const (.bool true)), none, [], 12, [11, 0, 1, 2, 3, 4, 5, 6, 7, 8, 9, 10, 11], 0, 0, []⟩]
def c14_5 : List SOper := [⟨(some 13), .mov (.tmp 7), none, [], 0, [], 0, 0, []⟩,
  ⟨(some 14), .bin .sub (.tmp 13) (.const (.int .i64 (1))), none, [], 0, [], 0, 0, []⟩,
  ⟨(some 7), .mov (.tmp 14), none, [], 0, [], 0, 0, []⟩]
def c14_6 : SCode := (.seq (.seq (.reg [1, 2, 7, 12] c14_2) (.cond (.tmp 12) .skip (.exit 0))) (.seq (.block 1 (.seq (.reg [1, 2, 7, 21] c14_3) (.cond (.tmp 21) (.seq (.qreg [4, 5, 6] c14_4) .ret) .skip))) (.reg [1, 2, 7] c14_5)))
def c14_7 : List SOper := [⟨(some 4), .mov (.const (.int .i64 (0))), none, [], 0, [], 0, 0, []⟩,
  ⟨(some 5), .mov (.const (.int .i64 (0))), none, [], 0, [], 0, 0, []⟩,
  ⟨(some 6), .mov (.const (.bool false)), none, [], 0, [], 0, 0, []⟩]
def c14_body : SCode := (.seq (.reg [1, 2] c14_0) (.seq (.seq (.reg [1, 2, 7] c14_1) (.block 0 (.loop [1, 2, 7] c14_6))) (.seq (.reg [4, 5, 6] c14_7) .ret)))
def c14 : SFunc := ⟨2, 32, c14_body, [.tmp 4, .tmp 5, .tmp 6]⟩

/- (jacquard/buf.Buf).oldest -/
def c15_0 : List SOper := [⟨(some 2), .box (.tmp 0), none, [], 0, [], 0, 0, []⟩,
  ⟨(some 4), .mov (.const (.int .i64 (0))), none, [], 0, [], 0, 0, []⟩]
def c15_1 : List SOper := [⟨(some 6), .fld 1 (.tmp 2), none, [], 0, [], 0, 0, []⟩,
  ⟨(some 7), .load1 (.tmp 6), none, [], 0, [], 0, 0, []⟩,
  ⟨(some 8), .mov (.const (.int .i64 (0))), none, [], 0, [], 0, 0, []⟩]
def c15_2 : List SOper := [⟨(some 9), .bin .lss (.tmp 8) (.tmp 7), none, [], 0, [], 0, 0, []⟩]
def c15_3 : List SOper := [⟨(some 10), .mov (.tmp 8), none, [], 0, [], 0, 0, []⟩,
  ⟨(some 5), .mov (.tmp 10), none, [], 0, [], 0, 0, []⟩]
def c15_4 : List SOper := [⟨(some 11), .fld 0 (.tmp 2), none, [], 0, [], 0, 0, []⟩,
  ⟨(some 12), .load1 (.tmp 11), none, [], 0, [], 0, 0, []⟩,
  ⟨(some 13), .bin .eql (.tmp 12) (.const (.int .i64 (2))), none, [], 0, [], 0, 0, []⟩,
  ⟨(some 14), .mov (.tmp 13), none, [], 0, [], 0, 0, []⟩,
  ⟨(some 15), .mov (.tmp 5), (some (14, false)), [], 0, [], 0, 0, []⟩,
  ⟨(some 16), .fld 2 (.tmp 2), (some (14, false)), [], 0, [], 0, 0, []⟩,
  ⟨(some 17), .idxA 24 3 (.tmp 16) (.tmp 15), (some (14, false)), [], 0, [], 0, 0, []⟩,
  ⟨(some 18), .fld 0 (.tmp 17), (some (14, false)), [], 0, [], 0, 0, []⟩,
  ⟨(some 19), .load1 (.tmp 18), (some (14, false)), [], 0, [], 0, 0, []⟩,
  ⟨(some 20), .mov (.tmp 1), (some (14, false)), [], 0, [], 0, 0, []⟩,
  ⟨(some 21), .bin .eql (.tmp 19) (.tmp 20), (some (14, false)), [], 0, [], 0, 0, []⟩,
  ⟨(some 22), .pick (.tmp 14) (.const (.bool true)) (.tmp 21), none, [], 0, [], 0, 0, []⟩]
def c15_5 : List SOper := [⟨(some 23), .mov (.tmp 5), none, [], 0, [], 0, 0, []⟩,
  ⟨(some 4), .mov (.tmp 23), none, [], 0, [], 0, 0, []⟩]
def c15_6 : List SOper := [⟨(some 24), .bin .add (.tmp 8) (.const (.int .i64 (1))), none, [], 0, [], 0, 0, []⟩,
  ⟨(some 8), .mov (.tmp 24), none, [], 0, [], 0, 0, []⟩]
def c15_7 : SCode := (.seq (.reg [1, 2, 7, 8, 9] c15_2) (.seq (.cond (.tmp 9) .skip (.exit 0)) (.seq (.block 1 (.seq (.reg [1, 2, 5, 7, 8] c15_3) (.seq (.reg [1, 2, 5, 7, 8, 22] c15_4) (.cond (.tmp 22) (.seq (.reg [4] c15_5) .ret) .skip)))) (.reg [1, 2, 7, 8] c15_6))))
def c15_8 : List SOper := [⟨(some 4), .mov (.const (.int .i64 (-1))), none, [], 0, [], 0, 0, []⟩]
def c15_body : SCode := (.seq (.reg [1, 2] c15_0) (.seq (.seq (.reg [1, 2, 7, 8] c15_1) (.block 0 (.loop [1, 2, 7, 8] c15_7))) (.seq (.reg [4] c15_8) .ret)))
def c15 : SFunc := ⟨2, 25, c15_body, [.tmp 4]⟩

end Go.Jq
