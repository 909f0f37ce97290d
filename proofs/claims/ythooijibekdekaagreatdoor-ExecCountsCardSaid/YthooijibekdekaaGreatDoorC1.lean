/- Small code. Printed by Gen.lean. -/
import Derived.Test.YthooijibekdekaaGreatDoorA
import Derived.Test.YthooijibekdekaaGreatDoorE
set_option linter.unusedSimpArgs false
set_option linter.unusedVariables false
namespace Go.Jq
/- jacquard/jacquardlaw11.ExecCounts -/
def c17_0 : List SOper := [o_ 2 (.mov (.const (.bool false)))]
def c17_1 : List SOper := [o_ 12 (.mov (t_ 0)),
  o_ 13 (.bin .and (t_ 12) (k_ 255)),
  o_ 14 (.bin .rem (t_ 13) (k_ 3)),
  o_ 15 (.bin .add (t_ 14) (k_ 1)),
  o_ 0 (.mov (t_ 15))]
def c17_2 : List SOper := [o_ 16 (.mkslice 1 [(.int .u8 (0))] [(0, 1, (.const (.int .u8 (120))))]),
  o_ 17 (.mark (t_ 16)),
  o_ 18 (.mkslice 1 [(.int .i64 (0))] [(0, 1, (k_ 0))]),
  o_ 19 (.build [(.slice none 0 0), (.slice none 0 0), (.slice none 0 0)] [(0, 1, (t_ 17)), (1, 1, (t_ 18))]),
  o_ 3 (.alloc [(.slice none 0 0), (.slice none 0 0), (.slice none 0 0)]),
  n_ (.storeN 3 (t_ 3) (t_ 19))]
def c17_3 : List SOper := [o_ 4 (.mov (k_ 1))]
def c17_4 : List SOper := [o_ 5 (.mov (k_ 0))]
def c17_5 : List SOper := [o_ 20 (.mov (t_ 5)),
  o_ 21 (.mov (t_ 0)),
  o_ 22 (.bin .lss (t_ 20) (t_ 21))]
def c17_6 : List SOper := [o_ 25 (.mov (t_ 4)),
  o_ 26 (.mov (t_ 5)),
  o_ 27 (.bin .add (t_ 26) (k_ 1)),
  o_ 28 (.bin .mul (t_ 25) (t_ 27)),
  o_ 4 (.mov (t_ 28))]
def c17_7 : List SOper := [o_ 29 (.fld 2 (t_ 3)),
  o_ 30 (.load1 (t_ 29)),
  o_ 31 (.mov (t_ 5)),
  o_ 32 (.bin .add (t_ 31) (k_ 1)),
  o_ 33 (.build [(.int .i64 (0)), (.int .i64 (0))] [(0, 1, (k_ (-1))), (1, 1, (t_ 32))]),
  o_ 34 (.build (zi 9) [(0, 1, (k_ 1)), (3, 2, (t_ 33))]),
  o_ 35 (.mkslice 1 (zi 9) [(0, 9, (t_ 34))]),
  o_ 36 (.mkslice 1 [(.slice none 0 0)] [(0, 1, (t_ 35))]),
  o_ 37 (.append 1 24 (t_ 30) (t_ 36)),
  o_ 38 (.fld 2 (t_ 3)),
  n_ (.store1 (t_ 38) (t_ 37))]
def c17_8 : List SOper := [o_ 23 (.mov (t_ 5)),
  o_ 24 (.bin .add (t_ 23) (k_ 1)),
  o_ 5 (.mov (t_ 24))]
def c17_9 : SCode := (.seq (.seq (.reg [0, 3, 4, 5, 22] c17_5) (.cond (t_ 22) .skip (.exit 0))) (.seq (.block 1 (.seq (.reg [0, 3, 4, 5] c17_6) (.reg [0, 3, 4, 5] c17_7))) (.reg [0, 3, 4, 5] c17_8)))
def c17_10 : List SOper := [o_ 40 (.loadN 3 (t_ 3)),
  o_ 41 (.call 22 [(t_ 40), (k_ 1000)]),
  o_ 39 (.mov (t_ 41)),
  o_ 42 (.extr (t_ 39) 0),
  o_ 43 (.extr (t_ 39) 1),
  o_ 6 (.mov (t_ 42)),
  o_ 7 (.mov (t_ 43))]
def c17_11 : List SOper := [o_ 44 (.fld 2 (t_ 3)),
  o_ 45 (.load1 (t_ 44)),
  o_ 46 (.build (zi 9) [(0, 1, (k_ 2))]),
  o_ 47 (.mkslice 1 (zi 9) [(0, 9, (t_ 46))]),
  o_ 48 (.mkslice 1 [(.slice none 0 0)] [(0, 1, (t_ 47))]),
  o_ 49 (.append 1 24 (t_ 45) (t_ 48)),
  o_ 50 (.fld 2 (t_ 3)),
  n_ (.store1 (t_ 50) (t_ 49))]
def c17_12 : List SOper := [o_ 52 (.loadN 3 (t_ 3)),
  o_ 53 (.call 22 [(t_ 52), (k_ 1000)]),
  o_ 51 (.mov (t_ 53)),
  o_ 54 (.extr (t_ 51) 0),
  o_ 55 (.extr (t_ 51) 1),
  o_ 8 (.mov (t_ 54)),
  o_ 9 (.mov (t_ 55))]
def c17_13 : List SOper := [o_ 57 (.loadN 3 (t_ 3)),
  o_ 58 (.mov (t_ 4)),
  o_ 59 (.mov (t_ 0)),
  o_ 60 (.bin .add (t_ 59) (k_ 1)),
  o_ 61 (.bin .mul (t_ 58) (t_ 60)),
  o_ 62 (.bin .sub (t_ 61) (k_ 1)),
  o_ 63 (.call 22 [(t_ 57), (t_ 62)]),
  o_ 56 (.mov (t_ 63)),
  o_ 64 (.extr (t_ 56) 0),
  o_ 65 (.extr (t_ 56) 1),
  o_ 10 (.mov (t_ 64)),
  o_ 11 (.mov (t_ 65))]
def c17_14 : List SOper := [o_ 66 (.mov (t_ 7)),
  o_ 67 (.mov (t_ 66)),
  g_ 68 67 true (.mov (t_ 9)),
  o_ 69 (.pick (t_ 67) (t_ 68) (.const (.bool false))),
  o_ 70 (.mov (t_ 69)),
  g_ 71 70 true (.mov (t_ 11)),
  g_ 72 70 true (.un .not (t_ 71)),
  o_ 73 (.pick (t_ 70) (t_ 72) (.const (.bool false))),
  o_ 74 (.mov (t_ 73)),
  g_ 75 74 true (.mov (t_ 6)),
  g_ 76 74 true (.lenS (t_ 75)),
  g_ 77 74 true (.mov (t_ 4)),
  g_ 78 74 true (.bin .eql (t_ 76) (t_ 77)),
  o_ 79 (.pick (t_ 74) (t_ 78) (.const (.bool false))),
  o_ 80 (.mov (t_ 79)),
  g_ 81 80 true (.mov (t_ 8)),
  g_ 82 80 true (.lenS (t_ 81)),
  g_ 83 80 true (.mov (t_ 4)),
  g_ 84 80 true (.mov (t_ 0)),
  g_ 85 80 true (.bin .add (t_ 84) (k_ 1)),
  g_ 86 80 true (.bin .mul (t_ 83) (t_ 85)),
  g_ 87 80 true (.bin .eql (t_ 82) (t_ 86)),
  o_ 88 (.pick (t_ 80) (t_ 87) (.const (.bool false))),
  o_ 89 (.mov (t_ 88)),
  g_ 90 89 true (.call 23 []),
  o_ 91 (.pick (t_ 89) (t_ 90) (.const (.bool false))),
  o_ 2 (.mov (t_ 91))]
def c17_body : SCode := (.seq (.reg [0] c17_0) (.seq (.reg [0] c17_1) (.seq (.reg [0, 3] c17_2) (.seq (.reg [0, 3, 4] c17_3) (.seq (.seq (.reg [0, 3, 4, 5] c17_4) (.block 0 (.loop [0, 3, 4, 5] c17_9))) (.seq (.reg [0, 3, 4, 6, 7] c17_10) (.seq (.reg [0, 3, 4, 6, 7] c17_11) (.seq (.reg [0, 3, 4, 6, 7, 8, 9] c17_12) (.seq (.reg [0, 4, 6, 7, 8, 9, 11] c17_13) (.seq (.reg [2] c17_14) .ret))))))))))
def c17 : SFunc := ⟨1, 92, c17_body, [.tmp 2]⟩
/- jacquard/exec.All -/
def c22_0 : List SOper := [o_ 2 (.box (t_ 0)),
  o_ 3 (.box (t_ 1)),
  o_ 4 (.mov (.const (.slice none 0 0))),
  o_ 5 (.mov (.const (.bool false)))]
def c22_1 : List SOper := [o_ 7 (.load1 (t_ 3)),
  o_ 8 (.mm true [(t_ 7), (k_ 0)]),
  o_ 9 (.mm false [(t_ 8), (k_ 100000)]),
  n_ (.store1 (t_ 3) (t_ 9))]
def c22_2 : List SOper := [o_ 6 (.alloc [(.slice none 0 0)])]
def c22_3 : List SOper := [o_ 10 (.loadN 3 (t_ 2)),
  o_ 11 (.mkfunc 37 [] [(t_ 2), (t_ 6), (t_ 3)]),
  o_ 12 (.call 31 [(t_ 10), (.const .nilFunc), (t_ 11)])]
def c22_4 : List SOper := [o_ 13 (.load1 (t_ 6)),
  o_ 14 (.lenS (t_ 13)),
  o_ 15 (.load1 (t_ 3)),
  o_ 16 (.bin .gtr (t_ 14) (t_ 15))]
def c22_5 : List SOper := [o_ 4 (.mov (.const (.slice none 0 0))),
  o_ 5 (.mov (.const (.bool false)))]
def c22_6 : List SOper := [o_ 17 (.load1 (t_ 6)),
  o_ 18 (.call 36 [(t_ 17)])]
def c22_7 : List SOper := [o_ 19 (.load1 (t_ 6)),
  o_ 4 (.mov (t_ 19)),
  o_ 5 (.mov (.const (.bool true)))]
def c22_body : SCode := (.seq (.reg [2, 3] c22_0) (.seq (.reg [2, 3] c22_1) (.seq (.reg [2, 3, 6] c22_2) (.seq (.reg [3, 6] c22_3) (.seq (.seq (.reg [6, 16] c22_4) (.cond (t_ 16) (.seq (.reg [4, 5] c22_5) .ret) .skip)) (.seq (.reg [6] c22_6) (.seq (.reg [4, 5] c22_7) .ret)))))))
def c22 : SFunc := ⟨2, 20, c22_body, [.tmp 4, .tmp 5]⟩
/- jacquard/jacquardlaw11.awake -/
def c23_0 : List SOper := [o_ 0 (.mov (.const (.bool false)))]
def c23_1 : List SOper := [o_ 4 (.mkslice 1 [(.int .u8 (0))] [(0, 1, (.const (.int .u8 (120))))]),
  o_ 5 (.mark (t_ 4)),
  o_ 6 (.mkslice 1 [(.int .i64 (0))] [(0, 1, (k_ 4))]),
  o_ 7 (.build (zi 9) [(0, 1, (k_ 2)), (1, 1, (k_ 1))]),
  o_ 8 (.mkslice 1 (zi 9) [(0, 9, (t_ 7))]),
  o_ 9 (.mkslice 1 [(.slice none 0 0)] [(0, 1, (t_ 8))]),
  o_ 10 (.build [(.slice none 0 0), (.slice none 0 0), (.slice none 0 0)] [(0, 1, (t_ 5)), (1, 1, (t_ 6)), (2, 1, (t_ 9))]),
  o_ 1 (.alloc [(.slice none 0 0), (.slice none 0 0), (.slice none 0 0)]),
  n_ (.storeN 3 (t_ 1) (t_ 10))]
def c23_2 : List SOper := [o_ 12 (.loadN 3 (t_ 1)),
  o_ 13 (.call 22 [(t_ 12), (k_ 9)]),
  o_ 11 (.mov (t_ 13)),
  o_ 14 (.extr (t_ 11) 0),
  o_ 15 (.extr (t_ 11) 1),
  o_ 2 (.mov (t_ 14)),
  o_ 3 (.mov (t_ 15))]
def c23_3 : List SOper := [⟨(some 16), .mov (t_ 3), none, [3], 0, [], 0, 0, []⟩,
  ⟨(some 17), .mov (t_ 16), none, [16], 1, [0], 0, 0, []⟩,
  ⟨(some 18), .mov (t_ 2), (some (17, true)), [2, 17], 2, [1], 0, 0, []⟩,
  ⟨(some 19), .lenS (t_ 18), (some (17, true)), [18, 17], 3, [2, 1], 0, 0, []⟩,
  ⟨(some 20), .bin .eql (t_ 19) (k_ 1), (some (17, true)), [19, 17], 4, [3, 1], 0, 0, []⟩,
  ⟨(some 21), .pick (t_ 17) (t_ 20) (.const (.bool false)), none, [17, 20], 5, [1, 4], 0, 0, []⟩,
  ⟨(some 22), .mov (t_ 21), none, [21], 6, [5, 1], 0, 0, []⟩,
  ⟨(some 23), .mov (t_ 2), (some (22, true)), [2, 22], 7, [6], 0, 0, []⟩,
  ⟨(some 24), .idxS 3 (t_ 23) (k_ 0), (some (22, true)), [23, 22], 8, [7, 6], 0, 0, []⟩,
  ⟨(some 25), .fld 0 (t_ 24), (some (22, true)), [24, 22], 9, [8, 6], 0, 0, []⟩,
  ⟨(some 26), .load1 (t_ 25), (some (22, true)), [25, 22], 10, [9, 6], 0, 0, []⟩,
  ⟨(some 27), .lenS (t_ 26), (some (22, true)), [26, 22], 11, [10, 6], 0, 0, []⟩,
  ⟨(some 28), .bin .eql (t_ 27) (k_ 2), (some (22, true)), [27, 22], 12, [11, 6], 0, 0, []⟩,
  ⟨(some 29), .pick (t_ 22) (t_ 28) (.const (.bool false)), none, [22, 28], 13, [6, 12], 0, 0, []⟩,
  ⟨(some 30), .mov (t_ 29), none, [29], 14, [13, 6], 0, 0, []⟩,
  ⟨(some 31), .mov (t_ 2), (some (30, true)), [2, 30], 15, [14], 0, 0, []⟩,
  ⟨(some 32), .idxS 3 (t_ 31) (k_ 0), (some (30, true)), [31, 30], 16, [15, 14], 0, 0, []⟩,
  ⟨(some 33), .fld 1 (t_ 32), (some (30, true)), [32, 30], 17, [16, 14], 0, 0, []⟩,
  ⟨(some 34), .load1 (t_ 33), (some (30, true)), [33, 30], 18, [17, 14], 0, 0, []⟩,
  ⟨(some 35), .idxS 1 (t_ 34) (k_ 1), (some (30, true)), [34, 30], 19, [18, 14], 0, 0, []⟩,
  ⟨(some 36), .load1 (t_ 35), (some (30, true)), [35, 30], 20, [19, 14], 0, 0, []⟩,
  ⟨(some 37), .bin .eql (t_ 36) (k_ 0), (some (30, true)), [36, 30], 21, [20, 14], 0, 0, []⟩,
  ⟨(some 38), .pick (t_ 30) (t_ 37) (.const (.bool false)), none, [30, 37], 22, [14, 21], 0, 0, []⟩,
  ⟨(some 39), .mov (t_ 38), none, [38], 23, [22, 14], 0, 0, []⟩,
  ⟨(some 40), .loadN 3 (t_ 1), (some (39, true)), [1, 39], 24, [23], 0, 0, []⟩,
  ⟨(some 41), .mov (t_ 2), (some (39, true)), [2, 39], 25, [23], 0, 0, []⟩,
  ⟨(some 42), .idxS 3 (t_ 41) (k_ 0), (some (39, true)), [41, 39], 26, [25, 23], 0, 0, []⟩,
  ⟨(some 43), .loadN 3 (t_ 42), (some (39, true)), [42, 39], 27, [26, 23], 0, 0, []⟩,
  ⟨(some 44), .call 40 [(t_ 40), (t_ 43)], (some (39, true)), [40, 43, 39], 28, [24, 27, 23, 23], 0, 0, []⟩,
  ⟨(some 45), .pick (t_ 39) (t_ 44) (.const (.bool false)), none, [39, 44], 29, [23, 28], 0, 0, []⟩,
  ⟨(some 46), .mov (t_ 45), none, [45], 30, [29, 28], 0, 0, []⟩,
  ⟨(some 47), .mov (t_ 2), (some (46, true)), [2, 46], 31, [30], 0, 0, []⟩,
  ⟨(some 48), .idxS 3 (t_ 47) (k_ 0), (some (46, true)), [47, 46], 32, [31, 30], 0, 0, []⟩,
  ⟨(some 49), .loadN 3 (t_ 48), (some (46, true)), [48, 46], 33, [32, 30], 1, 1, []⟩,
  ⟨(some 50), .call 41 [(t_ 49)], (some (46, true)), [49, 46], 34, [33, 30, 30], 0, 0, []⟩,
  ⟨(some 51), .bin .eql (t_ 50) (.const (.string ⟨#[45, 49, 44, 48, 44, 50, 44, 48, 44, 48, 44, 52, 44, 45, 49, 32, 48, 44, 48, 44, 49, 44, 48, 44, 52, 44, 48, 44, 48, 32, 99, 48]⟩)), (some (46, true)), [50, 46], 35, [34, 30], 0, 0, []⟩,
  ⟨(some 52), .pick (t_ 46) (t_ 51) (.const (.bool false)), none, [46, 51], 36, [30, 35], 0, 0, []⟩,
  ⟨(some 0), .mov (t_ 52), none, [52], 37, [36, 34, 0, 1, 2, 3, 4, 5, 6, 7, 8, 9, 10, 11, 12, 13, 14, 15, 16, 17, 18, 19, 20, 21, 22, 23, 24, 25, 26, 27, 28, 29, 30, 31, 32, 33, 34, 35, 36], 0, 0, []⟩]
def c23_3b : List SOper := []
def c23_body : SCode := (.seq (.reg [] c23_0) (.seq (.reg [1] c23_1) (.seq (.reg [1, 2, 3] c23_2) (.seq (.dreg [0] c23_3 c23_3b) .ret))))
def c23 : SFunc := ⟨0, 53, c23_body, [.tmp 0]⟩
/- jacquard/exec.Each -/
def c31_0 : List SOper := [o_ 3 (.box (t_ 0))]
def c31_1 : List SOper := [o_ 10 (.loadN 3 (t_ 3)),
  o_ 11 (.call 59 [(t_ 10)]),
  o_ 12 (.un .not (t_ 11))]
def c31_2 : List SOper := [⟨(some 13), .loadN 3 (t_ 3), none, [3], 0, [], 0, 0, []⟩,
  ⟨(some 14), .fld 2 (t_ 3), none, [3], 1, [], 0, 0, []⟩,
  ⟨(some 15), .load1 (t_ 14), none, [14], 2, [1], 0, 0, []⟩,
  ⟨(some 16), .lenS (t_ 15), none, [15], 3, [2], 0, 0, []⟩,
  ⟨(some 17), .mkrow 18 176 [(.slice none 0 0), (.slice none 0 0), (.int .i64 (0)), (.int .i64 (0)), (.int .i64 (0)), (.int .i64 (0)), (.int .i64 (0)), (.int .i64 (0)), (.int .i64 (0)), (.int .i64 (0)), (.int .i64 (0)), (.int .i64 (0)), (.int .i64 (0)), (.int .i64 (0)), (.int .i64 (0)), (.int .i64 (0)), (.bool false), (.int .i64 (0))] (t_ 16) (t_ 16), none, [16, 16], 4, [3, 3], 0, 0, []⟩,
  ⟨(some 18), .mov (t_ 1), none, [1], 5, [], 0, 0, []⟩,
  ⟨(some 19), .mov (t_ 2), none, [2], 6, [], 0, 0, []⟩,
  ⟨(some 20), .build [(.slice none 0 0), (.slice none 0 0), (.slice none 0 0), (.slice none 0 0), (.slice none 0 0), .nilFunc, .nilFunc] [(0, 3, (t_ 13)), (3, 1, (t_ 17)), (5, 1, (t_ 18)), (6, 1, (t_ 19))], none, [13, 17, 18, 19], 7, [0, 4, 5, 6], 0, 0, []⟩,
  ⟨(some 21), .box (t_ 20), none, [20], 8, [7], 0, 0, []⟩,
  ⟨(some 6), .mov (t_ 21), none, [21], 9, [8, 0, 1, 2, 3, 4, 5, 6, 7, 8], 0, 0, []⟩]
def c31_2b : List SOper := []
def c31_3 : List SOper := [o_ 22 (.fld 1 (t_ 3)),
  o_ 23 (.load1 (t_ 22)),
  o_ 24 (.lenS (t_ 23)),
  o_ 25 (.mov (k_ 0))]
def c31_4 : List SOper := [o_ 26 (.bin .lss (t_ 25) (t_ 24))]
def c31_5 : List SOper := [o_ 27 (.mov (t_ 25)),
  o_ 28 (.idxS 1 (t_ 23) (t_ 25)),
  o_ 29 (.load1 (t_ 28)),
  o_ 7 (.mov (t_ 27)),
  o_ 8 (.mov (t_ 29))]
def c31_6 : List SOper := [o_ 30 (.mov (t_ 6)),
  o_ 31 (.mov (t_ 6)),
  o_ 32 (.nilchk (t_ 31)),
  o_ 33 (.fld 4 (t_ 32)),
  o_ 34 (.load1 (t_ 33)),
  o_ 35 (.mov (t_ 7)),
  o_ 36 (.mov (t_ 7)),
  o_ 37 (.mov (t_ 8)),
  o_ 38 (.build (zi 4) [(0, 1, (k_ (-1))), (1, 1, (t_ 35)), (2, 1, (t_ 36)), (3, 1, (t_ 37))]),
  o_ 39 (.mkslice 1 (zi 4) [(0, 4, (t_ 38))]),
  o_ 40 (.append 4 32 (t_ 34) (t_ 39)),
  o_ 41 (.nilchk (t_ 30)),
  o_ 42 (.fld 4 (t_ 41)),
  n_ (.store1 (t_ 42) (t_ 40))]
def c31_7 : List SOper := [o_ 43 (.bin .add (t_ 25) (k_ 1)),
  o_ 25 (.mov (t_ 43))]
def c31_8 : SCode := (.seq (.reg [3, 6, 23, 24, 25, 26] c31_4) (.seq (.cond (t_ 26) .skip (.exit 0)) (.seq (.block 1 (.seq (.reg [3, 6, 7, 8, 23, 24, 25] c31_5) (.reg [3, 6, 23, 24, 25] c31_6))) (.reg [3, 6, 23, 24, 25] c31_7))))
def c31_9 : List SOper := [o_ 44 (.mov (t_ 6)),
  o_ 45 (.nilchk (t_ 44)),
  o_ 46 (.fld 3 (t_ 45)),
  o_ 47 (.load1 (t_ 46)),
  o_ 48 (.lenS (t_ 47)),
  o_ 49 (.mov (k_ 0))]
def c31_10 : List SOper := [o_ 50 (.bin .lss (t_ 49) (t_ 48))]
def c31_11 : List SOper := [o_ 51 (.mov (t_ 49)),
  o_ 9 (.mov (t_ 51))]
def c31_12 : List SOper := [⟨(some 52), .mov (t_ 6), none, [6], 0, [], 0, 0, []⟩,
  ⟨(some 53), .nilchk (t_ 52), none, [52], 1, [0], 0, 0, []⟩,
  ⟨(some 54), .fld 3 (t_ 53), none, [53], 2, [1], 0, 0, []⟩,
  ⟨(some 55), .load1 (t_ 54), none, [54], 3, [2], 0, 1, []⟩,
  ⟨(some 56), .mov (t_ 9), none, [9], 4, [], 0, 0, []⟩,
  ⟨(some 57), .loadN 3 (t_ 3), none, [3], 5, [], 0, 0, []⟩,
  ⟨(some 58), .mov (t_ 9), none, [9], 6, [], 0, 0, []⟩,
  ⟨(some 59), .call 60 [(t_ 57), (t_ 58)], none, [57, 58], 7, [5, 6], 0, 0, []⟩,
  ⟨(some 60), .idxS 18 (t_ 55) (t_ 56), none, [55, 56], 8, [3, 4, 0, 1, 2, 3, 4, 5, 6, 7], 0, 0, []⟩,
  ⟨(some 61), .fld 2 (t_ 60), none, [60], 9, [8, 0, 1, 2, 3, 4, 5, 6, 7], 0, 0, []⟩]
def c31_12b : List SOper := [⟨none, .storeN 5 (t_ 61) (t_ 59), none, [61, 59], 10, [9, 7, 7, 0, 1, 2, 3, 4, 5, 6, 7], 0, 0, [3, 5]⟩]
def c31_13 : List SOper := [o_ 62 (.mov (t_ 6)),
  o_ 63 (.mov (t_ 9)),
  o_ 64 (.call 61 [(t_ 62), (t_ 63)])]
def c31_14 : List SOper := [o_ 65 (.bin .add (t_ 49) (k_ 1)),
  o_ 49 (.mov (t_ 65))]
def c31_15 : SCode := (.seq (.reg [3, 6, 48, 49, 50] c31_10) (.seq (.cond (t_ 50) .skip (.exit 2)) (.seq (.block 3 (.seq (.reg [3, 6, 9, 48, 49] c31_11) (.seq (.dreg [3, 6, 9, 48, 49] c31_12 c31_12b) (.reg [3, 6, 48, 49] c31_13)))) (.reg [3, 6, 48, 49] c31_14))))
def c31_16 : List SOper := [o_ 66 (.mov (t_ 6)),
  o_ 67 (.call 62 [(t_ 66)])]
def c31_body : SCode := (.seq (.reg [1, 2, 3] c31_0) (.seq (.seq (.reg [1, 2, 3, 12] c31_1) (.cond (t_ 12) .ret .skip)) (.seq (.dreg [3, 6] c31_2 c31_2b) (.seq (.seq (.reg [3, 6, 23, 24, 25] c31_3) (.block 0 (.loop [3, 6, 23, 24, 25] c31_8))) (.seq (.seq (.reg [3, 6, 48, 49] c31_9) (.block 2 (.loop [3, 6, 48, 49] c31_15))) (.reg [] c31_16))))))
def c31 : SFunc := ⟨3, 68, c31_body, []⟩
/- jacquard/exec.All$1 -/
def c37_0 : List SOper := [o_ 7 (.mov (.const (.bool false)))]
def c37_1 : List SOper := [⟨(some 8), .loadN 3 (t_ 2), none, [2], 0, [], 0, 1, []⟩,
  ⟨(some 9), .mov (t_ 0), none, [0], 1, [], 0, 0, []⟩,
  ⟨(some 10), .mov (t_ 1), none, [1], 2, [], 0, 0, []⟩,
  ⟨(some 12), .mkfunc 39 [] [(t_ 3), (t_ 4)], none, [3, 4], 4, [], 0, 0, []⟩,
  ⟨(some 11), .call 38 [(k_ 0)], none, [], 3, [], 0, 0, []⟩,
  ⟨(some 13), .call 33 [(t_ 8), (t_ 9), (t_ 10), (t_ 11), (t_ 12)], none, [8, 9, 10, 11, 12], 5, [0, 1, 2, 3, 4, 3], 0, 0, []⟩,
  ⟨(some 7), .mov (t_ 13), none, [13], 6, [5, 5, 0, 1, 2, 3, 4, 5], 0, 0, []⟩]
def c37_1b : List SOper := []
def c37_body : SCode := (.seq (.reg [0, 1, 2, 3, 4] c37_0) (.seq (.dreg [7] c37_1 c37_1b) .ret))
def c37 : SFunc := ⟨5, 14, c37_body, [.tmp 7]⟩
/- jacquard/exec.Choose -/
def c33_0 : List SOper := [o_ 5 (.box (t_ 0)),
  o_ 6 (.box (t_ 1)),
  o_ 7 (.box (t_ 2)),
  o_ 8 (.box (t_ 3)),
  o_ 9 (.box (t_ 4)),
  o_ 10 (.mov (.const (.bool false)))]
def c33_1 : List SOper := [o_ 14 (.loadN 3 (t_ 5)),
  o_ 15 (.load1 (t_ 6)),
  o_ 16 (.call 63 [(t_ 14), (t_ 15)]),
  o_ 11 (.alloc [(.slice none 0 0)]),
  n_ (.store1 (t_ 11) (t_ 16))]
def c33_2 : List SOper := [o_ 17 (.loadN 65 (t_ 8)),
  o_ 18 (.call 64 [(t_ 17)]),
  o_ 12 (.alloc [(.int .i64 (0)), (.int .u64 (0)), (.int .u64 (0)), (.int .u64 (0)), (.int .u64 (0)), (.int .u64 (0)), (.int .u64 (0)), (.int .u64 (0)), (.int .u64 (0)), (.int .u64 (0)), (.int .u64 (0)), (.int .u64 (0)), (.int .u64 (0)), (.int .u64 (0)), (.int .u64 (0)), (.int .u64 (0)), (.int .u64 (0)), (.int .u64 (0)), (.int .u64 (0)), (.int .u64 (0)), (.int .u64 (0)), (.int .u64 (0)), (.int .u64 (0)), (.int .u64 (0)), (.int .u64 (0)), (.int .u64 (0)), (.int .u64 (0)), (.int .u64 (0)), (.int .u64 (0)), (.int .u64 (0)), (.int .u64 (0)), (.int .u64 (0)), (.int .u64 (0)), (.int .u64 (0)), (.int .u64 (0)), (.int .u64 (0)), (.int .u64 (0)), (.int .u64 (0)), (.int .u64 (0)), (.int .u64 (0)), (.int .u64 (0)), (.int .u64 (0)), (.int .u64 (0)), (.int .u64 (0)), (.int .u64 (0)), (.int .u64 (0)), (.int .u64 (0)), (.int .u64 (0)), (.int .u64 (0)), (.int .u64 (0)), (.int .u64 (0)), (.int .u64 (0)), (.int .u64 (0)), (.int .u64 (0)), (.int .u64 (0)), (.int .u64 (0)), (.int .u64 (0)), (.int .u64 (0)), (.int .u64 (0)), (.int .u64 (0)), (.int .u64 (0)), (.int .u64 (0)), (.int .u64 (0)), (.int .u64 (0)), (.int .u64 (0))]),
  n_ (.storeN 65 (t_ 12) (t_ 18))]
def c33_3 : List SOper := [o_ 19 (.mkfunc 65 [] [(t_ 11), (t_ 12)]),
  o_ 13 (.mov (t_ 19))]
def c33_4 : List SOper := [o_ 20 (.mov (t_ 13)),
  o_ 21 (.load1 (t_ 11)),
  o_ 22 (.lenS (t_ 21)),
  o_ 23 (.mkfunc 68 [] [(t_ 9), (t_ 6), (t_ 7)]),
  o_ 24 (.call 67 [(t_ 20), (t_ 22), (t_ 23)]),
  o_ 10 (.mov (t_ 24))]
def c33_body : SCode := (.seq (.reg [5, 6, 7, 8, 9] c33_0) (.seq (.reg [6, 7, 8, 9, 11] c33_1) (.seq (.reg [6, 7, 9, 11, 12] c33_2) (.seq (.reg [6, 7, 9, 11, 13] c33_3) (.seq (.reg [10] c33_4) .ret)))))
def c33 : SFunc := ⟨5, 25, c33_body, [.tmp 10]⟩
/- jacquard/rel.New -/
def c38_0 : List SOper := [o_ 2 (.alloc [(.int .i64 (0)), (.int .u64 (0)), (.int .u64 (0)), (.int .u64 (0)), (.int .u64 (0)), (.int .u64 (0)), (.int .u64 (0)), (.int .u64 (0)), (.int .u64 (0)), (.int .u64 (0)), (.int .u64 (0)), (.int .u64 (0)), (.int .u64 (0)), (.int .u64 (0)), (.int .u64 (0)), (.int .u64 (0)), (.int .u64 (0)), (.int .u64 (0)), (.int .u64 (0)), (.int .u64 (0)), (.int .u64 (0)), (.int .u64 (0)), (.int .u64 (0)), (.int .u64 (0)), (.int .u64 (0)), (.int .u64 (0)), (.int .u64 (0)), (.int .u64 (0)), (.int .u64 (0)), (.int .u64 (0)), (.int .u64 (0)), (.int .u64 (0)), (.int .u64 (0)), (.int .u64 (0)), (.int .u64 (0)), (.int .u64 (0)), (.int .u64 (0)), (.int .u64 (0)), (.int .u64 (0)), (.int .u64 (0)), (.int .u64 (0)), (.int .u64 (0)), (.int .u64 (0)), (.int .u64 (0)), (.int .u64 (0)), (.int .u64 (0)), (.int .u64 (0)), (.int .u64 (0)), (.int .u64 (0)), (.int .u64 (0)), (.int .u64 (0)), (.int .u64 (0)), (.int .u64 (0)), (.int .u64 (0)), (.int .u64 (0)), (.int .u64 (0)), (.int .u64 (0)), (.int .u64 (0)), (.int .u64 (0)), (.int .u64 (0)), (.int .u64 (0)), (.int .u64 (0)), (.int .u64 (0)), (.int .u64 (0)), (.int .u64 (0))])]
def c38_1 : List SOper := [o_ 3 (.mov (t_ 0)),
  o_ 4 (.mm true [(t_ 3), (k_ 0)]),
  o_ 5 (.mm false [(t_ 4), (k_ 64)]),
  o_ 6 (.build [(.int .i64 (0)), (.int .u64 (0)), (.int .u64 (0)), (.int .u64 (0)), (.int .u64 (0)), (.int .u64 (0)), (.int .u64 (0)), (.int .u64 (0)), (.int .u64 (0)), (.int .u64 (0)), (.int .u64 (0)), (.int .u64 (0)), (.int .u64 (0)), (.int .u64 (0)), (.int .u64 (0)), (.int .u64 (0)), (.int .u64 (0)), (.int .u64 (0)), (.int .u64 (0)), (.int .u64 (0)), (.int .u64 (0)), (.int .u64 (0)), (.int .u64 (0)), (.int .u64 (0)), (.int .u64 (0)), (.int .u64 (0)), (.int .u64 (0)), (.int .u64 (0)), (.int .u64 (0)), (.int .u64 (0)), (.int .u64 (0)), (.int .u64 (0)), (.int .u64 (0)), (.int .u64 (0)), (.int .u64 (0)), (.int .u64 (0)), (.int .u64 (0)), (.int .u64 (0)), (.int .u64 (0)), (.int .u64 (0)), (.int .u64 (0)), (.int .u64 (0)), (.int .u64 (0)), (.int .u64 (0)), (.int .u64 (0)), (.int .u64 (0)), (.int .u64 (0)), (.int .u64 (0)), (.int .u64 (0)), (.int .u64 (0)), (.int .u64 (0)), (.int .u64 (0)), (.int .u64 (0)), (.int .u64 (0)), (.int .u64 (0)), (.int .u64 (0)), (.int .u64 (0)), (.int .u64 (0)), (.int .u64 (0)), (.int .u64 (0)), (.int .u64 (0)), (.int .u64 (0)), (.int .u64 (0)), (.int .u64 (0)), (.int .u64 (0))] [(0, 1, (t_ 5))]),
  n_ (.storeN 65 (t_ 2) (t_ 6))]
def c38_body : SCode := (.seq (.reg [0, 2] c38_0) (.seq (.reg [2] c38_1) .ret))
def c38 : SFunc := ⟨1, 7, c38_body, [.cellN 2 65]⟩
/- jacquard/exec.All$1$1 -/
def c39_0 : List SOper := [o_ 3 (.box (t_ 0)),
  o_ 4 (.mov (.const (.bool false)))]
def c39_1 : List SOper := [o_ 5 (.load1 (t_ 1)),
  o_ 6 (.loadN 3 (t_ 3)),
  o_ 7 (.mkslice 1 [(.slice none 0 0), (.slice none 0 0), (.slice none 0 0)] [(0, 3, (t_ 6))]),
  o_ 8 (.append 3 72 (t_ 5) (t_ 7)),
  n_ (.store1 (t_ 1) (t_ 8))]
def c39_2 : List SOper := [o_ 9 (.load1 (t_ 1)),
  o_ 10 (.lenS (t_ 9)),
  o_ 11 (.load1 (t_ 2)),
  o_ 12 (.bin .leq (t_ 10) (t_ 11)),
  o_ 4 (.mov (t_ 12))]
def c39_body : SCode := (.seq (.reg [1, 2, 3] c39_0) (.seq (.reg [1, 2] c39_1) (.seq (.reg [4] c39_2) .ret)))
def c39 : SFunc := ⟨3, 13, c39_body, [.tmp 4]⟩
/- jacquard/exec.Sort -/
def c36_0 : List SOper := [o_ 2 (.mov (t_ 0)),
  o_ 3 (.call 78 [(t_ 2), (.func 79)])]
def c36_body : SCode := (.reg [] c36_0)
def c36 : SFunc := ⟨1, 4, c36_body, []⟩
/- jacquard/exec.Ok -/
def c40_0 : List SOper := [o_ 2 (.box (t_ 0)),
  o_ 3 (.box (t_ 1)),
  o_ 4 (.mov (.const (.bool false)))]
def c40_1 : List SOper := [o_ 9 (.loadN 3 (t_ 2)),
  o_ 10 (.call 59 [(t_ 9)]),
  o_ 11 (.un .not (t_ 10)),
  o_ 12 (.mov (t_ 11)),
  g_ 13 12 false (.fld 0 (t_ 3)),
  g_ 14 12 false (.load1 (t_ 13)),
  g_ 15 12 false (.lenS (t_ 14)),
  g_ 16 12 false (.bin .gtr (t_ 15) (k_ 64)),
  o_ 17 (.pick (t_ 12) (.const (.bool true)) (t_ 16)),
  o_ 18 (.mov (t_ 17)),
  g_ 19 18 false (.fld 1 (t_ 3)),
  g_ 20 18 false (.load1 (t_ 19)),
  g_ 21 18 false (.lenS (t_ 20)),
  g_ 22 18 false (.fld 0 (t_ 3)),
  g_ 23 18 false (.load1 (t_ 22)),
  g_ 24 18 false (.lenS (t_ 23)),
  g_ 25 18 false (.bin .neq (t_ 21) (t_ 24)),
  o_ 26 (.pick (t_ 18) (.const (.bool true)) (t_ 25)),
  o_ 27 (.mov (t_ 26)),
  g_ 28 27 false (.loadN 3 (t_ 2)),
  g_ 29 27 false (.fld 0 (t_ 3)),
  g_ 30 27 false (.load1 (t_ 29)),
  g_ 31 27 false (.call 80 [(t_ 28), (t_ 30)]),
  g_ 32 27 false (.un .not (t_ 31)),
  o_ 33 (.pick (t_ 27) (.const (.bool true)) (t_ 32)),
  o_ 34 (.mov (t_ 33)),
  g_ 35 34 false (.loadN 3 (t_ 3)),
  g_ 36 34 false (.call 81 [(t_ 35)]),
  g_ 37 34 false (.un .not (t_ 36)),
  o_ 38 (.pick (t_ 34) (.const (.bool true)) (t_ 37))]
def c40_2 : List SOper := [o_ 4 (.mov (.const (.bool false)))]
def c40_3 : List SOper := [o_ 39 (.loadN 3 (t_ 2)),
  o_ 40 (.fld 0 (t_ 3)),
  o_ 41 (.load1 (t_ 40)),
  o_ 42 (.call 63 [(t_ 39), (t_ 41)]),
  o_ 5 (.mov (t_ 42))]
def c40_4 : List SOper := [o_ 43 (.fld 2 (t_ 3)),
  o_ 44 (.load1 (t_ 43)),
  o_ 45 (.lenS (t_ 44)),
  o_ 46 (.mov (t_ 5)),
  o_ 47 (.lenS (t_ 46)),
  o_ 48 (.bin .neq (t_ 45) (t_ 47))]
def c40_5 : List SOper := [o_ 4 (.mov (.const (.bool false)))]
def c40_6 : List SOper := [o_ 49 (.fld 2 (t_ 3)),
  o_ 50 (.load1 (t_ 49)),
  o_ 51 (.lenS (t_ 50)),
  o_ 52 (.mov (k_ 0))]
def c40_7 : List SOper := [o_ 53 (.bin .lss (t_ 52) (t_ 51))]
def c40_8 : List SOper := [o_ 54 (.mov (t_ 52)),
  o_ 55 (.idxS 1 (t_ 50) (t_ 52)),
  o_ 56 (.load1 (t_ 55)),
  o_ 6 (.mov (t_ 54)),
  o_ 7 (.mov (t_ 56))]
def c40_9 : List SOper := [⟨(some 57), .mov (t_ 7), none, [7], 0, [], 0, 0, []⟩,
  ⟨(some 58), .lenS (t_ 57), none, [57], 1, [0], 0, 0, []⟩,
  ⟨(some 59), .bin .eql (t_ 58) (k_ 0), none, [58], 2, [1], 0, 0, []⟩,
  ⟨(some 60), .mov (t_ 59), none, [59], 3, [2], 0, 0, []⟩,
  ⟨(some 61), .mov (t_ 7), (some (60, false)), [7, 60], 4, [3], 0, 0, []⟩,
  ⟨(some 62), .idxS 1 (t_ 61) (k_ 0), (some (60, false)), [61, 60], 5, [4, 3], 0, 0, []⟩,
  ⟨(some 63), .load1 (t_ 62), (some (60, false)), [62, 60], 6, [5, 3], 0, 0, []⟩,
  ⟨(some 64), .mov (t_ 5), (some (60, false)), [5, 60], 7, [3], 0, 0, []⟩,
  ⟨(some 65), .mov (t_ 6), (some (60, false)), [6, 60], 8, [3], 0, 0, []⟩,
  ⟨(some 66), .idxS 1 (t_ 64) (t_ 65), (some (60, false)), [64, 65, 60], 9, [7, 8, 3], 0, 0, []⟩,
  ⟨(some 67), .load1 (t_ 66), (some (60, false)), [66, 60], 10, [9, 3], 0, 0, []⟩,
  ⟨(some 68), .idxS 1 (t_ 67) (k_ 0), (some (60, false)), [67, 60], 11, [10, 3], 0, 0, []⟩,
  ⟨(some 69), .load1 (t_ 68), (some (60, false)), [68, 60], 12, [11, 3], 0, 0, []⟩,
  ⟨(some 70), .bin .neq (t_ 63) (t_ 69), (some (60, false)), [63, 69, 60], 13, [6, 12, 3], 0, 0, []⟩,
  ⟨(some 71), .pick (t_ 60) (.const (.bool true)) (t_ 70), none, [60, 70], 14, [3, 13], 0, 0, []⟩]
def c40_10 : List SOper := [o_ 4 (.mov (.const (.bool false)))]
def c40_11 : List SOper := [o_ 72 (.mov (t_ 7)),
  o_ 73 (.call 83 [(t_ 72)]),
  o_ 74 (.call 82 [(t_ 73)]),
  o_ 8 (.mov (t_ 74))]
def c40_12 : List SOper := [o_ 75 (.mov (t_ 8)),
  o_ 76 (.mov (t_ 5)),
  o_ 77 (.mov (t_ 6)),
  o_ 78 (.idxS 1 (t_ 76) (t_ 77)),
  o_ 79 (.load1 (t_ 78)),
  o_ 80 (.call 84 [(t_ 75), (t_ 79)]),
  o_ 81 (.un .not (t_ 80))]
def c40_13 : List SOper := [o_ 4 (.mov (.const (.bool false)))]
def c40_14 : List SOper := [o_ 82 (.bin .add (t_ 52) (k_ 1)),
  o_ 52 (.mov (t_ 82))]
def c40_15 : SCode := (.seq (.reg [5, 50, 51, 52, 53] c40_7) (.seq (.cond (t_ 53) .skip (.exit 0)) (.seq (.block 1 (.seq (.reg [5, 6, 7, 50, 51, 52] c40_8) (.seq (.seq (.qreg [5, 6, 7, 50, 51, 52, 71] c40_9) (.cond (t_ 71) (.seq (.reg [4] c40_10) .ret) .skip)) (.seq (.reg [5, 6, 8, 50, 51, 52] c40_11) (.seq (.reg [5, 50, 51, 52, 81] c40_12) (.cond (t_ 81) (.seq (.reg [4] c40_13) .ret) .skip)))))) (.reg [5, 50, 51, 52] c40_14))))
def c40_16 : List SOper := [o_ 4 (.mov (.const (.bool true)))]
def c40_body : SCode := (.seq (.reg [2, 3] c40_0) (.seq (.seq (.reg [2, 3, 38] c40_1) (.cond (t_ 38) (.seq (.reg [4] c40_2) .ret) .skip)) (.seq (.reg [3, 5] c40_3) (.seq (.seq (.reg [3, 5, 48] c40_4) (.cond (t_ 48) (.seq (.reg [4] c40_5) .ret) .skip)) (.seq (.seq (.reg [5, 50, 51, 52] c40_6) (.block 0 (.loop [5, 50, 51, 52] c40_15))) (.seq (.reg [4] c40_16) .ret))))))
def c40 : SFunc := ⟨2, 83, c40_body, [.tmp 4]⟩
/- jacquard/exec.Text -/
def c41_0 : List SOper := [o_ 1 (.box (t_ 0)),
  o_ 2 (.mov (.const (.string ⟨#[]⟩)))]
def c41_1 : List SOper := [o_ 3 (.mov (.const (.slice none 0 0)))]
def c41_2 : List SOper := [o_ 15 (.fld 0 (t_ 1)),
  o_ 16 (.load1 (t_ 15)),
  o_ 17 (.lenS (t_ 16)),
  o_ 18 (.mov (k_ 0))]
def c41_3 : List SOper := [o_ 19 (.bin .lss (t_ 18) (t_ 17))]
def c41_4 : List SOper := [o_ 20 (.mov (t_ 18)),
  o_ 21 (.idxS 6 (t_ 16) (t_ 18)),
  o_ 22 (.loadN 6 (t_ 21)),
  o_ 5 (.alloc (zi 6)),
  o_ 4 (.mov (t_ 20)),
  n_ (.storeN 6 (t_ 5) (t_ 22))]
def c41_5 : List SOper := [o_ 6 (.mov (k_ (-1)))]
def c41_6 : List SOper := [o_ 23 (.mov (t_ 4)),
  o_ 24 (.fld 1 (t_ 1)),
  o_ 25 (.load1 (t_ 24)),
  o_ 26 (.lenS (t_ 25)),
  o_ 27 (.bin .lss (t_ 23) (t_ 26))]
def c41_7 : List SOper := [o_ 28 (.fld 1 (t_ 1)),
  o_ 29 (.load1 (t_ 28)),
  o_ 30 (.mov (t_ 4)),
  o_ 31 (.idxS 1 (t_ 29) (t_ 30)),
  o_ 32 (.load1 (t_ 31)),
  o_ 6 (.mov (t_ 32))]
def c41_8 : List SOper := [o_ 7 (.mov (.const (.string ⟨#[]⟩)))]
def c41_9 : List SOper := [o_ 33 (.fld 0 (t_ 5)),
  o_ 34 (.load1 (t_ 33)),
  o_ 35 (.fld 1 (t_ 5)),
  o_ 36 (.load1 (t_ 35)),
  o_ 37 (.fld 2 (t_ 5)),
  o_ 38 (.load1 (t_ 37)),
  o_ 39 (.fld 3 (t_ 5)),
  o_ 40 (.load1 (t_ 39)),
  o_ 41 (.mkslice 4 (zi 4) [(0, 1, (t_ 34)), (1, 1, (t_ 36)), (2, 1, (t_ 38)), (3, 1, (t_ 40))]),
  o_ 42 (.lenS (t_ 41)),
  o_ 43 (.mov (k_ 0))]
def c41_10 : List SOper := [o_ 44 (.bin .lss (t_ 43) (t_ 42))]
def c41_11 : List SOper := [o_ 45 (.idxS 1 (t_ 41) (t_ 43)),
  o_ 46 (.load1 (t_ 45)),
  o_ 9 (.mov (t_ 46))]
def c41_12 : List SOper := [o_ 47 (.mov (t_ 7)),
  o_ 48 (.mov (t_ 9)),
  o_ 49 (.call 85 [(t_ 48)]),
  o_ 50 (.bin .add (t_ 49) (.const (.string ⟨#[44]⟩))),
  o_ 51 (.bin .add (t_ 47) (t_ 50)),
  o_ 7 (.mov (t_ 51))]
def c41_13 : List SOper := [o_ 52 (.bin .add (t_ 43) (k_ 1)),
  o_ 43 (.mov (t_ 52))]
def c41_14 : SCode := (.seq (.reg [1, 3, 5, 6, 7, 16, 17, 18, 41, 42, 43, 44] c41_10) (.seq (.cond (t_ 44) .skip (.exit 2)) (.seq (.block 3 (.seq (.reg [1, 3, 5, 6, 7, 9, 16, 17, 18, 41, 42, 43] c41_11) (.reg [1, 3, 5, 6, 7, 16, 17, 18, 41, 42, 43] c41_12))) (.reg [1, 3, 5, 6, 7, 16, 17, 18, 41, 42, 43] c41_13))))
def c41_15 : List SOper := [⟨(some 53), .mov (t_ 3), none, [3], 0, [], 0, 0, []⟩,
  ⟨(some 54), .mov (t_ 7), none, [7], 1, [], 0, 0, []⟩,
  ⟨(some 55), .fld 4 (t_ 5), none, [5], 2, [], 0, 0, []⟩,
  ⟨(some 56), .load1 (t_ 55), none, [55], 3, [2], 0, 0, []⟩,
  ⟨(some 60), .fld 5 (t_ 5), none, [5], 7, [], 0, 0, []⟩,
  ⟨(some 61), .load1 (t_ 60), none, [60], 8, [7], 0, 1, []⟩,
  ⟨(some 65), .mov (t_ 6), none, [6], 12, [], 0, 0, []⟩,
  ⟨(some 57), .call 86 [(t_ 56), (k_ 10)], none, [56], 4, [3], 0, 0, []⟩,
  ⟨(some 58), .bin .add (t_ 54) (t_ 57), none, [54, 57], 5, [1, 4], 0, 0, []⟩,
  ⟨(some 59), .bin .add (t_ 58) (.const (.string ⟨#[44]⟩)), none, [58], 6, [5], 0, 0, []⟩,
  ⟨(some 62), .call 86 [(t_ 61), (k_ 10)], none, [61], 9, [8, 4], 0, 0, []⟩,
  ⟨(some 63), .bin .add (t_ 59) (t_ 62), none, [59, 62], 10, [6, 9], 0, 0, []⟩,
  ⟨(some 64), .bin .add (t_ 63) (.const (.string ⟨#[44]⟩)), none, [63], 11, [10], 0, 0, []⟩,
  ⟨(some 66), .call 85 [(t_ 65)], none, [65], 13, [12, 9], 0, 0, []⟩,
  ⟨(some 67), .bin .add (t_ 64) (t_ 66), none, [64, 66], 14, [11, 13], 0, 0, []⟩,
  ⟨(some 68), .mkslice 1 [(.string ⟨#[]⟩)] [(0, 1, (t_ 67))], none, [67], 15, [14], 0, 0, []⟩,
  ⟨(some 69), .append 1 16 (t_ 53) (t_ 68), none, [53, 68], 16, [0, 15, 13], 0, 0, [15]⟩,
  ⟨(some 3), .mov (t_ 69), none, [69], 17, [16, 16, 0, 1, 2, 3, 4, 5, 6, 7, 8, 9, 10, 11, 12, 13, 14, 15, 16], 0, 0, []⟩]
def c41_15b : List SOper := []
def c41_16 : List SOper := [o_ 70 (.bin .add (t_ 18) (k_ 1)),
  o_ 18 (.mov (t_ 70))]
def c41_17 : SCode := (.seq (.reg [1, 3, 16, 17, 18, 19] c41_3) (.seq (.cond (t_ 19) .skip (.exit 0)) (.seq (.block 1 (.seq (.reg [1, 3, 4, 5, 16, 17, 18] c41_4) (.seq (.reg [1, 3, 4, 5, 6, 16, 17, 18] c41_5) (.seq (.seq (.reg [1, 3, 4, 5, 6, 16, 17, 18, 27] c41_6) (.cond (t_ 27) (.reg [1, 3, 5, 6, 16, 17, 18] c41_7) .skip)) (.seq (.reg [1, 3, 5, 6, 7, 16, 17, 18] c41_8) (.seq (.seq (.reg [1, 3, 5, 6, 7, 16, 17, 18, 41, 42, 43] c41_9) (.block 2 (.loop [1, 3, 5, 6, 7, 16, 17, 18, 41, 42, 43] c41_14))) (.dreg [1, 3, 16, 17, 18] c41_15 c41_15b))))))) (.reg [1, 3, 16, 17, 18] c41_16))))
def c41_18 : List SOper := [o_ 71 (.fld 2 (t_ 1)),
  o_ 72 (.load1 (t_ 71)),
  o_ 73 (.lenS (t_ 72)),
  o_ 74 (.mov (k_ 0))]
def c41_19 : List SOper := [o_ 75 (.bin .lss (t_ 74) (t_ 73))]
def c41_20 : List SOper := [o_ 76 (.idxS 1 (t_ 72) (t_ 74)),
  o_ 77 (.load1 (t_ 76)),
  o_ 11 (.mov (t_ 77))]
def c41_21 : List SOper := [o_ 12 (.mov (.const (.slice none 0 0)))]
def c41_22 : List SOper := [o_ 78 (.mov (t_ 11)),
  o_ 79 (.lenS (t_ 78)),
  o_ 80 (.mov (k_ 0))]
def c41_23 : List SOper := [o_ 81 (.bin .lss (t_ 80) (t_ 79))]
def c41_24 : List SOper := [o_ 82 (.idxS 1 (t_ 78) (t_ 80)),
  o_ 83 (.load1 (t_ 82)),
  o_ 14 (.mov (t_ 83))]
def c41_25 : List SOper := [o_ 84 (.mov (t_ 12)),
  o_ 85 (.mov (t_ 14)),
  o_ 86 (.call 85 [(t_ 85)]),
  o_ 87 (.mkslice 1 [(.string ⟨#[]⟩)] [(0, 1, (t_ 86))]),
  o_ 88 (.append 1 16 (t_ 84) (t_ 87)),
  o_ 12 (.mov (t_ 88))]
def c41_26 : List SOper := [o_ 89 (.bin .add (t_ 80) (k_ 1)),
  o_ 80 (.mov (t_ 89))]
def c41_27 : SCode := (.seq (.reg [3, 12, 72, 73, 74, 78, 79, 80, 81] c41_23) (.seq (.cond (t_ 81) .skip (.exit 6)) (.seq (.block 7 (.seq (.reg [3, 12, 14, 72, 73, 74, 78, 79, 80] c41_24) (.reg [3, 12, 72, 73, 74, 78, 79, 80] c41_25))) (.reg [3, 12, 72, 73, 74, 78, 79, 80] c41_26))))
def c41_28 : List SOper := [o_ 90 (.mov (t_ 3)),
  o_ 91 (.mov (t_ 12)),
  o_ 92 (.call 87 [(t_ 91), (.const (.string ⟨#[44]⟩))]),
  o_ 93 (.bin .add (.const (.string ⟨#[99]⟩)) (t_ 92)),
  o_ 94 (.mkslice 1 [(.string ⟨#[]⟩)] [(0, 1, (t_ 93))]),
  o_ 95 (.append 1 16 (t_ 90) (t_ 94)),
  o_ 3 (.mov (t_ 95))]
def c41_29 : List SOper := [o_ 96 (.bin .add (t_ 74) (k_ 1)),
  o_ 74 (.mov (t_ 96))]
def c41_30 : SCode := (.seq (.reg [3, 72, 73, 74, 75] c41_19) (.seq (.cond (t_ 75) .skip (.exit 4)) (.seq (.block 5 (.seq (.reg [3, 11, 72, 73, 74] c41_20) (.seq (.reg [3, 11, 12, 72, 73, 74] c41_21) (.seq (.seq (.reg [3, 12, 72, 73, 74, 78, 79, 80] c41_22) (.block 6 (.loop [3, 12, 72, 73, 74, 78, 79, 80] c41_27))) (.reg [3, 72, 73, 74] c41_28))))) (.reg [3, 72, 73, 74] c41_29))))
def c41_31 : List SOper := [o_ 97 (.mov (t_ 3)),
  o_ 98 (.call 87 [(t_ 97), (.const (.string ⟨#[32]⟩))]),
  o_ 2 (.mov (t_ 98))]
def c41_body : SCode := (.seq (.reg [1] c41_0) (.seq (.reg [1, 3] c41_1) (.seq (.seq (.reg [1, 3, 16, 17, 18] c41_2) (.block 0 (.loop [1, 3, 16, 17, 18] c41_17))) (.seq (.seq (.reg [3, 72, 73, 74] c41_18) (.block 4 (.loop [3, 72, 73, 74] c41_30))) (.seq (.reg [2] c41_31) .ret)))))
def c41 : SFunc := ⟨1, 99, c41_body, [.tmp 2]⟩
/- jacquard/prog.Ok -/
def c59_0 : List SOper := [o_ 1 (.box (t_ 0)),
  o_ 2 (.mov (.const (.bool false)))]
def c59_1 : List SOper := [o_ 8 (.fld 2 (t_ 1)),
  o_ 9 (.load1 (t_ 8)),
  o_ 10 (.lenS (t_ 9)),
  o_ 11 (.bin .eql (t_ 10) (k_ 0)),
  o_ 12 (.mov (t_ 11)),
  g_ 13 12 false (.fld 2 (t_ 1)),
  g_ 14 12 false (.load1 (t_ 13)),
  g_ 15 12 false (.lenS (t_ 14)),
  g_ 16 12 false (.bin .gtr (t_ 15) (k_ 4)),
  o_ 17 (.pick (t_ 12) (.const (.bool true)) (t_ 16)),
  o_ 18 (.mov (t_ 17)),
  g_ 19 18 false (.fld 0 (t_ 1)),
  g_ 20 18 false (.load1 (t_ 19)),
  g_ 21 18 false (.lenS (t_ 20)),
  g_ 22 18 false (.bin .gtr (t_ 21) (k_ 4)),
  o_ 23 (.pick (t_ 18) (.const (.bool true)) (t_ 22)),
  o_ 24 (.mov (t_ 23)),
  g_ 25 24 false (.fld 1 (t_ 1)),
  g_ 26 24 false (.load1 (t_ 25)),
  g_ 27 24 false (.lenS (t_ 26)),
  g_ 28 24 false (.fld 0 (t_ 1)),
  g_ 29 24 false (.load1 (t_ 28)),
  g_ 30 24 false (.lenS (t_ 29)),
  g_ 31 24 false (.bin .neq (t_ 27) (t_ 30)),
  o_ 32 (.pick (t_ 24) (.const (.bool true)) (t_ 31)),
  o_ 33 (.mov (t_ 32)),
  g_ 34 33 false (.loadN 3 (t_ 1)),
  g_ 35 33 false (.call 104 [(t_ 34)]),
  g_ 36 33 false (.bin .gtr (t_ 35) (k_ 24)),
  o_ 37 (.pick (t_ 33) (.const (.bool true)) (t_ 36))]
def c59_2 : List SOper := [o_ 2 (.mov (.const (.bool false)))]
def c59_3 : List SOper := [o_ 38 (.fld 0 (t_ 1)),
  o_ 39 (.load1 (t_ 38)),
  o_ 40 (.lenS (t_ 39)),
  o_ 41 (.mov (k_ 0))]
def c59_4 : List SOper := [o_ 42 (.bin .lss (t_ 41) (t_ 40))]
def c59_5 : List SOper := [o_ 43 (.mov (t_ 41)),
  o_ 44 (.idxS 1 (t_ 39) (t_ 41)),
  o_ 45 (.load1 (t_ 44)),
  o_ 3 (.mov (t_ 43)),
  o_ 4 (.mov (t_ 45))]
def c59_6 : List SOper := [o_ 46 (.mov (t_ 4)),
  o_ 47 (.conv .i64 (t_ 46)),
  o_ 48 (.call 105 [(t_ 47)]),
  o_ 49 (.un .not (t_ 48)),
  o_ 50 (.mov (t_ 49)),
  g_ 51 50 false (.mov (t_ 3)),
  g_ 52 50 false (.bin .gtr (t_ 51) (k_ 0)),
  g_ 53 50 false (.mov (t_ 52)),
  g_ 54 53 true (.mov (t_ 4)),
  g_ 55 53 true (.fld 0 (t_ 1)),
  g_ 56 53 true (.load1 (t_ 55)),
  g_ 57 53 true (.mov (t_ 3)),
  g_ 58 53 true (.bin .sub (t_ 57) (k_ 1)),
  g_ 59 53 true (.idxS 1 (t_ 56) (t_ 58)),
  g_ 60 53 true (.load1 (t_ 59)),
  g_ 61 53 true (.bin .leq (t_ 54) (t_ 60)),
  g_ 62 50 false (.pick (t_ 53) (t_ 61) (.const (.bool false))),
  o_ 63 (.pick (t_ 50) (.const (.bool true)) (t_ 62))]
def c59_7 : List SOper := [o_ 2 (.mov (.const (.bool false)))]
def c59_8 : List SOper := [o_ 64 (.bin .add (t_ 41) (k_ 1)),
  o_ 41 (.mov (t_ 64))]
def c59_9 : SCode := (.seq (.reg [1, 39, 40, 41, 42] c59_4) (.seq (.cond (t_ 42) .skip (.exit 0)) (.seq (.block 1 (.seq (.reg [1, 3, 4, 39, 40, 41] c59_5) (.seq (.reg [1, 39, 40, 41, 63] c59_6) (.cond (t_ 63) (.seq (.reg [2] c59_7) .ret) .skip)))) (.reg [1, 39, 40, 41] c59_8))))
def c59_10 : List SOper := [o_ 65 (.mkfunc 106 [] [(t_ 1)]),
  o_ 5 (.alloc [.nilFunc]),
  n_ (.store1 (t_ 5) (t_ 65))]
def c59_11 : List SOper := [o_ 66 (.fld 2 (t_ 1)),
  o_ 67 (.load1 (t_ 66)),
  o_ 68 (.lenS (t_ 67)),
  o_ 69 (.mov (k_ 0))]
def c59_12 : List SOper := [o_ 70 (.bin .lss (t_ 69) (t_ 68))]
def c59_13 : List SOper := [o_ 71 (.idxS 1 (t_ 67) (t_ 69)),
  o_ 72 (.load1 (t_ 71)),
  o_ 7 (.mov (t_ 72))]
def c59_14 : List SOper := [o_ 73 (.mov (t_ 7)),
  o_ 74 (.lenS (t_ 73)),
  o_ 75 (.bin .gtr (t_ 74) (k_ 10)),
  o_ 76 (.mov (t_ 75)),
  g_ 77 76 false (.mov (t_ 7)),
  g_ 78 76 false (.call 107 [(t_ 77)]),
  g_ 79 76 false (.un .not (t_ 78)),
  o_ 80 (.pick (t_ 76) (.const (.bool true)) (t_ 79)),
  o_ 81 (.mov (t_ 80)),
  g_ 82 81 false (.mov (t_ 7)),
  g_ 83 81 false (.mkfunc 109 [] [(t_ 5)]),
  g_ 84 81 false (.call 108 [(t_ 82), (t_ 83)]),
  o_ 85 (.pick (t_ 81) (.const (.bool true)) (t_ 84))]
def c59_15 : List SOper := [o_ 2 (.mov (.const (.bool false)))]
def c59_16 : List SOper := [o_ 86 (.bin .add (t_ 69) (k_ 1)),
  o_ 69 (.mov (t_ 86))]
def c59_17 : SCode := (.seq (.reg [5, 67, 68, 69, 70] c59_12) (.seq (.cond (t_ 70) .skip (.exit 2)) (.seq (.block 3 (.seq (.reg [5, 7, 67, 68, 69] c59_13) (.seq (.reg [5, 67, 68, 69, 85] c59_14) (.cond (t_ 85) (.seq (.reg [2] c59_15) .ret) .skip)))) (.reg [5, 67, 68, 69] c59_16))))
def c59_18 : List SOper := [o_ 2 (.mov (.const (.bool true)))]
def c59_body : SCode := (.seq (.reg [1] c59_0) (.seq (.seq (.reg [1, 37] c59_1) (.cond (t_ 37) (.seq (.reg [2] c59_2) .ret) .skip)) (.seq (.seq (.reg [1, 39, 40, 41] c59_3) (.block 0 (.loop [1, 39, 40, 41] c59_9))) (.seq (.reg [1, 5] c59_10) (.seq (.seq (.reg [5, 67, 68, 69] c59_11) (.block 2 (.loop [5, 67, 68, 69] c59_17))) (.seq (.reg [2] c59_18) .ret))))))
def c59 : SFunc := ⟨1, 87, c59_body, [.tmp 2]⟩
/- jacquard/prog.Start -/
def c60_0 : List SOper := [o_ 2 (.box (t_ 0)),
  o_ 4 (.alloc (zi 5))]
def c60_1 : List SOper := [o_ 5 (.loadN 3 (t_ 2)),
  o_ 6 (.mov (t_ 1)),
  o_ 7 (.call 112 [(t_ 5), (t_ 6)]),
  o_ 8 (.build (zi 5) []),
  o_ 9 (.call 111 [(t_ 7), (t_ 8)]),
  n_ (.storeN 5 (t_ 4) (t_ 9))]
def c60_body : SCode := (.seq (.reg [1, 2, 4] c60_0) (.seq (.reg [4] c60_1) .ret))
def c60 : SFunc := ⟨2, 10, c60_body, [.cellN 4 5]⟩
/- (*jacquard/exec.walk).run -/
def c61_0 : List SOper := [o_ 9 (.mov (t_ 0)),
  o_ 10 (.nilchk (t_ 9)),
  o_ 11 (.fld 3 (t_ 10)),
  o_ 12 (.load1 (t_ 11)),
  o_ 13 (.mov (t_ 1)),
  o_ 14 (.idxS 18 (t_ 12) (t_ 13)),
  o_ 4 (.mov (t_ 14))]
def c61_1 : List SOper := [⟨(some 16), .mov (t_ 0), none, [0], 0, [], 0, 0, []⟩,
  ⟨(some 17), .nilchk (t_ 16), none, [16], 1, [0], 0, 0, []⟩,
  ⟨(some 18), .fld 0 (t_ 17), none, [17], 2, [1], 0, 0, []⟩,
  ⟨(some 19), .loadN 3 (t_ 18), none, [18], 3, [2], 0, 0, []⟩,
  ⟨(some 20), .mov (t_ 1), none, [1], 4, [], 0, 0, []⟩,
  ⟨(some 21), .mov (t_ 4), none, [4], 5, [], 0, 0, []⟩,
  ⟨(some 22), .nilchk (t_ 21), none, [21], 6, [5], 0, 0, []⟩,
  ⟨(some 23), .fld 2 (t_ 22), none, [22], 7, [6], 0, 0, []⟩,
  ⟨(some 24), .loadN 5 (t_ 23), none, [23], 8, [7], 0, 0, []⟩,
  ⟨(some 5), .alloc (zi 9), none, [], 13, [], 0, 0, []⟩,
  ⟨(some 25), .call 113 [(t_ 19), (t_ 20), (t_ 24)], none, [19, 20, 24], 9, [3, 4, 8], 0, 0, []⟩,
  ⟨(some 15), .mov (t_ 25), none, [25], 10, [9], 0, 0, []⟩,
  ⟨(some 26), .extr (t_ 15) 0, none, [15], 11, [10], 0, 0, []⟩,
  ⟨(some 27), .extr (t_ 15) 1, none, [15], 12, [10], 0, 0, []⟩,
  ⟨(some 6), .mov (t_ 27), none, [27], 15, [12, 14, 0, 1, 2, 3, 4, 5, 6, 7, 8, 9, 10, 11, 12, 13, 14], 0, 0, []⟩]
def c61_1b : List SOper := [⟨none, .storeN 9 (t_ 5) (t_ 26), none, [5, 26], 14, [13, 11, 9, 0, 1, 2, 3, 4, 5, 6, 7, 8, 9, 10, 11, 13], 0, 0, [3, 8, 13]⟩]
def c61_2 : List SOper := [o_ 28 (.mov (t_ 4)),
  o_ 29 (.nilchk (t_ 28)),
  o_ 30 (.fld 16 (t_ 29)),
  n_ (.store1 (t_ 30) (.const (.bool false)))]
def c61_3 : List SOper := [o_ 31 (.mov (t_ 6)),
  o_ 32 (.un .not (t_ 31))]
def c61_4 : List SOper := [⟨(some 34), .loadN 9 (t_ 5), none, [5], 0, [], 0, 0, []⟩,
  ⟨(some 35), .mov (t_ 4), none, [4], 1, [], 0, 0, []⟩,
  ⟨(some 36), .nilchk (t_ 35), none, [35], 2, [1], 0, 0, []⟩,
  ⟨(some 37), .fld 2 (t_ 36), none, [36], 3, [2], 0, 0, []⟩,
  ⟨(some 38), .loadN 5 (t_ 37), none, [37], 4, [3], 0, 0, []⟩,
  ⟨(some 7), .alloc (zi 6), none, [], 9, [], 0, 0, []⟩,
  ⟨(some 39), .call 114 [(t_ 34), (t_ 38), (k_ 0)], none, [34, 38], 5, [0, 4], 0, 0, []⟩,
  ⟨(some 33), .mov (t_ 39), none, [39], 6, [5], 0, 0, []⟩,
  ⟨(some 40), .extr (t_ 33) 0, none, [33], 7, [6], 0, 0, []⟩,
  ⟨(some 41), .extr (t_ 33) 1, none, [33], 8, [6], 0, 0, []⟩,
  ⟨(some 8), .mov (t_ 41), none, [41], 11, [8, 10, 0, 1, 2, 3, 4, 5, 6, 7, 8, 9, 10], 0, 0, []⟩]
def c61_4b : List SOper := [⟨none, .storeN 6 (t_ 7) (t_ 40), none, [7, 40], 10, [9, 7, 5, 0, 1, 2, 3, 4, 5, 6, 7, 9], 0, 0, [0, 4, 9]⟩]
def c61_5 : List SOper := [o_ 42 (.mov (t_ 8))]
def c61_6 : List SOper := [o_ 43 (.mov (t_ 4)),
  o_ 44 (.mov (t_ 4)),
  o_ 45 (.loadN 9 (t_ 5)),
  o_ 46 (.nilchk (t_ 43)),
  o_ 47 (.fld 7 (t_ 46)),
  n_ (.storeN 9 (t_ 47) (t_ 45)),
  o_ 48 (.nilchk (t_ 44)),
  o_ 49 (.fld 16 (t_ 48)),
  n_ (.store1 (t_ 49) (.const (.bool true)))]
def c61_7 : List SOper := [o_ 50 (.mov (t_ 0)),
  o_ 51 (.mov (t_ 1)),
  o_ 52 (.loadN 6 (t_ 7)),
  o_ 53 (.call 115 [(t_ 50), (t_ 51), (t_ 52), (k_ (-1))])]
def c61_8 : List SOper := [⟨(some 54), .mov (t_ 4), none, [4], 0, [], 0, 0, []⟩,
  ⟨(some 55), .mov (t_ 0), none, [0], 1, [], 0, 0, []⟩,
  ⟨(some 56), .nilchk (t_ 55), none, [55], 2, [1], 0, 0, []⟩,
  ⟨(some 57), .fld 0 (t_ 56), none, [56], 3, [2], 0, 0, []⟩,
  ⟨(some 58), .loadN 3 (t_ 57), none, [57], 4, [3], 0, 0, []⟩,
  ⟨(some 59), .mov (t_ 1), none, [1], 5, [], 0, 0, []⟩,
  ⟨(some 60), .mov (t_ 4), none, [4], 6, [], 0, 0, []⟩,
  ⟨(some 61), .nilchk (t_ 60), none, [60], 7, [6], 0, 0, []⟩,
  ⟨(some 62), .fld 2 (t_ 61), none, [61], 8, [7], 0, 0, []⟩,
  ⟨(some 63), .loadN 5 (t_ 62), none, [62], 9, [8], 0, 0, []⟩,
  ⟨(some 64), .call 116 [(t_ 58), (t_ 59), (t_ 63), (k_ 0)], none, [58, 59, 63], 10, [4, 5, 9], 0, 0, []⟩,
  ⟨(some 65), .nilchk (t_ 54), none, [54], 11, [0, 0, 1, 2, 3, 4, 5, 6, 7, 8, 9, 10], 0, 0, []⟩,
  ⟨(some 66), .fld 2 (t_ 65), none, [65], 12, [11, 0, 1, 2, 3, 4, 5, 6, 7, 8, 9, 10], 0, 0, []⟩]
def c61_8b : List SOper := [⟨none, .storeN 5 (t_ 66) (t_ 64), none, [66, 64], 13, [12, 10, 10, 0, 1, 2, 3, 4, 5, 6, 7, 8, 9, 10], 0, 0, [4, 9]⟩]
def c61_9 : SCode := (.block 1 (.seq (.dreg [0, 1, 4, 5, 6] c61_1 c61_1b) (.seq (.seq (.reg [0, 1, 4, 5, 6] c61_2) (.seq (.reg [0, 1, 4, 5, 32] c61_3) (.cond (t_ 32) .ret .skip))) (.seq (.dreg [0, 1, 4, 5, 7, 8] c61_4 c61_4b) (.seq (.seq (.reg [0, 1, 4, 5, 7, 42] c61_5) (.cond (t_ 42) (.seq (.reg [] c61_6) .ret) .skip)) (.seq (.reg [0, 1, 4] c61_7) (.dreg [0, 1, 4] c61_8 c61_8b)))))))
def c61_body : SCode := (.seq (.reg [0, 1, 4] c61_0) (.block 0 (.loop [0, 1, 4] c61_9)))
def c61 : SFunc := ⟨2, 67, c61_body, []⟩
/- (*jacquard/exec.walk).on -/
def c62_0 : List SOper := [o_ 2 (.mov (.const (.bool false)))]
def c62_1 : List SOper := [o_ 3 (.mov (.const (.bool true)))]
def c62_2 : List SOper := [o_ 9 (.mov (t_ 0)),
  o_ 10 (.nilchk (t_ 9)),
  o_ 11 (.loadN 7 (t_ 10)),
  o_ 4 (.alloc [(.slice none 0 0), (.slice none 0 0), (.slice none 0 0), (.slice none 0 0), (.slice none 0 0), .nilFunc, .nilFunc]),
  n_ (.storeN 7 (t_ 4) (t_ 11))]
def c62_3 : List SOper := [o_ 12 (.mov (t_ 0)),
  o_ 13 (.nilchk (t_ 12)),
  o_ 14 (.fld 3 (t_ 13)),
  o_ 15 (.load1 (t_ 14)),
  o_ 16 (.call 117 [(t_ 15)]),
  o_ 17 (.fld 3 (t_ 4)),
  n_ (.store1 (t_ 17) (t_ 16))]
def c62_4 : List SOper := [o_ 18 (.mov (t_ 0)),
  o_ 19 (.nilchk (t_ 18)),
  o_ 20 (.fld 3 (t_ 19)),
  o_ 21 (.load1 (t_ 20)),
  o_ 22 (.lenS (t_ 21)),
  o_ 23 (.mov (k_ 0))]
def c62_5 : List SOper := [o_ 24 (.bin .lss (t_ 23) (t_ 22))]
def c62_6 : List SOper := [o_ 25 (.mov (t_ 23)),
  o_ 26 (.idxS 18 (t_ 21) (t_ 23)),
  o_ 27 (.loadN 18 (t_ 26)),
  o_ 6 (.alloc [(.slice none 0 0), (.slice none 0 0), (.int .i64 (0)), (.int .i64 (0)), (.int .i64 (0)), (.int .i64 (0)), (.int .i64 (0)), (.int .i64 (0)), (.int .i64 (0)), (.int .i64 (0)), (.int .i64 (0)), (.int .i64 (0)), (.int .i64 (0)), (.int .i64 (0)), (.int .i64 (0)), (.int .i64 (0)), (.bool false), (.int .i64 (0))]),
  o_ 5 (.mov (t_ 25)),
  n_ (.storeN 18 (t_ 6) (t_ 27))]
def c62_7 : List SOper := [o_ 28 (.fld 16 (t_ 6)),
  o_ 29 (.load1 (t_ 28)),
  o_ 30 (.un .not (t_ 29))]
def c62_8 : List SOper := [o_ 3 (.mov (.const (.bool false)))]
def c62_9 : List SOper := [o_ 31 (.fld 17 (t_ 6)),
  o_ 32 (.load1 (t_ 31)),
  o_ 7 (.mov (t_ 32))]
def c62_10 : List SOper := [o_ 33 (.mov (t_ 7)),
  o_ 34 (.mov (t_ 0)),
  o_ 35 (.nilchk (t_ 34)),
  o_ 36 (.fld 4 (t_ 35)),
  o_ 37 (.load1 (t_ 36)),
  o_ 38 (.lenS (t_ 37)),
  o_ 39 (.bin .lss (t_ 33) (t_ 38))]
def c62_11 : List SOper := [⟨(some 42), .mov (t_ 0), none, [0], 0, [], 0, 0, []⟩,
  ⟨(some 43), .nilchk (t_ 42), none, [42], 1, [0], 0, 0, []⟩,
  ⟨(some 44), .fld 4 (t_ 43), none, [43], 2, [1], 0, 0, []⟩,
  ⟨(some 45), .load1 (t_ 44), none, [44], 3, [2], 0, 0, []⟩,
  ⟨(some 46), .mov (t_ 7), none, [7], 4, [], 0, 0, []⟩,
  ⟨(some 47), .idxS 4 (t_ 45) (t_ 46), none, [45, 46], 5, [3, 4], 0, 0, []⟩,
  ⟨(some 48), .fld 2 (t_ 47), none, [47], 6, [5], 0, 0, []⟩,
  ⟨(some 49), .load1 (t_ 48), none, [48], 7, [6], 0, 0, []⟩,
  ⟨(some 50), .fld 7 (t_ 6), none, [6], 8, [], 0, 0, []⟩,
  ⟨(some 51), .fld 2 (t_ 50), none, [50], 9, [8], 0, 0, []⟩,
  ⟨(some 52), .load1 (t_ 51), none, [51], 10, [9], 0, 0, []⟩,
  ⟨(some 53), .bin .neq (t_ 49) (t_ 52), none, [49, 52], 11, [7, 10], 0, 0, []⟩]
def c62_12 : List SOper := [o_ 54 (.loadN 7 (t_ 4)),
  o_ 8 (.alloc [(.slice none 0 0), (.slice none 0 0), (.slice none 0 0), (.slice none 0 0), (.slice none 0 0), .nilFunc, .nilFunc]),
  n_ (.storeN 7 (t_ 8) (t_ 54))]
def c62_13 : List SOper := [o_ 55 (.fld 3 (t_ 4)),
  o_ 56 (.load1 (t_ 55)),
  o_ 57 (.call 117 [(t_ 56)]),
  o_ 58 (.fld 3 (t_ 8)),
  n_ (.store1 (t_ 58) (t_ 57))]
def c62_14 : List SOper := [o_ 59 (.mov (t_ 5)),
  o_ 60 (.mov (t_ 7)),
  o_ 61 (.call 118 [(t_ 8), (t_ 59), (t_ 60)])]
def c62_15 : List SOper := [⟨(some 62), .mov (t_ 0), none, [0], 0, [], 0, 0, []⟩,
  ⟨(some 63), .nilchk (t_ 62), none, [62], 1, [0], 0, 0, []⟩,
  ⟨(some 64), .fld 5 (t_ 63), none, [63], 2, [1], 0, 0, []⟩,
  ⟨(some 65), .load1 (t_ 64), none, [64], 3, [2], 0, 0, []⟩,
  ⟨(some 66), .isnil 3 true (t_ 65), none, [65], 4, [3], 0, 0, []⟩,
  ⟨(some 67), .mov (t_ 66), none, [66], 5, [4], 0, 0, []⟩,
  ⟨(some 68), .mov (t_ 0), (some (67, true)), [0, 67], 6, [5], 0, 0, []⟩,
  ⟨(some 69), .nilchk (t_ 68), (some (67, true)), [68, 67], 7, [6, 5], 0, 0, []⟩,
  ⟨(some 70), .fld 5 (t_ 69), (some (67, true)), [69, 67], 8, [7, 5], 0, 0, []⟩,
  ⟨(some 71), .load1 (t_ 70), (some (67, true)), [70, 67], 9, [8, 5], 0, 1, []⟩,
  ⟨(some 72), .call 119 [(t_ 8)], (some (67, true)), [8, 67], 10, [5, 5], 0, 0, []⟩,
  ⟨(some 73), .extr (t_ 72) 0, (some (67, true)), [72, 67], 11, [10, 5], 0, 0, []⟩,
  ⟨(some 74), .extr (t_ 72) 1, (some (67, true)), [72, 67], 12, [10, 5], 0, 0, []⟩,
  ⟨(some 75), .callv (t_ 71) [(t_ 73), (t_ 74)], (some (67, true)), [71, 73, 74, 67], 13, [9, 11, 12, 10, 5], 0, 0, []⟩,
  ⟨(some 76), .un .not (t_ 75), (some (67, true)), [75, 67], 14, [13, 5], 0, 0, []⟩,
  ⟨(some 77), .pick (t_ 67) (t_ 76) (.const (.bool false)), none, [67, 76], 15, [5, 14], 0, 0, []⟩]
def c62_15b : List SOper := []
def c62_16 : List SOper := [o_ 78 (.call 62 [(t_ 8)]),
  o_ 79 (.un .not (t_ 78))]
def c62_17 : List SOper := [o_ 2 (.mov (.const (.bool false)))]
def c62_18 : List SOper := [o_ 40 (.mov (t_ 7)),
  o_ 41 (.bin .add (t_ 40) (k_ 1)),
  o_ 7 (.mov (t_ 41))]
def c62_19 : SCode := (.seq (.seq (.reg [0, 3, 4, 5, 6, 7, 21, 22, 23, 39] c62_10) (.cond (t_ 39) .skip (.exit 2))) (.seq (.block 3 (.seq (.seq (.qreg [0, 3, 4, 5, 6, 7, 21, 22, 23, 53] c62_11) (.cond (t_ 53) (.exit 3) .skip)) (.seq (.reg [0, 3, 4, 5, 6, 7, 8, 21, 22, 23] c62_12) (.seq (.reg [0, 3, 4, 5, 6, 7, 8, 21, 22, 23] c62_13) (.seq (.reg [0, 3, 4, 5, 6, 7, 8, 21, 22, 23] c62_14) (.seq (.seq (.dreg [0, 3, 4, 5, 6, 7, 8, 21, 22, 23, 77] c62_15 c62_15b) (.cond (t_ 77) (.exit 3) .skip)) (.seq (.reg [0, 3, 4, 5, 6, 7, 21, 22, 23, 79] c62_16) (.cond (t_ 79) (.seq (.reg [2] c62_17) .ret) .skip)))))))) (.reg [0, 3, 4, 5, 6, 7, 21, 22, 23] c62_18)))
def c62_20 : List SOper := [o_ 80 (.mov (t_ 0)),
  o_ 81 (.mov (t_ 5)),
  o_ 82 (.fld 7 (t_ 6)),
  o_ 83 (.fld 2 (t_ 82)),
  o_ 84 (.load1 (t_ 83)),
  o_ 85 (.call 120 [(t_ 80), (t_ 81), (t_ 84)]),
  o_ 86 (.un .not (t_ 85))]
def c62_21 : List SOper := [o_ 2 (.mov (.const (.bool true)))]
def c62_22 : List SOper := [⟨(some 87), .fld 3 (t_ 4), none, [4], 0, [], 0, 0, []⟩,
  ⟨(some 88), .load1 (t_ 87), none, [87], 1, [0], 0, 0, []⟩,
  ⟨(some 89), .mov (t_ 5), none, [5], 2, [], 0, 0, []⟩,
  ⟨(some 90), .mov (t_ 0), none, [0], 3, [], 0, 0, []⟩,
  ⟨(some 91), .nilchk (t_ 90), none, [90], 4, [3], 0, 0, []⟩,
  ⟨(some 92), .fld 4 (t_ 91), none, [91], 5, [4], 0, 0, []⟩,
  ⟨(some 93), .load1 (t_ 92), none, [92], 6, [5], 0, 0, []⟩,
  ⟨(some 94), .lenS (t_ 93), none, [93], 7, [6], 0, 0, []⟩,
  ⟨(some 95), .idxS 18 (t_ 88) (t_ 89), none, [88, 89], 8, [1, 2, 0, 1, 2, 3, 4, 5, 6, 7], 0, 0, []⟩,
  ⟨(some 96), .fld 17 (t_ 95), none, [95], 9, [8, 0, 1, 2, 3, 4, 5, 6, 7], 0, 0, []⟩]
def c62_22b : List SOper := [⟨none, .store1 (t_ 96) (t_ 94), none, [96, 94], 10, [9, 7, 0, 1, 2, 3, 4, 5, 6, 7], 0, 0, [1, 6]⟩]
def c62_23 : List SOper := [o_ 97 (.bin .add (t_ 23) (k_ 1)),
  o_ 23 (.mov (t_ 97))]
def c62_24 : SCode := (.seq (.reg [0, 3, 4, 21, 22, 23, 24] c62_5) (.seq (.cond (t_ 24) .skip (.exit 0)) (.seq (.block 1 (.seq (.reg [0, 3, 4, 5, 6, 21, 22, 23] c62_6) (.seq (.seq (.reg [0, 3, 4, 5, 6, 21, 22, 23, 30] c62_7) (.cond (t_ 30) (.exit 1) .skip)) (.seq (.reg [0, 3, 4, 5, 6, 21, 22, 23] c62_8) (.seq (.seq (.reg [0, 3, 4, 5, 6, 7, 21, 22, 23] c62_9) (.block 2 (.loop [0, 3, 4, 5, 6, 7, 21, 22, 23] c62_19))) (.seq (.seq (.reg [0, 3, 4, 5, 21, 22, 23, 86] c62_20) (.cond (t_ 86) (.seq (.reg [2] c62_21) .ret) .skip)) (.dreg [0, 3, 4, 21, 22, 23] c62_22 c62_22b))))))) (.reg [0, 3, 4, 21, 22, 23] c62_23))))
def c62_25 : List SOper := [⟨(some 98), .mov (t_ 3), none, [3], 0, [], 0, 0, []⟩,
  ⟨(some 99), .un .not (t_ 98), none, [98], 1, [0], 0, 0, []⟩,
  ⟨(some 100), .mov (t_ 99), none, [99], 2, [1], 0, 0, []⟩,
  ⟨(some 101), .mov (t_ 0), (some (100, false)), [0, 100], 3, [2], 0, 0, []⟩,
  ⟨(some 102), .nilchk (t_ 101), (some (100, false)), [101, 100], 4, [3, 2], 0, 0, []⟩,
  ⟨(some 103), .fld 6 (t_ 102), (some (100, false)), [102, 100], 5, [4, 2], 0, 0, []⟩,
  ⟨(some 104), .load1 (t_ 103), (some (100, false)), [103, 100], 6, [5, 2], 0, 1, []⟩,
  ⟨(some 105), .mov (t_ 0), (some (100, false)), [0, 100], 7, [2], 0, 0, []⟩,
  ⟨(some 106), .call 119 [(t_ 105)], (some (100, false)), [105, 100], 8, [7, 2, 2], 0, 0, []⟩,
  ⟨(some 107), .extr (t_ 106) 0, (some (100, false)), [106, 100], 9, [8, 2], 0, 0, []⟩,
  ⟨(some 108), .extr (t_ 106) 1, (some (100, false)), [106, 100], 10, [8, 2], 0, 0, []⟩,
  ⟨(some 109), .callv (t_ 104) [(t_ 107), (t_ 108)], (some (100, false)), [104, 107, 108, 100], 11, [6, 9, 10, 8, 2], 0, 0, []⟩,
  ⟨(some 110), .pick (t_ 100) (.const (.bool true)) (t_ 109), none, [100, 109], 12, [2, 11], 0, 0, []⟩,
  ⟨(some 2), .mov (t_ 110), none, [110], 13, [12, 11, 0, 1, 2, 3, 4, 5, 6, 7, 8, 9, 10, 11, 12], 0, 0, []⟩]
def c62_25b : List SOper := []
def c62_body : SCode := (.seq (.reg [0] c62_0) (.seq (.reg [0, 3] c62_1) (.seq (.reg [0, 3, 4] c62_2) (.seq (.reg [0, 3, 4] c62_3) (.seq (.seq (.reg [0, 3, 4, 21, 22, 23] c62_4) (.block 0 (.loop [0, 3, 4, 21, 22, 23] c62_24))) (.seq (.dreg [2] c62_25 c62_25b) .ret))))))
def c62 : SFunc := ⟨1, 111, c62_body, [.tmp 2]⟩
/- jacquard/exec.Writers -/
def c63_0 : List SOper := [o_ 2 (.box (t_ 0)),
  o_ 4 (.mov (.const (.slice none 0 0)))]
def c63_1 : List SOper := [o_ 8 (.fld 0 (t_ 2)),
  o_ 9 (.load1 (t_ 8)),
  o_ 10 (.lenS (t_ 9)),
  o_ 11 (.mkrow 1 24 [(.slice none 0 0)] (t_ 10) (t_ 10)),
  o_ 5 (.mov (t_ 11))]
def c63_2 : List SOper := [o_ 12 (.mov (t_ 1)),
  o_ 13 (.lenS (t_ 12)),
  o_ 14 (.mov (k_ 0))]
def c63_3 : List SOper := [o_ 15 (.bin .lss (t_ 14) (t_ 13))]
def c63_4 : List SOper := [o_ 16 (.mov (t_ 14)),
  o_ 17 (.idxS 6 (t_ 12) (t_ 14)),
  o_ 18 (.loadN 6 (t_ 17)),
  o_ 7 (.alloc (zi 6)),
  o_ 6 (.mov (t_ 16)),
  n_ (.storeN 6 (t_ 7) (t_ 18))]
def c63_5 : List SOper := [o_ 19 (.loadN 6 (t_ 7)),
  o_ 20 (.call 101 [(t_ 19)])]
def c63_6 : List SOper := [⟨(some 21), .mov (t_ 5), none, [5], 0, [], 0, 0, []⟩,
  ⟨(some 22), .fld 3 (t_ 7), none, [7], 1, [], 0, 0, []⟩,
  ⟨(some 23), .load1 (t_ 22), none, [22], 2, [1], 0, 1, []⟩,
  ⟨(some 24), .mov (t_ 5), none, [5], 3, [], 0, 0, []⟩,
  ⟨(some 25), .fld 3 (t_ 7), none, [7], 4, [], 0, 0, []⟩,
  ⟨(some 26), .load1 (t_ 25), none, [25], 5, [4], 0, 0, []⟩,
  ⟨(some 27), .idxS 1 (t_ 24) (t_ 26), none, [24, 26], 6, [3, 5], 0, 0, []⟩,
  ⟨(some 28), .load1 (t_ 27), none, [27], 7, [6], 0, 0, []⟩,
  ⟨(some 29), .mov (t_ 6), none, [6], 8, [], 0, 0, []⟩,
  ⟨(some 30), .mkslice 1 [(.int .i64 (0))] [(0, 1, (t_ 29))], none, [29], 9, [8], 0, 0, []⟩,
  ⟨(some 31), .append 1 8 (t_ 28) (t_ 30), none, [28, 30], 10, [7, 9], 0, 0, [9]⟩,
  ⟨(some 32), .idxS 1 (t_ 21) (t_ 23), none, [21, 23], 11, [0, 2, 0, 1, 2, 3, 4, 5, 6, 7, 8, 9, 10], 0, 0, []⟩]
def c63_6b : List SOper := [⟨none, .store1 (t_ 32) (t_ 31), none, [32, 31], 12, [11, 10, 10, 0, 1, 2, 3, 4, 5, 6, 7, 8, 9, 10], 0, 0, [2, 5, 7, 9]⟩]
def c63_7 : List SOper := [o_ 33 (.bin .add (t_ 14) (k_ 1)),
  o_ 14 (.mov (t_ 33))]
def c63_8 : SCode := (.seq (.reg [5, 12, 13, 14, 15] c63_3) (.seq (.cond (t_ 15) .skip (.exit 0)) (.seq (.block 1 (.seq (.reg [5, 6, 7, 12, 13, 14] c63_4) (.seq (.reg [5, 6, 7, 12, 13, 14, 20] c63_5) (.cond (t_ 20) (.dreg [5, 12, 13, 14] c63_6 c63_6b) .skip)))) (.reg [5, 12, 13, 14] c63_7))))
def c63_9 : List SOper := [o_ 34 (.mov (t_ 5)),
  o_ 4 (.mov (t_ 34))]
def c63_body : SCode := (.seq (.reg [1, 2] c63_0) (.seq (.reg [1, 5] c63_1) (.seq (.seq (.reg [5, 12, 13, 14] c63_2) (.block 0 (.loop [5, 12, 13, 14] c63_8))) (.seq (.reg [4] c63_9) .ret))))
def c63 : SFunc := ⟨2, 35, c63_body, [.tmp 4]⟩
/- (jacquard/rel.Rel).Inverse -/
def c64_0 : List SOper := [o_ 1 (.box (t_ 0)),
  o_ 2 (.alloc [(.int .i64 (0)), (.int .u64 (0)), (.int .u64 (0)), (.int .u64 (0)), (.int .u64 (0)), (.int .u64 (0)), (.int .u64 (0)), (.int .u64 (0)), (.int .u64 (0)), (.int .u64 (0)), (.int .u64 (0)), (.int .u64 (0)), (.int .u64 (0)), (.int .u64 (0)), (.int .u64 (0)), (.int .u64 (0)), (.int .u64 (0)), (.int .u64 (0)), (.int .u64 (0)), (.int .u64 (0)), (.int .u64 (0)), (.int .u64 (0)), (.int .u64 (0)), (.int .u64 (0)), (.int .u64 (0)), (.int .u64 (0)), (.int .u64 (0)), (.int .u64 (0)), (.int .u64 (0)), (.int .u64 (0)), (.int .u64 (0)), (.int .u64 (0)), (.int .u64 (0)), (.int .u64 (0)), (.int .u64 (0)), (.int .u64 (0)), (.int .u64 (0)), (.int .u64 (0)), (.int .u64 (0)), (.int .u64 (0)), (.int .u64 (0)), (.int .u64 (0)), (.int .u64 (0)), (.int .u64 (0)), (.int .u64 (0)), (.int .u64 (0)), (.int .u64 (0)), (.int .u64 (0)), (.int .u64 (0)), (.int .u64 (0)), (.int .u64 (0)), (.int .u64 (0)), (.int .u64 (0)), (.int .u64 (0)), (.int .u64 (0)), (.int .u64 (0)), (.int .u64 (0)), (.int .u64 (0)), (.int .u64 (0)), (.int .u64 (0)), (.int .u64 (0)), (.int .u64 (0)), (.int .u64 (0)), (.int .u64 (0)), (.int .u64 (0))])]
def c64_1 : List SOper := [o_ 6 (.fld 0 (t_ 1)),
  o_ 7 (.load1 (t_ 6)),
  o_ 8 (.call 38 [(t_ 7)]),
  o_ 3 (.alloc [(.int .i64 (0)), (.int .u64 (0)), (.int .u64 (0)), (.int .u64 (0)), (.int .u64 (0)), (.int .u64 (0)), (.int .u64 (0)), (.int .u64 (0)), (.int .u64 (0)), (.int .u64 (0)), (.int .u64 (0)), (.int .u64 (0)), (.int .u64 (0)), (.int .u64 (0)), (.int .u64 (0)), (.int .u64 (0)), (.int .u64 (0)), (.int .u64 (0)), (.int .u64 (0)), (.int .u64 (0)), (.int .u64 (0)), (.int .u64 (0)), (.int .u64 (0)), (.int .u64 (0)), (.int .u64 (0)), (.int .u64 (0)), (.int .u64 (0)), (.int .u64 (0)), (.int .u64 (0)), (.int .u64 (0)), (.int .u64 (0)), (.int .u64 (0)), (.int .u64 (0)), (.int .u64 (0)), (.int .u64 (0)), (.int .u64 (0)), (.int .u64 (0)), (.int .u64 (0)), (.int .u64 (0)), (.int .u64 (0)), (.int .u64 (0)), (.int .u64 (0)), (.int .u64 (0)), (.int .u64 (0)), (.int .u64 (0)), (.int .u64 (0)), (.int .u64 (0)), (.int .u64 (0)), (.int .u64 (0)), (.int .u64 (0)), (.int .u64 (0)), (.int .u64 (0)), (.int .u64 (0)), (.int .u64 (0)), (.int .u64 (0)), (.int .u64 (0)), (.int .u64 (0)), (.int .u64 (0)), (.int .u64 (0)), (.int .u64 (0)), (.int .u64 (0)), (.int .u64 (0)), (.int .u64 (0)), (.int .u64 (0)), (.int .u64 (0))]),
  n_ (.storeN 65 (t_ 3) (t_ 8))]
def c64_2 : List SOper := [o_ 9 (.fld 0 (t_ 1)),
  o_ 10 (.load1 (t_ 9)),
  o_ 11 (.mov (k_ 0))]
def c64_3 : List SOper := [o_ 12 (.bin .lss (t_ 11) (t_ 10))]
def c64_4 : List SOper := [o_ 13 (.mov (t_ 11)),
  o_ 4 (.mov (t_ 13))]
def c64_5 : List SOper := [o_ 14 (.mov (t_ 4)),
  o_ 15 (.fld 1 (t_ 1)),
  o_ 16 (.idxA 64 1 (t_ 15) (t_ 14)),
  o_ 17 (.load1 (t_ 16)),
  o_ 5 (.mov (t_ 17))]
def c64_6 : List SOper := [o_ 18 (.mov (t_ 5)),
  o_ 19 (.bin .neq (t_ 18) (.const (.int .u64 (0))))]
def c64_7 : List SOper := [o_ 24 (.mov (t_ 5)),
  o_ 25 (.call 99 [(t_ 24)]),
  o_ 26 (.mov (t_ 5)),
  o_ 27 (.call 99 [(t_ 26)]),
  o_ 28 (.fld 1 (t_ 3)),
  o_ 29 (.idxA 64 1 (t_ 28) (t_ 27)),
  o_ 30 (.load1 (t_ 29)),
  o_ 31 (.mov (t_ 4)),
  o_ 32 (.call 102 [(t_ 30), (t_ 31)]),
  o_ 33 (.fld 1 (t_ 3)),
  o_ 34 (.idxA 64 1 (t_ 33) (t_ 25)),
  n_ (.store1 (t_ 34) (t_ 32))]
def c64_8 : List SOper := [o_ 20 (.mov (t_ 5)),
  o_ 21 (.mov (t_ 5)),
  o_ 22 (.bin .sub (t_ 21) (.const (.int .u64 (1)))),
  o_ 23 (.bin .and (t_ 20) (t_ 22)),
  o_ 5 (.mov (t_ 23))]
def c64_9 : SCode := (.seq (.seq (.reg [1, 2, 3, 4, 5, 10, 11, 19] c64_6) (.cond (t_ 19) .skip (.exit 2))) (.seq (.block 3 (.reg [1, 2, 3, 4, 5, 10, 11] c64_7)) (.reg [1, 2, 3, 4, 5, 10, 11] c64_8)))
def c64_10 : List SOper := [o_ 35 (.bin .add (t_ 11) (k_ 1)),
  o_ 11 (.mov (t_ 35))]
def c64_11 : SCode := (.seq (.reg [1, 2, 3, 10, 11, 12] c64_3) (.seq (.cond (t_ 12) .skip (.exit 0)) (.seq (.block 1 (.seq (.reg [1, 2, 3, 4, 10, 11] c64_4) (.seq (.reg [1, 2, 3, 4, 5, 10, 11] c64_5) (.block 2 (.loop [1, 2, 3, 4, 5, 10, 11] c64_9))))) (.reg [1, 2, 3, 10, 11] c64_10))))
def c64_12 : List SOper := [o_ 36 (.loadN 65 (t_ 3)),
  n_ (.storeN 65 (t_ 2) (t_ 36))]
def c64_body : SCode := (.seq (.reg [1, 2] c64_0) (.seq (.reg [1, 2, 3] c64_1) (.seq (.seq (.reg [1, 2, 3, 10, 11] c64_2) (.block 0 (.loop [1, 2, 3, 10, 11] c64_11))) (.seq (.reg [2] c64_12) .ret))))
def c64 : SFunc := ⟨1, 37, c64_body, [.cellN 2 65]⟩
/- jacquard/exec.Choose$1 -/
def c65_0 : List SOper := [o_ 6 (.mov (.const (.bool false)))]
def c65_1 : List SOper := [⟨(some 7), .load1 (t_ 2), none, [2], 0, [], 0, 0, []⟩,
  ⟨(some 8), .mov (t_ 0), none, [0], 1, [], 0, 0, []⟩,
  ⟨(some 9), .idxS 1 (t_ 7) (t_ 8), none, [7, 8], 2, [0, 1], 0, 0, []⟩,
  ⟨(some 10), .load1 (t_ 9), none, [9], 3, [2], 0, 0, []⟩,
  ⟨(some 11), .loadN 65 (t_ 3), none, [3], 4, [], 0, 0, []⟩,
  ⟨(some 12), .mkfunc 53 [(t_ 11)] [], none, [11], 5, [4], 0, 0, []⟩,
  ⟨(some 13), .mov (t_ 1), none, [1], 6, [], 0, 0, []⟩,
  ⟨(some 14), .call 66 [(t_ 10), (t_ 12), (t_ 13)], none, [10, 12, 13], 7, [3, 5, 6], 0, 0, []⟩,
  ⟨(some 6), .mov (t_ 14), none, [14], 8, [7, 7, 0, 1, 2, 3, 4, 5, 6, 7], 0, 0, []⟩]
def c65_1b : List SOper := []
def c65_body : SCode := (.seq (.reg [0, 1, 2, 3] c65_0) (.seq (.dreg [6] c65_1 c65_1b) .ret))
def c65 : SFunc := ⟨4, 15, c65_body, [.tmp 6]⟩
/- jacquard/exec.rows -/
def c66_0 : List SOper := [o_ 3 (.box (t_ 0)),
  o_ 4 (.box (t_ 1)),
  o_ 5 (.box (t_ 2)),
  o_ 6 (.mov (.const (.bool false)))]
def c66_1 : List SOper := [o_ 9 (.load1 (t_ 3)),
  o_ 10 (.slsl 1 (t_ 9) none (some (k_ 1)) (some (k_ 1))),
  o_ 7 (.alloc [(.slice none 0 0)]),
  n_ (.store1 (t_ 7) (t_ 10))]
def c66_2 : List SOper := [o_ 8 (.alloc [.nilFunc])]
def c66_3 : List SOper := [o_ 11 (.mkfunc 121 [] [(t_ 7), (t_ 3), (t_ 5), (t_ 4), (t_ 8)]),
  n_ (.store1 (t_ 8) (t_ 11))]
def c66_4 : List SOper := [⟨(some 12), .load1 (t_ 8), none, [8], 0, [], 0, 1, []⟩,
  ⟨(some 13), .load1 (t_ 3), none, [3], 1, [], 0, 0, []⟩,
  ⟨(some 14), .idxS 1 (t_ 13) (k_ 0), none, [13], 2, [1], 0, 0, []⟩,
  ⟨(some 15), .load1 (t_ 14), none, [14], 3, [2], 0, 0, []⟩,
  ⟨(some 16), .mkslice 1 [(.int .i64 (0))] [(0, 1, (t_ 15))], none, [15], 4, [3], 0, 0, []⟩,
  ⟨(some 17), .call 122 [(t_ 16)], none, [16], 5, [4], 0, 0, [4]⟩,
  ⟨(some 18), .callv (t_ 12) [(t_ 17)], none, [12, 17], 6, [0, 5, 5], 0, 0, [4]⟩,
  ⟨(some 6), .mov (t_ 18), none, [18], 7, [6, 6, 0, 1, 2, 3, 4, 5, 6], 0, 0, []⟩]
def c66_4b : List SOper := []
def c66_body : SCode := (.seq (.reg [3, 4, 5] c66_0) (.seq (.reg [3, 4, 5, 7] c66_1) (.seq (.reg [3, 4, 5, 7, 8] c66_2) (.seq (.reg [3, 8] c66_3) (.seq (.dreg [6] c66_4 c66_4b) .ret)))))
def c66 : SFunc := ⟨3, 19, c66_body, [.tmp 6]⟩
/- (jacquard/rel.Rel).Row -/
def c53_0 : List SOper := [o_ 2 (.box (t_ 0)),
  o_ 4 (.mov (.const (.int .u64 (0))))]
def c53_1 : List SOper := [o_ 5 (.loadN 65 (t_ 2)),
  o_ 6 (.mov (t_ 1)),
  o_ 7 (.call 98 [(t_ 5), (t_ 6)]),
  o_ 8 (.un .not (t_ 7))]
def c53_2 : List SOper := [o_ 4 (.mov (.const (.int .u64 (0))))]
def c53_3 : List SOper := [o_ 9 (.mov (t_ 1)),
  o_ 10 (.fld 1 (t_ 2)),
  o_ 11 (.idxA 64 1 (t_ 10) (t_ 9)),
  o_ 12 (.load1 (t_ 11)),
  o_ 4 (.mov (t_ 12))]
def c53_body : SCode := (.seq (.reg [1, 2] c53_0) (.seq (.seq (.reg [1, 2, 8] c53_1) (.cond (t_ 8) (.seq (.reg [4] c53_2) .ret) .skip)) (.seq (.reg [4] c53_3) .ret)))
def c53 : SFunc := ⟨2, 13, c53_body, [.tmp 4]⟩
/- jacquard/exec.Orders -/
def c67_0 : List SOper := [o_ 3 (.box (t_ 0)),
  o_ 4 (.box (t_ 1)),
  o_ 5 (.box (t_ 2)),
  o_ 6 (.mov (.const (.bool false)))]
def c67_1 : List SOper := [o_ 9 (.load1 (t_ 4)),
  o_ 10 (.mkrow 1 24 [(.slice none 0 0)] (t_ 9) (t_ 9)),
  o_ 7 (.alloc [(.slice none 0 0)]),
  n_ (.store1 (t_ 7) (t_ 10))]
def c67_2 : List SOper := [o_ 8 (.alloc [.nilFunc])]
def c67_3 : List SOper := [o_ 11 (.mkfunc 123 [] [(t_ 4), (t_ 7), (t_ 5), (t_ 3), (t_ 8)]),
  n_ (.store1 (t_ 8) (t_ 11))]
def c67_4 : List SOper := [o_ 12 (.load1 (t_ 8)),
  o_ 13 (.callv (t_ 12) [(k_ 0)]),
  o_ 6 (.mov (t_ 13))]
def c67_body : SCode := (.seq (.reg [3, 4, 5] c67_0) (.seq (.reg [3, 4, 5, 7] c67_1) (.seq (.reg [3, 4, 5, 7, 8] c67_2) (.seq (.reg [8] c67_3) (.seq (.reg [6] c67_4) .ret)))))
def c67 : SFunc := ⟨3, 14, c67_body, [.tmp 6]⟩
/- jacquard/exec.Choose$2 -/
def c68_0 : List SOper := [o_ 5 (.mov (.const (.bool false)))]
def c68_1 : List SOper := [⟨(some 6), .load1 (t_ 1), none, [1], 0, [], 0, 2, []⟩,
  ⟨(some 7), .load1 (t_ 2), none, [2], 1, [], 0, 0, []⟩,
  ⟨(some 9), .load1 (t_ 3), none, [3], 3, [], 0, 1, []⟩,
  ⟨(some 11), .mov (t_ 0), none, [0], 5, [], 0, 0, []⟩,
  ⟨(some 8), .call 69 [(t_ 7)], none, [7], 2, [1], 0, 0, []⟩,
  ⟨(some 10), .call 70 [(t_ 9)], none, [9], 4, [3, 2], 0, 0, []⟩,
  ⟨(some 12), .build [(.slice none 0 0), (.slice none 0 0), (.slice none 0 0)] [(0, 1, (t_ 8)), (1, 1, (t_ 10)), (2, 1, (t_ 11))], none, [8, 10, 11], 6, [2, 4, 5], 0, 0, []⟩,
  ⟨(some 13), .callv (t_ 6) [(t_ 12)], none, [6, 12], 7, [0, 6, 4], 0, 0, []⟩,
  ⟨(some 5), .mov (t_ 13), none, [13], 8, [7, 7, 0, 1, 2, 3, 4, 5, 6, 7], 0, 0, []⟩]
def c68_1b : List SOper := []
def c68_body : SCode := (.seq (.reg [0, 1, 2, 3] c68_0) (.seq (.dreg [5] c68_1 c68_1b) .ret))
def c68 : SFunc := ⟨4, 14, c68_body, [.tmp 5]⟩
/- slices.Clone[[]jacquard/api.Ev,jacquard/api.Ev] -/
def c69_0 : List SOper := [o_ 2 (.mov (.const (.slice none 0 0)))]
def c69_1 : List SOper := [o_ 3 (.mov (t_ 0)),
  o_ 4 (.isnil 1 false (t_ 3))]
def c69_2 : List SOper := [o_ 2 (.mov (.const (.slice none 0 0)))]
def c69_3 : List SOper := [o_ 5 (.mkslice 0 [] []),
  o_ 6 (.mov (t_ 0)),
  o_ 7 (.append 6 48 (t_ 5) (t_ 6)),
  o_ 2 (.mov (t_ 7))]
def c69_body : SCode := (.seq (.reg [0] c69_0) (.seq (.seq (.reg [0, 4] c69_1) (.cond (t_ 4) (.seq (.reg [2] c69_2) .ret) .skip)) (.seq (.reg [2] c69_3) .ret)))
def c69 : SFunc := ⟨1, 8, c69_body, [.tmp 2]⟩
/- slices.Clone[[]int,int] -/
def c70_0 : List SOper := [o_ 2 (.mov (.const (.slice none 0 0)))]
def c70_1 : List SOper := [o_ 3 (.mov (t_ 0)),
  o_ 4 (.isnil 1 false (t_ 3))]
def c70_2 : List SOper := [o_ 2 (.mov (.const (.slice none 0 0)))]
def c70_3 : List SOper := [o_ 5 (.mkslice 0 [] []),
  o_ 6 (.mov (t_ 0)),
  o_ 7 (.append 1 8 (t_ 5) (t_ 6)),
  o_ 2 (.mov (t_ 7))]
def c70_body : SCode := (.seq (.reg [0] c70_0) (.seq (.seq (.reg [0, 4] c70_1) (.cond (t_ 4) (.seq (.reg [2] c70_2) .ret) .skip)) (.seq (.reg [2] c70_3) .ret)))
def c70 : SFunc := ⟨1, 8, c70_body, [.tmp 2]⟩
/- slices.SortFunc[[]jacquard/api.Exec,jacquard/api.Exec] -/
def c78_0 : List SOper := [o_ 5 (.mov (t_ 0)),
  o_ 6 (.lenS (t_ 5)),
  o_ 4 (.mov (t_ 6))]
def c78_1 : List SOper := [o_ 7 (.mov (t_ 0)),
  o_ 8 (.mov (t_ 4)),
  o_ 9 (.mov (t_ 4)),
  o_ 10 (.conv .u64 (t_ 9)),
  o_ 11 (.call 141 [(t_ 10)]),
  o_ 12 (.mov (t_ 1)),
  o_ 13 (.call 140 [(t_ 7), (k_ 0), (t_ 8), (t_ 11), (t_ 12)])]
def c78_body : SCode := (.seq (.reg [0, 1, 4] c78_0) (.reg [] c78_1))
def c78 : SFunc := ⟨2, 14, c78_body, []⟩
/- jacquard/exec.compare -/
def c79_0 : List SOper := [o_ 2 (.box (t_ 0)),
  o_ 3 (.box (t_ 1)),
  o_ 4 (.mov (k_ 0))]
def c79_1 : List SOper := [⟨(some 5), .fld 0 (t_ 2), none, [2], 0, [], 0, 0, []⟩,
  ⟨(some 6), .load1 (t_ 5), none, [5], 1, [0], 0, 0, []⟩,
  ⟨(some 7), .fld 0 (t_ 3), none, [3], 2, [], 0, 0, []⟩,
  ⟨(some 8), .load1 (t_ 7), none, [7], 3, [2], 0, 0, []⟩,
  ⟨(some 10), .fld 1 (t_ 2), none, [2], 5, [], 0, 0, []⟩,
  ⟨(some 11), .load1 (t_ 10), none, [10], 6, [5], 0, 1, []⟩,
  ⟨(some 12), .fld 1 (t_ 3), none, [3], 7, [], 0, 0, []⟩,
  ⟨(some 13), .load1 (t_ 12), none, [12], 8, [7], 0, 1, []⟩,
  ⟨(some 15), .fld 2 (t_ 2), none, [2], 10, [], 0, 0, []⟩,
  ⟨(some 16), .load1 (t_ 15), none, [15], 11, [10], 0, 2, []⟩,
  ⟨(some 17), .fld 2 (t_ 3), none, [3], 12, [], 0, 0, []⟩,
  ⟨(some 18), .load1 (t_ 17), none, [17], 13, [12], 0, 2, []⟩,
  ⟨(some 9), .call 143 [(t_ 6), (t_ 8), (.func 144)], none, [6, 8], 4, [1, 3], 0, 0, []⟩,
  ⟨(some 14), .call 145 [(t_ 11), (t_ 13)], none, [11, 13], 9, [6, 8, 4], 0, 0, []⟩,
  ⟨(some 19), .call 146 [(t_ 16), (t_ 18), (.func 145)], none, [16, 18], 14, [11, 13, 9], 0, 0, []⟩,
  ⟨(some 20), .mkslice 3 [(.int .i64 (0)), (.int .i64 (0)), (.int .i64 (0))] [(0, 1, (t_ 9)), (1, 1, (t_ 14)), (2, 1, (t_ 19))], none, [9, 14, 19], 15, [4, 9, 14], 0, 0, []⟩,
  ⟨(some 21), .call 142 [(t_ 20)], none, [20], 16, [15, 14], 0, 0, [15]⟩,
  ⟨(some 4), .mov (t_ 21), none, [21], 17, [16, 16, 0, 1, 2, 3, 4, 5, 6, 7, 8, 9, 10, 11, 12, 13, 14, 15, 16], 0, 0, []⟩]
def c79_1b : List SOper := []
def c79_body : SCode := (.seq (.reg [2, 3] c79_0) (.seq (.dreg [4] c79_1 c79_1b) .ret))
def c79 : SFunc := ⟨2, 22, c79_body, [.tmp 4]⟩
/- jacquard/exec.threads -/
def c80_0 : List SOper := [o_ 2 (.box (t_ 0)),
  o_ 4 (.mov (.const (.bool false)))]
def c80_1 : List SOper := [o_ 12 (.loadN 3 (t_ 2)),
  o_ 13 (.call 147 [(t_ 12)]),
  o_ 5 (.mov (t_ 13))]
def c80_2 : List SOper := [o_ 14 (.mov (t_ 1)),
  o_ 15 (.lenS (t_ 14)),
  o_ 16 (.mov (t_ 5)),
  o_ 17 (.lenS (t_ 16)),
  o_ 18 (.bin .lss (t_ 15) (t_ 17)),
  o_ 19 (.mov (t_ 18)),
  g_ 20 19 false (.mov (t_ 1)),
  g_ 21 19 false (.mov (t_ 5)),
  g_ 22 19 false (.lenS (t_ 21)),
  g_ 23 19 false (.slsl 6 (t_ 20) none (some (t_ 22)) none),
  g_ 24 19 false (.mov (t_ 5)),
  g_ 25 19 false (.call 148 [(t_ 23), (t_ 24)]),
  g_ 26 19 false (.un .not (t_ 25)),
  o_ 27 (.pick (t_ 19) (.const (.bool true)) (t_ 26))]
def c80_3 : List SOper := [o_ 4 (.mov (.const (.bool false)))]
def c80_4 : List SOper := [o_ 28 (.mov (t_ 1)),
  o_ 29 (.mov (t_ 5)),
  o_ 30 (.lenS (t_ 29)),
  o_ 31 (.slsl 6 (t_ 28) (some (t_ 30)) none none),
  o_ 1 (.mov (t_ 31))]
def c80_5 : List SOper := [o_ 32 (.fld 2 (t_ 2)),
  o_ 33 (.load1 (t_ 32)),
  o_ 34 (.lenS (t_ 33)),
  o_ 35 (.mov (k_ 0))]
def c80_6 : List SOper := [o_ 36 (.bin .lss (t_ 35) (t_ 34))]
def c80_7 : List SOper := [o_ 37 (.mov (t_ 35)),
  o_ 6 (.mov (t_ 37))]
def c80_8 : List SOper := [o_ 7 (.mov (k_ 0))]
def c80_9 : List SOper := [o_ 8 (.mov (.const (.slice none 0 0)))]
def c80_10 : List SOper := [o_ 38 (.mov (t_ 7)),
  o_ 39 (.mov (t_ 1)),
  o_ 40 (.lenS (t_ 39)),
  o_ 41 (.bin .lss (t_ 38) (t_ 40)),
  o_ 42 (.mov (t_ 41)),
  g_ 43 42 true (.mov (t_ 1)),
  g_ 44 42 true (.mov (t_ 7)),
  g_ 45 42 true (.idxS 6 (t_ 43) (t_ 44)),
  g_ 46 42 true (.fld 0 (t_ 45)),
  g_ 47 42 true (.load1 (t_ 46)),
  g_ 48 42 true (.mov (t_ 6)),
  g_ 49 42 true (.bin .eql (t_ 47) (t_ 48)),
  o_ 50 (.pick (t_ 42) (t_ 49) (.const (.bool false)))]
def c80_11 : List SOper := [o_ 51 (.mov (t_ 1)),
  o_ 52 (.mov (t_ 7)),
  o_ 53 (.idxS 6 (t_ 51) (t_ 52)),
  o_ 54 (.loadN 6 (t_ 53)),
  o_ 55 (.call 100 [(t_ 54)])]
def c80_12 : List SOper := [o_ 56 (.mov (t_ 8)),
  o_ 57 (.mov (t_ 1)),
  o_ 58 (.mov (t_ 7)),
  o_ 59 (.idxS 6 (t_ 57) (t_ 58)),
  o_ 60 (.fld 4 (t_ 59)),
  o_ 61 (.load1 (t_ 60)),
  o_ 62 (.mkslice 1 [(.int .i64 (0))] [(0, 1, (t_ 61))]),
  o_ 63 (.append 1 8 (t_ 56) (t_ 62)),
  o_ 8 (.mov (t_ 63))]
def c80_13 : List SOper := [o_ 64 (.mov (t_ 7)),
  o_ 65 (.bin .add (t_ 64) (k_ 1)),
  o_ 7 (.mov (t_ 65))]
def c80_14 : SCode := (.seq (.seq (.reg [1, 2, 6, 7, 8, 34, 35, 50] c80_10) (.cond (t_ 50) .skip (.exit 2))) (.block 3 (.seq (.seq (.reg [1, 2, 6, 7, 8, 34, 35, 55] c80_11) (.cond (t_ 55) (.reg [1, 2, 6, 7, 8, 34, 35] c80_12) .skip)) (.reg [1, 2, 6, 7, 8, 34, 35] c80_13))))
def c80_15 : List SOper := [o_ 67 (.loadN 3 (t_ 2)),
  o_ 68 (.mov (t_ 6)),
  o_ 69 (.mov (t_ 8)),
  o_ 70 (.call 149 [(t_ 67), (t_ 68), (t_ 69)]),
  o_ 66 (.mov (t_ 70)),
  o_ 71 (.extr (t_ 66) 0),
  o_ 72 (.extr (t_ 66) 1),
  o_ 73 (.extr (t_ 66) 2),
  o_ 10 (.alloc (zi 5)),
  o_ 9 (.mov (t_ 71)),
  n_ (.storeN 5 (t_ 10) (t_ 72)),
  o_ 11 (.mov (t_ 73))]
def c80_16 : List SOper := [o_ 74 (.mov (t_ 11)),
  o_ 75 (.mov (t_ 74)),
  g_ 76 75 false (.mov (t_ 9)),
  g_ 77 75 false (.mov (t_ 1)),
  g_ 78 75 false (.mov (t_ 7)),
  g_ 79 75 false (.slsl 6 (t_ 77) none (some (t_ 78)) none),
  g_ 80 75 false (.call 148 [(t_ 76), (t_ 79)]),
  g_ 81 75 false (.un .not (t_ 80)),
  o_ 82 (.pick (t_ 75) (.const (.bool true)) (t_ 81))]
def c80_17 : List SOper := [o_ 4 (.mov (.const (.bool false)))]
def c80_18 : List SOper := [o_ 83 (.mov (t_ 1)),
  o_ 84 (.mov (t_ 7)),
  o_ 85 (.slsl 6 (t_ 83) (some (t_ 84)) none none),
  o_ 1 (.mov (t_ 85))]
def c80_19 : List SOper := [o_ 86 (.bin .add (t_ 35) (k_ 1)),
  o_ 35 (.mov (t_ 86))]
def c80_20 : SCode := (.seq (.reg [1, 2, 34, 35, 36] c80_6) (.seq (.cond (t_ 36) .skip (.exit 0)) (.seq (.block 1 (.seq (.reg [1, 2, 6, 34, 35] c80_7) (.seq (.reg [1, 2, 6, 7, 34, 35] c80_8) (.seq (.reg [1, 2, 6, 7, 8, 34, 35] c80_9) (.seq (.block 2 (.loop [1, 2, 6, 7, 8, 34, 35] c80_14)) (.seq (.reg [1, 2, 7, 9, 11, 34, 35] c80_15) (.seq (.seq (.reg [1, 2, 7, 34, 35, 82] c80_16) (.cond (t_ 82) (.seq (.reg [4] c80_17) .ret) .skip)) (.reg [1, 2, 34, 35] c80_18)))))))) (.reg [1, 2, 34, 35] c80_19))))
def c80_21 : List SOper := [o_ 87 (.mov (t_ 1)),
  o_ 88 (.lenS (t_ 87)),
  o_ 89 (.bin .eql (t_ 88) (k_ 0)),
  o_ 4 (.mov (t_ 89))]
def c80_body : SCode := (.seq (.reg [1, 2] c80_0) (.seq (.reg [1, 2, 5] c80_1) (.seq (.seq (.reg [1, 2, 5, 27] c80_2) (.cond (t_ 27) (.seq (.reg [4] c80_3) .ret) .skip)) (.seq (.reg [1, 2] c80_4) (.seq (.seq (.reg [1, 2, 34, 35] c80_5) (.block 0 (.loop [1, 2, 34, 35] c80_20))) (.seq (.reg [4] c80_21) .ret))))))
def c80 : SFunc := ⟨2, 90, c80_body, [.tmp 4]⟩
/- jacquard/exec.reads -/
def c81_0 : List SOper := [o_ 1 (.box (t_ 0)),
  o_ 2 (.mov (.const (.bool false)))]
def c81_1 : List SOper := [o_ 8 (.fld 0 (t_ 1)),
  o_ 9 (.load1 (t_ 8)),
  o_ 10 (.call 52 [(t_ 9)]),
  o_ 3 (.alloc [(.int .i64 (0)), (.int .u64 (0)), (.int .u64 (0)), (.int .u64 (0)), (.int .u64 (0)), (.int .u64 (0)), (.int .u64 (0)), (.int .u64 (0)), (.int .u64 (0)), (.int .u64 (0)), (.int .u64 (0)), (.int .u64 (0)), (.int .u64 (0)), (.int .u64 (0)), (.int .u64 (0)), (.int .u64 (0)), (.int .u64 (0)), (.int .u64 (0)), (.int .u64 (0)), (.int .u64 (0)), (.int .u64 (0)), (.int .u64 (0)), (.int .u64 (0)), (.int .u64 (0)), (.int .u64 (0)), (.int .u64 (0)), (.int .u64 (0)), (.int .u64 (0)), (.int .u64 (0)), (.int .u64 (0)), (.int .u64 (0)), (.int .u64 (0)), (.int .u64 (0)), (.int .u64 (0)), (.int .u64 (0)), (.int .u64 (0)), (.int .u64 (0)), (.int .u64 (0)), (.int .u64 (0)), (.int .u64 (0)), (.int .u64 (0)), (.int .u64 (0)), (.int .u64 (0)), (.int .u64 (0)), (.int .u64 (0)), (.int .u64 (0)), (.int .u64 (0)), (.int .u64 (0)), (.int .u64 (0)), (.int .u64 (0)), (.int .u64 (0)), (.int .u64 (0)), (.int .u64 (0)), (.int .u64 (0)), (.int .u64 (0)), (.int .u64 (0)), (.int .u64 (0)), (.int .u64 (0)), (.int .u64 (0)), (.int .u64 (0)), (.int .u64 (0)), (.int .u64 (0)), (.int .u64 (0)), (.int .u64 (0)), (.int .u64 (0))]),
  n_ (.storeN 65 (t_ 3) (t_ 10))]
def c81_2 : List SOper := [o_ 11 (.fld 0 (t_ 1)),
  o_ 12 (.load1 (t_ 11)),
  o_ 13 (.lenS (t_ 12)),
  o_ 14 (.mov (k_ 0))]
def c81_3 : List SOper := [o_ 15 (.bin .lss (t_ 14) (t_ 13))]
def c81_4 : List SOper := [o_ 16 (.mov (t_ 14)),
  o_ 17 (.idxS 6 (t_ 12) (t_ 14)),
  o_ 18 (.loadN 6 (t_ 17)),
  o_ 5 (.alloc (zi 6)),
  o_ 4 (.mov (t_ 16)),
  n_ (.storeN 6 (t_ 5) (t_ 18))]
def c81_5 : List SOper := [o_ 19 (.fld 1 (t_ 1)),
  o_ 20 (.load1 (t_ 19)),
  o_ 21 (.mov (t_ 4)),
  o_ 22 (.idxS 1 (t_ 20) (t_ 21)),
  o_ 23 (.load1 (t_ 22)),
  o_ 6 (.mov (t_ 23))]
def c81_6 : List SOper := [o_ 24 (.loadN 6 (t_ 5)),
  o_ 25 (.call 100 [(t_ 24)]),
  o_ 26 (.un .not (t_ 25))]
def c81_7 : List SOper := [o_ 27 (.mov (t_ 6)),
  o_ 28 (.bin .neq (t_ 27) (k_ (-1)))]
def c81_8 : List SOper := [o_ 2 (.mov (.const (.bool false)))]
def c81_9 : List SOper := [o_ 29 (.mov (t_ 6)),
  o_ 30 (.bin .lss (t_ 29) (k_ 0)),
  o_ 31 (.mov (t_ 30)),
  g_ 32 31 false (.mov (t_ 6)),
  g_ 33 31 false (.fld 0 (t_ 1)),
  g_ 34 31 false (.load1 (t_ 33)),
  g_ 35 31 false (.lenS (t_ 34)),
  g_ 36 31 false (.bin .geq (t_ 32) (t_ 35)),
  o_ 37 (.pick (t_ 31) (.const (.bool true)) (t_ 36)),
  o_ 38 (.mov (t_ 37)),
  g_ 39 38 false (.mov (t_ 6)),
  g_ 40 38 false (.mov (t_ 4)),
  g_ 41 38 false (.bin .eql (t_ 39) (t_ 40)),
  o_ 42 (.pick (t_ 38) (.const (.bool true)) (t_ 41))]
def c81_10 : List SOper := [o_ 2 (.mov (.const (.bool false)))]
def c81_11 : List SOper := [o_ 43 (.fld 0 (t_ 1)),
  o_ 44 (.load1 (t_ 43)),
  o_ 45 (.mov (t_ 6)),
  o_ 46 (.idxS 6 (t_ 44) (t_ 45)),
  o_ 47 (.loadN 6 (t_ 46)),
  o_ 7 (.alloc (zi 6)),
  n_ (.storeN 6 (t_ 7) (t_ 47))]
def c81_12 : List SOper := [o_ 48 (.loadN 6 (t_ 7)),
  o_ 49 (.call 101 [(t_ 48)]),
  o_ 50 (.un .not (t_ 49)),
  o_ 51 (.mov (t_ 50)),
  g_ 52 51 false (.fld 3 (t_ 7)),
  g_ 53 51 false (.load1 (t_ 52)),
  g_ 54 51 false (.fld 3 (t_ 5)),
  g_ 55 51 false (.load1 (t_ 54)),
  g_ 56 51 false (.bin .neq (t_ 53) (t_ 55)),
  o_ 57 (.pick (t_ 51) (.const (.bool true)) (t_ 56)),
  o_ 58 (.mov (t_ 57)),
  g_ 59 58 false (.fld 5 (t_ 7)),
  g_ 60 58 false (.load1 (t_ 59)),
  g_ 61 58 false (.fld 4 (t_ 5)),
  g_ 62 58 false (.load1 (t_ 61)),
  g_ 63 58 false (.bin .neq (t_ 60) (t_ 62)),
  o_ 64 (.pick (t_ 58) (.const (.bool true)) (t_ 63))]
def c81_13 : List SOper := [o_ 2 (.mov (.const (.bool false)))]
def c81_14 : List SOper := [o_ 65 (.loadN 65 (t_ 3)),
  o_ 66 (.mov (t_ 6)),
  o_ 67 (.mov (t_ 4)),
  o_ 68 (.call 56 [(t_ 65), (t_ 66), (t_ 67)]),
  n_ (.storeN 65 (t_ 3) (t_ 68))]
def c81_15 : List SOper := [o_ 69 (.bin .add (t_ 14) (k_ 1)),
  o_ 14 (.mov (t_ 69))]
def c81_16 : SCode := (.seq (.reg [1, 3, 12, 13, 14, 15] c81_3) (.seq (.cond (t_ 15) .skip (.exit 0)) (.seq (.block 1 (.seq (.reg [1, 3, 4, 5, 12, 13, 14] c81_4) (.seq (.reg [1, 3, 4, 5, 6, 12, 13, 14] c81_5) (.seq (.seq (.reg [1, 3, 4, 5, 6, 12, 13, 14, 26] c81_6) (.cond (t_ 26) (.seq (.seq (.reg [1, 3, 12, 13, 14, 28] c81_7) (.cond (t_ 28) (.seq (.reg [2] c81_8) .ret) .skip)) (.exit 1)) .skip)) (.seq (.seq (.reg [1, 3, 4, 5, 6, 12, 13, 14, 42] c81_9) (.cond (t_ 42) (.seq (.reg [2] c81_10) .ret) .skip)) (.seq (.seq (.reg [1, 3, 4, 5, 6, 7, 12, 13, 14] c81_11) (.seq (.reg [1, 3, 4, 6, 12, 13, 14, 64] c81_12) (.cond (t_ 64) (.seq (.reg [2] c81_13) .ret) .skip))) (.reg [1, 3, 12, 13, 14] c81_14))))))) (.reg [1, 3, 12, 13, 14] c81_15))))
def c81_17 : List SOper := [o_ 70 (.loadN 65 (t_ 3)),
  o_ 71 (.call 30 [(t_ 70)]),
  o_ 2 (.mov (t_ 71))]
def c81_body : SCode := (.seq (.reg [1] c81_0) (.seq (.reg [1, 3] c81_1) (.seq (.seq (.reg [1, 3, 12, 13, 14] c81_2) (.block 0 (.loop [1, 3, 12, 13, 14] c81_16))) (.seq (.reg [2] c81_17) .ret))))
def c81 : SFunc := ⟨1, 72, c81_body, [.tmp 2]⟩
/- slices.Sorted[int] -/
def c82_0 : List SOper := [o_ 2 (.mov (.const (.slice none 0 0)))]
def c82_1 : List SOper := [o_ 4 (.mov (t_ 0)),
  o_ 5 (.call 150 [(t_ 4)]),
  o_ 3 (.mov (t_ 5))]
def c82_2 : List SOper := [o_ 6 (.mov (t_ 3)),
  o_ 7 (.call 151 [(t_ 6)])]
def c82_3 : List SOper := [o_ 8 (.mov (t_ 3)),
  o_ 2 (.mov (t_ 8))]
def c82_body : SCode := (.seq (.reg [0] c82_0) (.seq (.reg [3] c82_1) (.seq (.reg [3] c82_2) (.seq (.reg [2] c82_3) .ret))))
def c82 : SFunc := ⟨1, 9, c82_body, [.tmp 2]⟩
/- slices.Values[[]int,int] -/
def c83_0 : List SOper := [o_ 1 (.box (t_ 0)),
  o_ 2 (.mov (.const .nilFunc))]
def c83_1 : List SOper := [o_ 3 (.mkfunc 152 [] [(t_ 1)]),
  o_ 2 (.mov (t_ 3))]
def c83_body : SCode := (.seq (.reg [1] c83_0) (.seq (.reg [2] c83_1) .ret))
def c83 : SFunc := ⟨1, 4, c83_body, [.tmp 2]⟩
/- slices.Equal[[]int,int] -/
def c84_0 : List SOper := [o_ 4 (.mov (.const (.bool false)))]
def c84_1 : List SOper := [o_ 6 (.mov (t_ 0)),
  o_ 7 (.lenS (t_ 6)),
  o_ 8 (.mov (t_ 1)),
  o_ 9 (.lenS (t_ 8)),
  o_ 10 (.bin .neq (t_ 7) (t_ 9))]
def c84_2 : List SOper := [o_ 4 (.mov (.const (.bool false)))]
def c84_3 : List SOper := [o_ 11 (.mov (t_ 0)),
  o_ 12 (.lenS (t_ 11)),
  o_ 13 (.mov (k_ 0))]
def c84_4 : List SOper := [o_ 14 (.bin .lss (t_ 13) (t_ 12))]
def c84_5 : List SOper := [o_ 15 (.mov (t_ 13)),
  o_ 5 (.mov (t_ 15))]
def c84_6 : List SOper := [⟨(some 16), .mov (t_ 0), none, [0], 0, [], 0, 0, []⟩,
  ⟨(some 17), .mov (t_ 5), none, [5], 1, [], 0, 0, []⟩,
  ⟨(some 18), .idxS 1 (t_ 16) (t_ 17), none, [16, 17], 2, [0, 1], 0, 0, []⟩,
  ⟨(some 19), .load1 (t_ 18), none, [18], 3, [2], 0, 0, []⟩,
  ⟨(some 20), .mov (t_ 1), none, [1], 4, [], 0, 0, []⟩,
  ⟨(some 21), .mov (t_ 5), none, [5], 5, [], 0, 0, []⟩,
  ⟨(some 22), .idxS 1 (t_ 20) (t_ 21), none, [20, 21], 6, [4, 5], 0, 0, []⟩,
  ⟨(some 23), .load1 (t_ 22), none, [22], 7, [6], 0, 0, []⟩,
  ⟨(some 24), .bin .neq (t_ 19) (t_ 23), none, [19, 23], 8, [3, 7], 0, 0, []⟩]
def c84_7 : List SOper := [o_ 4 (.mov (.const (.bool false)))]
def c84_8 : List SOper := [o_ 25 (.bin .add (t_ 13) (k_ 1)),
  o_ 13 (.mov (t_ 25))]
def c84_9 : SCode := (.seq (.reg [0, 1, 12, 13, 14] c84_4) (.seq (.cond (t_ 14) .skip (.exit 0)) (.seq (.block 1 (.seq (.reg [0, 1, 5, 12, 13] c84_5) (.seq (.qreg [0, 1, 12, 13, 24] c84_6) (.cond (t_ 24) (.seq (.reg [4] c84_7) .ret) .skip)))) (.reg [0, 1, 12, 13] c84_8))))
def c84_10 : List SOper := [o_ 4 (.mov (.const (.bool true)))]
def c84_body : SCode := (.seq (.reg [0, 1] c84_0) (.seq (.seq (.reg [0, 1, 10] c84_1) (.cond (t_ 10) (.seq (.reg [4] c84_2) .ret) .skip)) (.seq (.seq (.reg [0, 1, 12, 13] c84_3) (.block 0 (.loop [0, 1, 12, 13] c84_9))) (.seq (.reg [4] c84_10) .ret))))
def c84 : SFunc := ⟨2, 26, c84_body, [.tmp 4]⟩
/- strconv.Itoa -/
def c85_0 : List SOper := [o_ 2 (.mov (.const (.string ⟨#[]⟩)))]
def c85_1 : List SOper := [o_ 3 (.mov (t_ 0)),
  o_ 4 (.call 153 [(t_ 3)]),
  o_ 2 (.mov (t_ 4))]
def c85_body : SCode := (.seq (.reg [0] c85_0) (.seq (.reg [2] c85_1) .ret))
def c85 : SFunc := ⟨1, 5, c85_body, [.tmp 2]⟩
/- strconv.FormatInt -/
def c86 : SFunc := ⟨1, 1, .native 3, []⟩
/- strings.Join -/
def c87 : SFunc := ⟨1, 1, .native 2, []⟩
/- jacquard/prog.Size -/
def c104_0 : List SOper := [o_ 1 (.box (t_ 0)),
  o_ 2 (.mov (k_ 0))]
def c104_1 : List SOper := [o_ 3 (.mov (k_ 0))]
def c104_2 : List SOper := [o_ 6 (.fld 2 (t_ 1)),
  o_ 7 (.load1 (t_ 6)),
  o_ 8 (.lenS (t_ 7)),
  o_ 9 (.mov (k_ 0))]
def c104_3 : List SOper := [o_ 10 (.bin .lss (t_ 9) (t_ 8))]
def c104_4 : List SOper := [o_ 11 (.idxS 1 (t_ 7) (t_ 9)),
  o_ 12 (.load1 (t_ 11)),
  o_ 5 (.mov (t_ 12))]
def c104_5 : List SOper := [o_ 13 (.mov (t_ 3)),
  o_ 14 (.mov (t_ 5)),
  o_ 15 (.lenS (t_ 14)),
  o_ 16 (.bin .add (t_ 13) (t_ 15)),
  o_ 3 (.mov (t_ 16))]
def c104_6 : List SOper := [o_ 17 (.bin .add (t_ 9) (k_ 1)),
  o_ 9 (.mov (t_ 17))]
def c104_7 : SCode := (.seq (.reg [3, 7, 8, 9, 10] c104_3) (.seq (.cond (t_ 10) .skip (.exit 0)) (.seq (.block 1 (.seq (.reg [3, 5, 7, 8, 9] c104_4) (.reg [3, 7, 8, 9] c104_5))) (.reg [3, 7, 8, 9] c104_6))))
def c104_8 : List SOper := [o_ 18 (.mov (t_ 3)),
  o_ 2 (.mov (t_ 18))]
def c104_body : SCode := (.seq (.reg [1] c104_0) (.seq (.reg [1, 3] c104_1) (.seq (.seq (.reg [3, 7, 8, 9] c104_2) (.block 0 (.loop [3, 7, 8, 9] c104_7))) (.seq (.reg [2] c104_8) .ret))))
def c104 : SFunc := ⟨1, 19, c104_body, [.tmp 2]⟩
/- jacquard/print.IsLoc -/
def c105_0 : List SOper := [o_ 2 (.mov (.const (.bool false)))]
def c105_1 : List SOper := [o_ 3 (.mov (t_ 0)),
  o_ 4 (.bin .geq (t_ 3) (k_ 97)),
  o_ 5 (.mov (t_ 4)),
  g_ 6 5 true (.mov (t_ 0)),
  g_ 7 5 true (.bin .leq (t_ 6) (k_ 122)),
  o_ 8 (.pick (t_ 5) (t_ 7) (.const (.bool false))),
  o_ 2 (.mov (t_ 8))]
def c105_body : SCode := (.seq (.reg [0] c105_0) (.seq (.reg [2] c105_1) .ret))
def c105 : SFunc := ⟨1, 9, c105_body, [.tmp 2]⟩
/- jacquard/prog.Ok$1 -/
def c106_0 : List SOper := [o_ 3 (.mov (.const (.bool false)))]
def c106_1 : List SOper := [o_ 4 (.mov (t_ 0)),
  o_ 5 (.bin .geq (t_ 4) (k_ 0)),
  o_ 6 (.mov (t_ 5)),
  g_ 7 6 true (.mov (t_ 0)),
  g_ 8 6 true (.fld 0 (t_ 1)),
  g_ 9 6 true (.load1 (t_ 8)),
  g_ 10 6 true (.lenS (t_ 9)),
  g_ 11 6 true (.bin .lss (t_ 7) (t_ 10)),
  o_ 12 (.pick (t_ 6) (t_ 11) (.const (.bool false))),
  o_ 3 (.mov (t_ 12))]
def c106_body : SCode := (.seq (.reg [0, 1] c106_0) (.seq (.reg [3] c106_1) .ret))
def c106 : SFunc := ⟨2, 13, c106_body, [.tmp 3]⟩
/- jacquard/well.Jumps -/
def c107_0 : List SOper := [o_ 2 (.mov (.const (.bool false)))]
def c107_1 : List SOper := [o_ 5 (.mov (t_ 0)),
  o_ 6 (.lenS (t_ 5)),
  o_ 7 (.mov (k_ 0))]
def c107_2 : List SOper := [o_ 8 (.bin .lss (t_ 7) (t_ 6))]
def c107_3 : List SOper := [o_ 9 (.mov (t_ 7)),
  o_ 10 (.idxS 9 (t_ 5) (t_ 7)),
  o_ 11 (.loadN 9 (t_ 10)),
  o_ 4 (.alloc (zi 9)),
  o_ 3 (.mov (t_ 9)),
  n_ (.storeN 9 (t_ 4) (t_ 11))]
def c107_4 : List SOper := [o_ 12 (.fld 0 (t_ 4)),
  o_ 13 (.load1 (t_ 12)),
  o_ 14 (.bin .eql (t_ 13) (k_ 6)),
  o_ 15 (.mov (t_ 14)),
  g_ 16 15 true (.fld 8 (t_ 4)),
  g_ 17 15 true (.load1 (t_ 16)),
  g_ 18 15 true (.bin .lss (t_ 17) (k_ 1)),
  g_ 19 15 true (.mov (t_ 18)),
  g_ 20 19 false (.fld 8 (t_ 4)),
  g_ 21 19 false (.load1 (t_ 20)),
  g_ 22 19 false (.mov (t_ 0)),
  g_ 23 19 false (.lenS (t_ 22)),
  g_ 24 19 false (.mov (t_ 3)),
  g_ 25 19 false (.bin .sub (t_ 23) (t_ 24)),
  g_ 26 19 false (.bin .sub (t_ 25) (k_ 1)),
  g_ 27 19 false (.bin .gtr (t_ 21) (t_ 26)),
  g_ 28 15 true (.pick (t_ 19) (.const (.bool true)) (t_ 27)),
  o_ 29 (.pick (t_ 15) (t_ 28) (.const (.bool false)))]
def c107_5 : List SOper := [o_ 2 (.mov (.const (.bool false)))]
def c107_6 : List SOper := [o_ 30 (.bin .add (t_ 7) (k_ 1)),
  o_ 7 (.mov (t_ 30))]
def c107_7 : SCode := (.seq (.reg [0, 5, 6, 7, 8] c107_2) (.seq (.cond (t_ 8) .skip (.exit 0)) (.seq (.block 1 (.seq (.reg [0, 3, 4, 5, 6, 7] c107_3) (.seq (.reg [0, 5, 6, 7, 29] c107_4) (.cond (t_ 29) (.seq (.reg [2] c107_5) .ret) .skip)))) (.reg [0, 5, 6, 7] c107_6))))
def c107_8 : List SOper := [o_ 2 (.mov (.const (.bool true)))]
def c107_body : SCode := (.seq (.reg [0] c107_0) (.seq (.seq (.reg [0, 5, 6, 7] c107_1) (.block 0 (.loop [0, 5, 6, 7] c107_7))) (.seq (.reg [2] c107_8) .ret)))
def c107 : SFunc := ⟨1, 31, c107_body, [.tmp 2]⟩
/- slices.ContainsFunc[[]jacquard/api.Ins,jacquard/api.Ins] -/
def c108_0 : List SOper := [o_ 4 (.mov (.const (.bool false)))]
def c108_1 : List SOper := [o_ 5 (.mov (t_ 0)),
  o_ 6 (.mov (t_ 1)),
  o_ 7 (.call 171 [(t_ 5), (t_ 6)]),
  o_ 8 (.bin .geq (t_ 7) (k_ 0)),
  o_ 4 (.mov (t_ 8))]
def c108_body : SCode := (.seq (.reg [0, 1] c108_0) (.seq (.reg [4] c108_1) .ret))
def c108 : SFunc := ⟨2, 9, c108_body, [.tmp 4]⟩
/- jacquard/prog.Ok$2 -/
def c109_0 : List SOper := [o_ 2 (.box (t_ 0)),
  o_ 3 (.mov (.const (.bool false)))]
def c109_1 : List SOper := [o_ 4 (.loadN 9 (t_ 2)),
  o_ 5 (.load1 (t_ 1)),
  o_ 6 (.call 110 [(t_ 4), (t_ 5)]),
  o_ 7 (.un .not (t_ 6)),
  o_ 3 (.mov (t_ 7))]
def c109_body : SCode := (.seq (.reg [1, 2] c109_0) (.seq (.reg [3] c109_1) .ret))
def c109 : SFunc := ⟨2, 8, c109_body, [.tmp 3]⟩
/- jacquard/print.Fields -/
def c110_0 : List SOper := [o_ 2 (.box (t_ 0)),
  o_ 4 (.mov (.const (.bool false)))]
def c110_1 : List SOper := [o_ 7 (.fld 0 (t_ 2)),
  o_ 8 (.load1 (t_ 7)),
  o_ 9 (.build (zi 9) [(0, 1, (t_ 8))]),
  o_ 5 (.alloc (zi 9)),
  n_ (.storeN 9 (t_ 5) (t_ 9))]
def c110_2 : List SOper := [o_ 6 (.mov (.const (.bool true)))]
def c110_3 : List SOper := [o_ 10 (.fld 0 (t_ 2)),
  o_ 11 (.load1 (t_ 10))]
def c110_4 : List SOper := [o_ 13 (.bin .eql (t_ 11) (k_ 1)),
  o_ 12 (.mov (t_ 13))]
def c110_5 : List SOper := [⟨(some 14), .fld 2 (t_ 2), none, [2], 0, [], 0, 0, []⟩,
  ⟨(some 15), .load1 (t_ 14), none, [14], 1, [0], 0, 0, []⟩,
  ⟨(some 16), .fld 3 (t_ 2), none, [2], 2, [], 0, 0, []⟩,
  ⟨(some 17), .loadN 2 (t_ 16), none, [16], 3, [2], 0, 0, []⟩,
  ⟨(some 18), .fld 2 (t_ 5), none, [5], 4, [0, 1], 0, 0, []⟩,
  ⟨(some 19), .fld 3 (t_ 5), none, [5], 6, [0, 1, 2, 3, 4, 5], 0, 0, []⟩]
def c110_5b : List SOper := [⟨none, .store1 (t_ 18) (t_ 15), none, [18, 15], 5, [4, 1, 0, 1], 0, 0, [1]⟩,
  ⟨none, .storeN 2 (t_ 19) (t_ 17), none, [19, 17], 7, [6, 3, 5, 0, 1, 2, 3, 4, 5], 0, 0, [1, 3]⟩]
def c110_6 : List SOper := [o_ 20 (.mov (t_ 1)),
  o_ 21 (.fld 2 (t_ 2)),
  o_ 22 (.load1 (t_ 21)),
  o_ 23 (.callv (t_ 20) [(t_ 22)]),
  o_ 24 (.mov (t_ 23)),
  g_ 25 24 true (.fld 3 (t_ 2)),
  g_ 26 24 true (.loadN 2 (t_ 25)),
  g_ 27 24 true (.call 172 [(t_ 26)]),
  o_ 28 (.pick (t_ 24) (t_ 27) (.const (.bool false))),
  o_ 6 (.mov (t_ 28))]
def c110_7 : List SOper := [o_ 30 (.bin .eql (t_ 11) (k_ 2)),
  o_ 29 (.mov (t_ 30))]
def c110_8 : List SOper := [⟨(some 31), .fld 1 (t_ 2), none, [2], 0, [], 0, 0, []⟩,
  ⟨(some 32), .load1 (t_ 31), none, [31], 1, [0], 0, 0, []⟩,
  ⟨(some 33), .fld 2 (t_ 2), none, [2], 2, [], 0, 0, []⟩,
  ⟨(some 34), .load1 (t_ 33), none, [33], 3, [2], 0, 0, []⟩,
  ⟨(some 35), .fld 1 (t_ 5), none, [5], 4, [0, 1], 0, 0, []⟩,
  ⟨(some 36), .fld 2 (t_ 5), none, [5], 6, [0, 1, 2, 3, 4, 5], 0, 0, []⟩]
def c110_8b : List SOper := [⟨none, .store1 (t_ 35) (t_ 32), none, [35, 32], 5, [4, 1, 0, 1], 0, 0, [1]⟩,
  ⟨none, .store1 (t_ 36) (t_ 34), none, [36, 34], 7, [6, 3, 5, 0, 1, 2, 3, 4, 5], 0, 0, [1, 3]⟩]
def c110_9 : List SOper := [o_ 37 (.mov (t_ 1)),
  o_ 38 (.fld 2 (t_ 2)),
  o_ 39 (.load1 (t_ 38)),
  o_ 40 (.callv (t_ 37) [(t_ 39)]),
  o_ 41 (.mov (t_ 40)),
  g_ 42 41 true (.fld 1 (t_ 2)),
  g_ 43 41 true (.load1 (t_ 42)),
  g_ 44 41 true (.call 173 [(t_ 43)]),
  o_ 45 (.pick (t_ 41) (t_ 44) (.const (.bool false))),
  o_ 6 (.mov (t_ 45))]
def c110_10 : List SOper := [o_ 47 (.bin .eql (t_ 11) (k_ 3)),
  o_ 46 (.mov (t_ 47))]
def c110_11 : List SOper := [o_ 49 (.bin .eql (t_ 11) (k_ 4)),
  o_ 48 (.mov (t_ 49))]
def c110_12 : List SOper := [⟨(some 50), .fld 1 (t_ 2), none, [2], 0, [], 0, 0, []⟩,
  ⟨(some 51), .load1 (t_ 50), none, [50], 1, [0], 0, 0, []⟩,
  ⟨(some 52), .fld 2 (t_ 2), none, [2], 2, [], 0, 0, []⟩,
  ⟨(some 53), .load1 (t_ 52), none, [52], 3, [2], 0, 0, []⟩,
  ⟨(some 54), .fld 3 (t_ 2), none, [2], 4, [], 0, 0, []⟩,
  ⟨(some 55), .loadN 2 (t_ 54), none, [54], 5, [4], 0, 0, []⟩,
  ⟨(some 56), .fld 6 (t_ 2), none, [2], 6, [], 0, 0, []⟩,
  ⟨(some 57), .loadN 2 (t_ 56), none, [56], 7, [6], 0, 0, []⟩,
  ⟨(some 58), .fld 1 (t_ 5), none, [5], 8, [0, 1], 0, 0, []⟩,
  ⟨(some 59), .fld 2 (t_ 5), none, [5], 10, [0, 1, 2, 3, 8, 9], 0, 0, []⟩,
  ⟨(some 60), .fld 3 (t_ 5), none, [5], 12, [0, 1, 2, 3, 4, 5, 8, 9, 10, 11], 0, 0, []⟩,
  ⟨(some 61), .fld 6 (t_ 5), none, [5], 14, [0, 1, 2, 3, 4, 5, 6, 7, 8, 9, 10, 11, 12, 13], 0, 0, []⟩]
def c110_12b : List SOper := [⟨none, .store1 (t_ 58) (t_ 51), none, [58, 51], 9, [8, 1, 0, 1], 0, 0, [1]⟩,
  ⟨none, .store1 (t_ 59) (t_ 53), none, [59, 53], 11, [10, 3, 9, 0, 1, 2, 3, 8, 9], 0, 0, [1, 3]⟩,
  ⟨none, .storeN 2 (t_ 60) (t_ 55), none, [60, 55], 13, [12, 5, 11, 0, 1, 2, 3, 4, 5, 8, 9, 10, 11], 0, 0, [1, 3, 5]⟩,
  ⟨none, .storeN 2 (t_ 61) (t_ 57), none, [61, 57], 15, [14, 7, 13, 0, 1, 2, 3, 4, 5, 6, 7, 8, 9, 10, 11, 12, 13], 0, 0, [1, 3, 5, 7]⟩]
def c110_13 : List SOper := [o_ 62 (.mov (t_ 1)),
  o_ 63 (.fld 2 (t_ 2)),
  o_ 64 (.load1 (t_ 63)),
  o_ 65 (.callv (t_ 62) [(t_ 64)]),
  o_ 66 (.mov (t_ 65)),
  g_ 67 66 true (.fld 1 (t_ 2)),
  g_ 68 66 true (.load1 (t_ 67)),
  g_ 69 66 true (.call 173 [(t_ 68)]),
  o_ 70 (.pick (t_ 66) (t_ 69) (.const (.bool false))),
  o_ 71 (.mov (t_ 70)),
  g_ 72 71 true (.fld 3 (t_ 2)),
  g_ 73 71 true (.loadN 2 (t_ 72)),
  g_ 74 71 true (.call 172 [(t_ 73)]),
  o_ 75 (.pick (t_ 71) (t_ 74) (.const (.bool false))),
  o_ 76 (.mov (t_ 75)),
  g_ 77 76 true (.fld 6 (t_ 2)),
  g_ 78 76 true (.loadN 2 (t_ 77)),
  g_ 79 76 true (.call 172 [(t_ 78)]),
  o_ 80 (.pick (t_ 76) (t_ 79) (.const (.bool false))),
  o_ 6 (.mov (t_ 80))]
def c110_14 : List SOper := [o_ 82 (.bin .eql (t_ 11) (k_ 5)),
  o_ 81 (.mov (t_ 82))]
def c110_15 : List SOper := [⟨(some 83), .fld 1 (t_ 2), none, [2], 0, [], 0, 0, []⟩,
  ⟨(some 84), .load1 (t_ 83), none, [83], 1, [0], 0, 0, []⟩,
  ⟨(some 85), .fld 3 (t_ 2), none, [2], 2, [], 0, 0, []⟩,
  ⟨(some 86), .loadN 2 (t_ 85), none, [85], 3, [2], 0, 0, []⟩,
  ⟨(some 87), .fld 5 (t_ 2), none, [2], 4, [], 0, 0, []⟩,
  ⟨(some 88), .load1 (t_ 87), none, [87], 5, [4], 0, 0, []⟩,
  ⟨(some 89), .fld 6 (t_ 2), none, [2], 6, [], 0, 0, []⟩,
  ⟨(some 90), .loadN 2 (t_ 89), none, [89], 7, [6], 0, 0, []⟩,
  ⟨(some 91), .fld 1 (t_ 5), none, [5], 8, [0, 1], 0, 0, []⟩,
  ⟨(some 92), .fld 3 (t_ 5), none, [5], 10, [0, 1, 2, 3, 8, 9], 0, 0, []⟩,
  ⟨(some 93), .fld 5 (t_ 5), none, [5], 12, [0, 1, 2, 3, 4, 5, 8, 9, 10, 11], 0, 0, []⟩,
  ⟨(some 94), .fld 6 (t_ 5), none, [5], 14, [0, 1, 2, 3, 4, 5, 6, 7, 8, 9, 10, 11, 12, 13], 0, 0, []⟩]
def c110_15b : List SOper := [⟨none, .store1 (t_ 91) (t_ 84), none, [91, 84], 9, [8, 1, 0, 1], 0, 0, [1]⟩,
  ⟨none, .storeN 2 (t_ 92) (t_ 86), none, [92, 86], 11, [10, 3, 9, 0, 1, 2, 3, 8, 9], 0, 0, [1, 3]⟩,
  ⟨none, .store1 (t_ 93) (t_ 88), none, [93, 88], 13, [12, 5, 11, 0, 1, 2, 3, 4, 5, 8, 9, 10, 11], 0, 0, [1, 3, 5]⟩,
  ⟨none, .storeN 2 (t_ 94) (t_ 90), none, [94, 90], 15, [14, 7, 13, 0, 1, 2, 3, 4, 5, 6, 7, 8, 9, 10, 11, 12, 13], 0, 0, [1, 3, 5, 7]⟩]
def c110_16 : List SOper := [o_ 95 (.fld 1 (t_ 2)),
  o_ 96 (.load1 (t_ 95)),
  o_ 97 (.call 173 [(t_ 96)]),
  o_ 98 (.mov (t_ 97)),
  g_ 99 98 true (.fld 3 (t_ 2)),
  g_ 100 98 true (.loadN 2 (t_ 99)),
  g_ 101 98 true (.call 172 [(t_ 100)]),
  o_ 102 (.pick (t_ 98) (t_ 101) (.const (.bool false))),
  o_ 103 (.mov (t_ 102)),
  g_ 104 103 true (.fld 6 (t_ 2)),
  g_ 105 103 true (.loadN 2 (t_ 104)),
  g_ 106 103 true (.call 172 [(t_ 105)]),
  o_ 107 (.pick (t_ 103) (t_ 106) (.const (.bool false))),
  o_ 108 (.mov (t_ 107)),
  g_ 109 108 true (.fld 5 (t_ 2)),
  g_ 110 108 true (.load1 (t_ 109)),
  g_ 111 108 true (.bin .geq (t_ 110) (k_ 0)),
  o_ 112 (.pick (t_ 108) (t_ 111) (.const (.bool false))),
  o_ 113 (.mov (t_ 112)),
  g_ 114 113 true (.fld 5 (t_ 2)),
  g_ 115 113 true (.load1 (t_ 114)),
  g_ 116 113 true (.bin .leq (t_ 115) (k_ 11)),
  o_ 117 (.pick (t_ 113) (t_ 116) (.const (.bool false))),
  o_ 118 (.mov (t_ 117)),
  g_ 119 118 true (.fld 5 (t_ 2)),
  g_ 120 118 true (.load1 (t_ 119)),
  g_ 121 118 true (.bin .gtr (t_ 120) (k_ 0)),
  g_ 122 118 true (.mov (t_ 121)),
  g_ 123 122 false (.fld 6 (t_ 2)),
  g_ 124 122 false (.loadN 2 (t_ 123)),
  g_ 125 122 false (.build [(.int .i64 (0)), (.int .i64 (0))] [(0, 1, (k_ (-1)))]),
  g_ 126 122 false (.eqN false [0, 0] (t_ 124) (t_ 125)),
  g_ 127 118 true (.pick (t_ 122) (.const (.bool true)) (t_ 126)),
  o_ 128 (.pick (t_ 118) (t_ 127) (.const (.bool false))),
  o_ 6 (.mov (t_ 128))]
def c110_17 : List SOper := [o_ 130 (.bin .eql (t_ 11) (k_ 6)),
  o_ 129 (.mov (t_ 130))]
def c110_18 : List SOper := [⟨(some 131), .fld 8 (t_ 2), none, [2], 0, [], 0, 0, []⟩,
  ⟨(some 132), .load1 (t_ 131), none, [131], 1, [0], 0, 0, []⟩,
  ⟨(some 133), .fld 3 (t_ 2), none, [2], 2, [], 0, 0, []⟩,
  ⟨(some 134), .loadN 2 (t_ 133), none, [133], 3, [2], 0, 0, []⟩,
  ⟨(some 135), .fld 6 (t_ 2), none, [2], 4, [], 0, 0, []⟩,
  ⟨(some 136), .loadN 2 (t_ 135), none, [135], 5, [4], 0, 0, []⟩,
  ⟨(some 137), .fld 8 (t_ 5), none, [5], 6, [0, 1], 0, 0, []⟩,
  ⟨(some 138), .fld 3 (t_ 5), none, [5], 8, [0, 1, 2, 3, 6, 7], 0, 0, []⟩,
  ⟨(some 139), .fld 6 (t_ 5), none, [5], 10, [0, 1, 2, 3, 4, 5, 6, 7, 8, 9], 0, 0, []⟩]
def c110_18b : List SOper := [⟨none, .store1 (t_ 137) (t_ 132), none, [137, 132], 7, [6, 1, 0, 1], 0, 0, [1]⟩,
  ⟨none, .storeN 2 (t_ 138) (t_ 134), none, [138, 134], 9, [8, 3, 7, 0, 1, 2, 3, 6, 7], 0, 0, [1, 3]⟩,
  ⟨none, .storeN 2 (t_ 139) (t_ 136), none, [139, 136], 11, [10, 5, 9, 0, 1, 2, 3, 4, 5, 6, 7, 8, 9], 0, 0, [1, 3, 5]⟩]
def c110_19 : List SOper := [o_ 140 (.fld 8 (t_ 2)),
  o_ 141 (.load1 (t_ 140)),
  o_ 142 (.bin .geq (t_ 141) (k_ 0)),
  o_ 143 (.mov (t_ 142)),
  g_ 144 143 true (.fld 3 (t_ 2)),
  g_ 145 143 true (.loadN 2 (t_ 144)),
  g_ 146 143 true (.call 172 [(t_ 145)]),
  o_ 147 (.pick (t_ 143) (t_ 146) (.const (.bool false))),
  o_ 148 (.mov (t_ 147)),
  g_ 149 148 true (.fld 6 (t_ 2)),
  g_ 150 148 true (.loadN 2 (t_ 149)),
  g_ 151 148 true (.call 172 [(t_ 150)]),
  o_ 152 (.pick (t_ 148) (t_ 151) (.const (.bool false))),
  o_ 6 (.mov (t_ 152))]
def c110_20 : List SOper := [o_ 4 (.mov (.const (.bool false)))]
def c110_21 : List SOper := [o_ 153 (.mov (t_ 6)),
  o_ 154 (.mov (t_ 153)),
  g_ 155 154 true (.loadN 9 (t_ 2)),
  g_ 156 154 true (.loadN 9 (t_ 5)),
  g_ 157 154 true (.eqN false (zk 9) (t_ 155) (t_ 156)),
  o_ 158 (.pick (t_ 154) (t_ 157) (.const (.bool false))),
  o_ 4 (.mov (t_ 158))]
def c110_body : SCode := (.seq (.reg [1, 2] c110_0) (.seq (.reg [1, 2, 5] c110_1) (.seq (.reg [1, 2, 5, 6] c110_2) (.seq (.seq (.reg [1, 2, 5, 6, 11] c110_3) (.block 0 (.seq (.reg [1, 2, 5, 6, 11, 12] c110_4) (.cond (t_ 12) (.seq (.dreg [1, 2, 5] c110_5 c110_5b) (.reg [2, 5, 6] c110_6)) (.seq (.reg [1, 2, 5, 6, 11, 29] c110_7) (.cond (t_ 29) (.seq (.dreg [1, 2, 5] c110_8 c110_8b) (.reg [2, 5, 6] c110_9)) (.seq (.reg [1, 2, 5, 6, 11, 46] c110_10) (.cond (t_ 46) .skip (.seq (.reg [1, 2, 5, 11, 48] c110_11) (.cond (t_ 48) (.seq (.dreg [1, 2, 5] c110_12 c110_12b) (.reg [2, 5, 6] c110_13)) (.seq (.reg [2, 5, 11, 81] c110_14) (.cond (t_ 81) (.seq (.dreg [2, 5] c110_15 c110_15b) (.reg [2, 5, 6] c110_16)) (.seq (.reg [2, 5, 129] c110_17) (.cond (t_ 129) (.seq (.dreg [2, 5] c110_18 c110_18b) (.reg [2, 5, 6] c110_19)) (.seq (.reg [4] c110_20) .ret))))))))))))))) (.seq (.reg [4] c110_21) .ret)))))
def c110 : SFunc := ⟨2, 159, c110_body, [.tmp 4]⟩
/- jacquard/prog.normal -/
def c111_0 : List SOper := [o_ 3 (.box (t_ 1)),
  o_ 4 (.alloc (zi 5))]
def c111_1 : List SOper := [o_ 10 (.fld 0 (t_ 3)),
  o_ 11 (.load1 (t_ 10)),
  o_ 12 (.bin .geq (t_ 11) (k_ 0)),
  o_ 13 (.mov (t_ 12)),
  g_ 14 13 true (.fld 0 (t_ 3)),
  g_ 15 13 true (.load1 (t_ 14)),
  g_ 16 13 true (.mov (t_ 0)),
  g_ 17 13 true (.lenS (t_ 16)),
  g_ 18 13 true (.bin .lss (t_ 15) (t_ 17)),
  o_ 19 (.pick (t_ 13) (t_ 18) (.const (.bool false)))]
def c111_2 : List SOper := [o_ 20 (.mov (t_ 0)),
  o_ 21 (.fld 0 (t_ 3)),
  o_ 22 (.load1 (t_ 21)),
  o_ 23 (.idxS 9 (t_ 20) (t_ 22)),
  o_ 24 (.loadN 9 (t_ 23)),
  o_ 5 (.alloc (zi 9)),
  n_ (.storeN 9 (t_ 5) (t_ 24))]
def c111_3 : List SOper := [⟨(some 25), .fld 3 (t_ 5), none, [5], 0, [], 0, 0, []⟩,
  ⟨(some 26), .loadN 2 (t_ 25), none, [25], 1, [0], 0, 0, []⟩,
  ⟨(some 27), .loadN 5 (t_ 3), none, [3], 2, [], 0, 0, []⟩,
  ⟨(some 29), .fld 6 (t_ 5), none, [5], 4, [], 0, 0, []⟩,
  ⟨(some 30), .loadN 2 (t_ 29), none, [29], 5, [4], 0, 1, []⟩,
  ⟨(some 31), .loadN 5 (t_ 3), none, [3], 6, [], 0, 1, []⟩,
  ⟨(some 28), .call 174 [(t_ 26), (t_ 27)], none, [26, 27], 3, [1, 2], 0, 0, []⟩,
  ⟨(some 32), .call 174 [(t_ 30), (t_ 31)], none, [30, 31], 7, [5, 6, 3], 0, 0, []⟩,
  ⟨(some 6), .mov (t_ 28), none, [28], 8, [3, 7, 0, 1, 2, 3], 0, 0, []⟩,
  ⟨(some 7), .mov (t_ 32), none, [32], 9, [7, 8, 0, 1, 2, 3, 4, 5, 6, 7, 8], 0, 0, []⟩]
def c111_3b : List SOper := []
def c111_4 : List SOper := [o_ 33 (.fld 0 (t_ 5)),
  o_ 34 (.load1 (t_ 33))]
def c111_5 : List SOper := [o_ 37 (.bin .eql (t_ 34) (k_ 5)),
  o_ 36 (.mov (t_ 37))]
def c111_6 : List SOper := [o_ 39 (.fld 5 (t_ 5)),
  o_ 40 (.load1 (t_ 39)),
  o_ 41 (.mov (t_ 6)),
  o_ 42 (.mov (t_ 7)),
  o_ 43 (.call 175 [(t_ 40), (t_ 41), (t_ 42)]),
  o_ 38 (.mov (t_ 43)),
  o_ 44 (.extr (t_ 38) 0),
  o_ 45 (.extr (t_ 38) 1),
  o_ 8 (.mov (t_ 44)),
  o_ 9 (.mov (t_ 45))]
def c111_7 : List SOper := [o_ 46 (.mov (t_ 9))]
def c111_8 : List SOper := [o_ 47 (.mov (t_ 8)),
  o_ 6 (.mov (t_ 47))]
def c111_9 : List SOper := [o_ 48 (.fld 1 (t_ 5)),
  o_ 49 (.load1 (t_ 48)),
  o_ 50 (.mov (t_ 6)),
  o_ 51 (.call 176 [(t_ 3), (t_ 49), (t_ 50)])]
def c111_10 : List SOper := [o_ 53 (.bin .eql (t_ 34) (k_ 6)),
  o_ 52 (.mov (t_ 53))]
def c111_11 : List SOper := [o_ 54 (.mov (t_ 6)),
  o_ 55 (.mov (t_ 7)),
  o_ 56 (.bin .eql (t_ 54) (t_ 55))]
def c111_12 : List SOper := [o_ 57 (.fld 0 (t_ 3)),
  o_ 58 (.load1 (t_ 57)),
  o_ 59 (.fld 8 (t_ 5)),
  o_ 60 (.load1 (t_ 59)),
  o_ 61 (.mm true [(t_ 60), (k_ 0)]),
  o_ 62 (.mov (t_ 0)),
  o_ 63 (.lenS (t_ 62)),
  o_ 64 (.mm false [(t_ 61), (t_ 63)]),
  o_ 65 (.bin .add (t_ 58) (t_ 64)),
  o_ 66 (.fld 0 (t_ 3)),
  n_ (.store1 (t_ 66) (t_ 65))]
def c111_13 : List SOper := [o_ 35 (.loadN 5 (t_ 3)),
  n_ (.storeN 5 (t_ 4) (t_ 35))]
def c111_14 : List SOper := [o_ 67 (.fld 0 (t_ 3)),
  o_ 68 (.load1 (t_ 67)),
  o_ 69 (.bin .add (t_ 68) (k_ 1)),
  o_ 70 (.fld 0 (t_ 3)),
  n_ (.store1 (t_ 70) (t_ 69))]
def c111_15 : SCode := (.seq (.seq (.reg [0, 3, 4, 19] c111_1) (.cond (t_ 19) .skip (.exit 0))) (.block 1 (.seq (.reg [0, 3, 4, 5] c111_2) (.seq (.dreg [0, 3, 4, 5, 6, 7] c111_3 c111_3b) (.seq (.seq (.reg [0, 3, 4, 5, 6, 7, 34] c111_4) (.block 2 (.seq (.reg [0, 3, 4, 5, 6, 7, 34, 36] c111_5) (.cond (t_ 36) (.seq (.seq (.reg [0, 3, 4, 5, 6, 8, 9] c111_6) (.seq (.reg [0, 3, 4, 5, 6, 8, 46] c111_7) (.cond (t_ 46) (.reg [0, 3, 4, 5, 6] c111_8) .skip))) (.reg [0, 3, 4] c111_9)) (.seq (.reg [0, 3, 4, 5, 6, 7, 52] c111_10) (.cond (t_ 52) (.seq (.reg [0, 3, 4, 5, 56] c111_11) (.cond (t_ 56) (.reg [0, 3, 4] c111_12) .skip)) (.seq (.reg [4] c111_13) .ret))))))) (.reg [0, 3, 4] c111_14))))))
def c111_16 : List SOper := [o_ 71 (.loadN 5 (t_ 3)),
  n_ (.storeN 5 (t_ 4) (t_ 71))]
def c111_body : SCode := (.seq (.reg [0, 3, 4] c111_0) (.seq (.block 0 (.loop [0, 3, 4] c111_15)) (.seq (.reg [4] c111_16) .ret)))
def c111 : SFunc := ⟨2, 72, c111_body, [.cellN 4 5]⟩
/- jacquard/prog.thread -/
def c112_0 : List SOper := [o_ 2 (.box (t_ 0)),
  o_ 4 (.mov (.const (.slice none 0 0)))]
def c112_1 : List SOper := [o_ 5 (.mov (t_ 1)),
  o_ 6 (.bin .lss (t_ 5) (k_ 0)),
  o_ 7 (.mov (t_ 6)),
  g_ 8 7 false (.mov (t_ 1)),
  g_ 9 7 false (.fld 2 (t_ 2)),
  g_ 10 7 false (.load1 (t_ 9)),
  g_ 11 7 false (.lenS (t_ 10)),
  g_ 12 7 false (.bin .geq (t_ 8) (t_ 11)),
  o_ 13 (.pick (t_ 7) (.const (.bool true)) (t_ 12))]
def c112_2 : List SOper := [o_ 4 (.mov (.const (.slice none 0 0)))]
def c112_3 : List SOper := [o_ 14 (.fld 2 (t_ 2)),
  o_ 15 (.load1 (t_ 14)),
  o_ 16 (.mov (t_ 1)),
  o_ 17 (.idxS 1 (t_ 15) (t_ 16)),
  o_ 18 (.load1 (t_ 17)),
  o_ 4 (.mov (t_ 18))]
def c112_body : SCode := (.seq (.reg [1, 2] c112_0) (.seq (.seq (.reg [1, 2, 13] c112_1) (.cond (t_ 13) (.seq (.reg [4] c112_2) .ret) .skip)) (.seq (.reg [4] c112_3) .ret)))
def c112 : SFunc := ⟨2, 19, c112_body, [.tmp 4]⟩
/- jacquard/prog.Next -/
def c113_0 : List SOper := [o_ 3 (.box (t_ 0)),
  o_ 5 (.box (t_ 2)),
  o_ 6 (.alloc (zi 9)),
  o_ 7 (.mov (.const (.bool false)))]
def c113_1 : List SOper := [o_ 10 (.loadN 3 (t_ 3)),
  o_ 11 (.mov (t_ 1)),
  o_ 12 (.call 112 [(t_ 10), (t_ 11)]),
  o_ 8 (.mov (t_ 12))]
def c113_2 : List SOper := [o_ 13 (.fld 0 (t_ 5)),
  o_ 14 (.load1 (t_ 13)),
  o_ 15 (.bin .lss (t_ 14) (k_ 0)),
  o_ 16 (.mov (t_ 15)),
  g_ 17 16 false (.fld 0 (t_ 5)),
  g_ 18 16 false (.load1 (t_ 17)),
  g_ 19 16 false (.mov (t_ 8)),
  g_ 20 16 false (.lenS (t_ 19)),
  g_ 21 16 false (.bin .geq (t_ 18) (t_ 20)),
  o_ 22 (.pick (t_ 16) (.const (.bool true)) (t_ 21))]
def c113_3 : List SOper := [o_ 23 (.build (zi 9) []),
  n_ (.storeN 9 (t_ 6) (t_ 23)),
  o_ 7 (.mov (.const (.bool false)))]
def c113_4 : List SOper := [o_ 24 (.mov (t_ 8)),
  o_ 25 (.fld 0 (t_ 5)),
  o_ 26 (.load1 (t_ 25)),
  o_ 27 (.idxS 9 (t_ 24) (t_ 26)),
  o_ 28 (.loadN 9 (t_ 27)),
  o_ 9 (.alloc (zi 9)),
  n_ (.storeN 9 (t_ 9) (t_ 28))]
def c113_5 : List SOper := [o_ 29 (.fld 0 (t_ 9)),
  o_ 30 (.load1 (t_ 29)),
  o_ 31 (.bin .lss (t_ 30) (k_ 1)),
  o_ 32 (.mov (t_ 31)),
  g_ 33 32 false (.fld 0 (t_ 9)),
  g_ 34 32 false (.load1 (t_ 33)),
  g_ 35 32 false (.bin .gtr (t_ 34) (k_ 4)),
  o_ 36 (.pick (t_ 32) (.const (.bool true)) (t_ 35))]
def c113_6 : List SOper := [o_ 37 (.build (zi 9) []),
  n_ (.storeN 9 (t_ 6) (t_ 37)),
  o_ 7 (.mov (.const (.bool false)))]
def c113_7 : List SOper := [o_ 38 (.loadN 9 (t_ 9)),
  n_ (.storeN 9 (t_ 6) (t_ 38)),
  o_ 7 (.mov (.const (.bool true)))]
def c113_body : SCode := (.seq (.reg [1, 3, 5, 6] c113_0) (.seq (.reg [5, 6, 8] c113_1) (.seq (.seq (.reg [5, 6, 8, 22] c113_2) (.cond (t_ 22) (.seq (.reg [6, 7] c113_3) .ret) .skip)) (.seq (.reg [6, 9] c113_4) (.seq (.seq (.reg [6, 9, 36] c113_5) (.cond (t_ 36) (.seq (.reg [6, 7] c113_6) .ret) .skip)) (.seq (.reg [6, 7] c113_7) .ret))))))
def c113 : SFunc := ⟨3, 39, c113_body, [.cellN 6 9, .tmp 7]⟩
/- jacquard/event.Of -/
def c114_0 : List SOper := [o_ 3 (.box (t_ 0)),
  o_ 4 (.box (t_ 1)),
  o_ 6 (.alloc (zi 6)),
  o_ 7 (.mov (.const (.bool false)))]
def c114_1 : List SOper := [o_ 8 (.fld 0 (t_ 3)),
  o_ 9 (.load1 (t_ 8))]
def c114_2 : List SOper := [o_ 11 (.bin .eql (t_ 9) (k_ 1)),
  o_ 10 (.mov (t_ 11))]
def c114_3 : List SOper := [⟨(some 12), .fld 2 (t_ 3), none, [3], 0, [], 0, 0, []⟩,
  ⟨(some 13), .load1 (t_ 12), none, [12], 1, [0], 0, 1, []⟩,
  ⟨(some 14), .fld 3 (t_ 3), none, [3], 2, [], 0, 0, []⟩,
  ⟨(some 15), .loadN 2 (t_ 14), none, [14], 3, [2], 0, 0, []⟩,
  ⟨(some 16), .loadN 5 (t_ 4), none, [4], 4, [], 0, 0, []⟩,
  ⟨(some 17), .call 174 [(t_ 15), (t_ 16)], none, [15, 16], 5, [3, 4], 0, 0, []⟩,
  ⟨(some 18), .build (zi 6) [(2, 1, (k_ 2)), (3, 1, (t_ 13)), (5, 1, (t_ 17))], none, [13, 17], 6, [1, 5], 0, 0, []⟩,
  ⟨(some 7), .mov (.const (.bool false)), none, [], 8, [7, 0, 1, 2, 3, 4, 5, 6, 7], 0, 0, []⟩]
def c114_3b : List SOper := [⟨none, .storeN 6 (t_ 6) (t_ 18), none, [6, 18], 7, [6, 5, 0, 1, 2, 3, 4, 5, 6], 0, 0, [1, 3, 4]⟩]
def c114_4 : List SOper := [o_ 20 (.bin .eql (t_ 9) (k_ 2)),
  o_ 19 (.mov (t_ 20))]
def c114_5 : List SOper := [o_ 21 (.fld 2 (t_ 3)),
  o_ 22 (.load1 (t_ 21)),
  o_ 23 (.mov (t_ 2)),
  o_ 24 (.build (zi 6) [(2, 1, (k_ 1)), (3, 1, (t_ 22)), (4, 1, (t_ 23))]),
  n_ (.storeN 6 (t_ 6) (t_ 24)),
  o_ 7 (.mov (.const (.bool true)))]
def c114_6 : List SOper := [o_ 26 (.bin .eql (t_ 9) (k_ 4)),
  o_ 25 (.mov (t_ 26))]
def c114_7 : List SOper := [o_ 27 (.fld 3 (t_ 3)),
  o_ 28 (.loadN 2 (t_ 27)),
  o_ 29 (.loadN 5 (t_ 4)),
  o_ 30 (.call 174 [(t_ 28), (t_ 29)]),
  o_ 31 (.mov (t_ 2)),
  o_ 32 (.bin .eql (t_ 30) (t_ 31))]
def c114_8 : List SOper := [⟨(some 33), .fld 2 (t_ 3), none, [3], 0, [], 0, 0, []⟩,
  ⟨(some 34), .load1 (t_ 33), none, [33], 1, [0], 0, 1, []⟩,
  ⟨(some 35), .mov (t_ 2), none, [2], 2, [], 0, 0, []⟩,
  ⟨(some 36), .fld 6 (t_ 3), none, [3], 3, [], 0, 0, []⟩,
  ⟨(some 37), .loadN 2 (t_ 36), none, [36], 4, [3], 0, 0, []⟩,
  ⟨(some 38), .loadN 5 (t_ 4), none, [4], 5, [], 0, 0, []⟩,
  ⟨(some 39), .call 174 [(t_ 37), (t_ 38)], none, [37, 38], 6, [4, 5], 0, 0, []⟩,
  ⟨(some 40), .build (zi 6) [(2, 1, (k_ 4)), (3, 1, (t_ 34)), (4, 1, (t_ 35)), (5, 1, (t_ 39))], none, [34, 35, 39], 7, [1, 2, 6], 0, 0, []⟩,
  ⟨(some 7), .mov (.const (.bool true)), none, [], 9, [8, 0, 1, 2, 3, 4, 5, 6, 7, 8], 0, 0, []⟩]
def c114_8b : List SOper := [⟨none, .storeN 6 (t_ 6) (t_ 40), none, [6, 40], 8, [7, 6, 0, 1, 2, 3, 4, 5, 6, 7], 0, 0, [1, 4, 5]⟩]
def c114_9 : List SOper := [o_ 41 (.fld 2 (t_ 3)),
  o_ 42 (.load1 (t_ 41)),
  o_ 43 (.mov (t_ 2)),
  o_ 44 (.build (zi 6) [(2, 1, (k_ 5)), (3, 1, (t_ 42)), (4, 1, (t_ 43))]),
  n_ (.storeN 6 (t_ 6) (t_ 44)),
  o_ 7 (.mov (.const (.bool true)))]
def c114_10 : List SOper := [o_ 45 (.build (zi 6) [(2, 1, (k_ 3))]),
  n_ (.storeN 6 (t_ 6) (t_ 45)),
  o_ 7 (.mov (.const (.bool false)))]
def c114_body : SCode := (.seq (.reg [2, 3, 4, 6] c114_0) (.seq (.seq (.reg [2, 3, 4, 6, 9] c114_1) (.block 0 (.seq (.reg [2, 3, 4, 6, 9, 10] c114_2) (.cond (t_ 10) (.seq (.dreg [6, 7] c114_3 c114_3b) .ret) (.seq (.reg [2, 3, 4, 6, 9, 19] c114_4) (.cond (t_ 19) (.seq (.reg [6, 7] c114_5) .ret) (.seq (.reg [2, 3, 4, 6, 25] c114_6) (.cond (t_ 25) (.seq (.seq (.reg [2, 3, 4, 6, 32] c114_7) (.cond (t_ 32) (.seq (.dreg [6, 7] c114_8 c114_8b) .ret) .skip)) (.seq (.reg [6, 7] c114_9) .ret)) .skip)))))))) (.seq (.reg [6, 7] c114_10) .ret)))
def c114 : SFunc := ⟨3, 46, c114_body, [.cellN 6 6, .tmp 7]⟩
/- (*jacquard/exec.walk).add -/
def c115_0 : List SOper := [o_ 6 (.box (t_ 2))]
def c115_1 : List SOper := [o_ 9 (.mov (t_ 0)),
  o_ 10 (.nilchk (t_ 9)),
  o_ 11 (.fld 3 (t_ 10)),
  o_ 12 (.load1 (t_ 11)),
  o_ 13 (.mov (t_ 1)),
  o_ 14 (.idxS 18 (t_ 12) (t_ 13)),
  o_ 8 (.mov (t_ 14))]
def c115_2 : List SOper := [⟨(some 15), .mov (t_ 1), none, [1], 0, [], 0, 0, []⟩,
  ⟨(some 16), .mov (t_ 8), none, [8], 1, [], 0, 0, []⟩,
  ⟨(some 17), .nilchk (t_ 16), none, [16], 2, [1], 0, 0, []⟩,
  ⟨(some 18), .fld 0 (t_ 17), none, [17], 3, [2], 0, 0, []⟩,
  ⟨(some 19), .load1 (t_ 18), none, [18], 4, [3], 0, 0, []⟩,
  ⟨(some 20), .lenS (t_ 19), none, [19], 5, [4], 0, 0, []⟩,
  ⟨(some 21), .fld 0 (t_ 6), none, [6], 6, [0], 0, 0, []⟩,
  ⟨(some 22), .fld 1 (t_ 6), none, [6], 8, [0, 1, 2, 3, 4, 5, 6, 7], 0, 0, []⟩]
def c115_2b : List SOper := [⟨none, .store1 (t_ 21) (t_ 15), none, [21, 15], 7, [6, 0, 0], 0, 0, []⟩,
  ⟨none, .store1 (t_ 22) (t_ 20), none, [22, 20], 9, [8, 5, 7, 0, 1, 2, 3, 4, 5, 6, 7], 0, 0, [4]⟩]
def c115_3 : List SOper := [⟨(some 23), .mov (t_ 8), none, [8], 0, [], 0, 0, []⟩,
  ⟨(some 24), .mov (t_ 8), none, [8], 1, [], 0, 0, []⟩,
  ⟨(some 25), .nilchk (t_ 24), none, [24], 2, [1], 0, 0, []⟩,
  ⟨(some 26), .fld 0 (t_ 25), none, [25], 3, [2], 0, 0, []⟩,
  ⟨(some 27), .load1 (t_ 26), none, [26], 4, [3], 0, 0, []⟩,
  ⟨(some 29), .loadN 6 (t_ 6), none, [6], 6, [], 0, 1, []⟩,
  ⟨(some 30), .mkslice 1 (zi 6) [(0, 6, (t_ 29))], none, [29], 7, [6], 0, 0, []⟩,
  ⟨(some 28), .call 177 [(t_ 27)], none, [27], 5, [4], 0, 0, []⟩,
  ⟨(some 31), .append 6 48 (t_ 28) (t_ 30), none, [28, 30], 8, [5, 7, 5], 0, 0, [7]⟩,
  ⟨(some 32), .nilchk (t_ 23), none, [23], 9, [0, 0, 1, 2, 3, 4, 5, 6, 7, 8], 0, 0, []⟩,
  ⟨(some 33), .fld 0 (t_ 32), none, [32], 10, [9, 0, 1, 2, 3, 4, 5, 6, 7, 8], 0, 0, []⟩]
def c115_3b : List SOper := [⟨none, .store1 (t_ 33) (t_ 31), none, [33, 31], 11, [10, 8, 8, 0, 1, 2, 3, 4, 5, 6, 7, 8], 0, 0, [4, 6, 7]⟩]
def c115_4 : List SOper := [o_ 34 (.mov (t_ 8)),
  o_ 35 (.mov (t_ 8)),
  o_ 36 (.nilchk (t_ 35)),
  o_ 37 (.fld 1 (t_ 36)),
  o_ 38 (.load1 (t_ 37)),
  o_ 39 (.call 178 [(t_ 38)]),
  o_ 40 (.mov (t_ 3)),
  o_ 41 (.mkslice 1 [(.int .i64 (0))] [(0, 1, (t_ 40))]),
  o_ 42 (.append 1 8 (t_ 39) (t_ 41)),
  o_ 43 (.nilchk (t_ 34)),
  o_ 44 (.fld 1 (t_ 43)),
  n_ (.store1 (t_ 44) (t_ 42))]
def c115_5 : List SOper := [o_ 45 (.loadN 6 (t_ 6)),
  o_ 46 (.call 101 [(t_ 45)])]
def c115_6 : List SOper := [⟨(some 47), .mov (t_ 0), none, [0], 0, [], 0, 0, []⟩,
  ⟨(some 48), .mov (t_ 0), none, [0], 1, [], 0, 0, []⟩,
  ⟨(some 49), .nilchk (t_ 48), none, [48], 2, [1], 0, 0, []⟩,
  ⟨(some 50), .fld 4 (t_ 49), none, [49], 3, [2], 0, 0, []⟩,
  ⟨(some 51), .load1 (t_ 50), none, [50], 4, [3], 0, 0, []⟩,
  ⟨(some 53), .mov (t_ 1), none, [1], 6, [], 0, 0, []⟩,
  ⟨(some 54), .fld 1 (t_ 6), none, [6], 7, [], 0, 0, []⟩,
  ⟨(some 55), .load1 (t_ 54), none, [54], 8, [7], 0, 1, []⟩,
  ⟨(some 56), .fld 3 (t_ 6), none, [6], 9, [], 0, 0, []⟩,
  ⟨(some 57), .load1 (t_ 56), none, [56], 10, [9], 0, 1, []⟩,
  ⟨(some 58), .fld 5 (t_ 6), none, [6], 11, [], 0, 0, []⟩,
  ⟨(some 59), .load1 (t_ 58), none, [58], 12, [11], 0, 1, []⟩,
  ⟨(some 60), .build (zi 4) [(0, 1, (t_ 53)), (1, 1, (t_ 55)), (2, 1, (t_ 57)), (3, 1, (t_ 59))], none, [53, 55, 57, 59], 13, [6, 8, 10, 12], 0, 0, []⟩,
  ⟨(some 61), .mkslice 1 (zi 4) [(0, 4, (t_ 60))], none, [60], 14, [13], 0, 0, []⟩,
  ⟨(some 52), .call 179 [(t_ 51)], none, [51], 5, [4], 0, 0, []⟩,
  ⟨(some 62), .append 4 32 (t_ 52) (t_ 61), none, [52, 61], 15, [5, 14, 5], 0, 0, [14]⟩,
  ⟨(some 63), .nilchk (t_ 47), none, [47], 16, [0, 0, 1, 2, 3, 4, 5, 6, 7, 8, 9, 10, 11, 12, 13, 14, 15], 0, 0, []⟩,
  ⟨(some 64), .fld 4 (t_ 63), none, [63], 17, [16, 0, 1, 2, 3, 4, 5, 6, 7, 8, 9, 10, 11, 12, 13, 14, 15], 0, 0, []⟩]
def c115_6b : List SOper := [⟨none, .store1 (t_ 64) (t_ 62), none, [64, 62], 18, [17, 15, 15, 0, 1, 2, 3, 4, 5, 6, 7, 8, 9, 10, 11, 12, 13, 14, 15], 0, 0, [4, 8, 10, 12, 14]⟩]
def c115_body : SCode := (.seq (.reg [0, 1, 3, 6] c115_0) (.seq (.reg [0, 1, 3, 6, 8] c115_1) (.seq (.dreg [0, 1, 3, 6, 8] c115_2 c115_2b) (.seq (.dreg [0, 1, 3, 6, 8] c115_3 c115_3b) (.seq (.reg [0, 1, 6] c115_4) (.seq (.reg [0, 1, 6, 46] c115_5) (.cond (t_ 46) (.dreg [] c115_6 c115_6b) .skip)))))))
def c115 : SFunc := ⟨4, 65, c115_body, []⟩
/- jacquard/prog.After -/
def c116_0 : List SOper := [o_ 4 (.box (t_ 0)),
  o_ 6 (.box (t_ 2)),
  o_ 8 (.alloc (zi 5))]
def c116_1 : List SOper := [o_ 12 (.loadN 3 (t_ 4)),
  o_ 13 (.mov (t_ 1)),
  o_ 14 (.loadN 5 (t_ 6)),
  o_ 15 (.call 113 [(t_ 12), (t_ 13), (t_ 14)]),
  o_ 11 (.mov (t_ 15)),
  o_ 16 (.extr (t_ 11) 0),
  o_ 17 (.extr (t_ 11) 1),
  o_ 9 (.alloc (zi 9)),
  n_ (.storeN 9 (t_ 9) (t_ 16)),
  o_ 10 (.mov (t_ 17))]
def c116_2 : List SOper := [o_ 18 (.mov (t_ 10)),
  o_ 19 (.un .not (t_ 18))]
def c116_3 : List SOper := [o_ 20 (.loadN 5 (t_ 6)),
  n_ (.storeN 5 (t_ 8) (t_ 20))]
def c116_4 : List SOper := [o_ 21 (.fld 0 (t_ 9)),
  o_ 22 (.load1 (t_ 21)),
  o_ 23 (.bin .eql (t_ 22) (k_ 2)),
  o_ 24 (.mov (t_ 23)),
  g_ 25 24 false (.fld 0 (t_ 9)),
  g_ 26 24 false (.load1 (t_ 25)),
  g_ 27 24 false (.bin .eql (t_ 26) (k_ 4)),
  o_ 28 (.pick (t_ 24) (.const (.bool true)) (t_ 27))]
def c116_5 : List SOper := [o_ 29 (.fld 1 (t_ 9)),
  o_ 30 (.load1 (t_ 29)),
  o_ 31 (.mov (t_ 3)),
  o_ 32 (.call 176 [(t_ 6), (t_ 30), (t_ 31)])]
def c116_6 : List SOper := [o_ 33 (.fld 0 (t_ 6)),
  o_ 34 (.load1 (t_ 33)),
  o_ 35 (.bin .add (t_ 34) (k_ 1)),
  o_ 36 (.fld 0 (t_ 6)),
  n_ (.store1 (t_ 36) (t_ 35))]
def c116_7 : List SOper := [⟨(some 37), .loadN 3 (t_ 4), none, [4], 0, [], 0, 0, []⟩,
  ⟨(some 38), .mov (t_ 1), none, [1], 1, [], 0, 0, []⟩,
  ⟨(some 40), .loadN 5 (t_ 6), none, [6], 3, [], 0, 1, []⟩,
  ⟨(some 39), .call 112 [(t_ 37), (t_ 38)], none, [37, 38], 2, [0, 1], 0, 0, []⟩,
  ⟨(some 41), .call 111 [(t_ 39), (t_ 40)], none, [39, 40], 4, [2, 3, 2], 0, 0, []⟩]
def c116_7b : List SOper := [⟨none, .storeN 5 (t_ 8) (t_ 41), none, [8, 41], 5, [4, 4, 0, 1, 2, 3, 4], 0, 0, [0, 3]⟩]
def c116_body : SCode := (.seq (.reg [1, 3, 4, 6, 8] c116_0) (.seq (.reg [1, 3, 4, 6, 8, 9, 10] c116_1) (.seq (.seq (.reg [1, 3, 4, 6, 8, 9, 19] c116_2) (.cond (t_ 19) (.seq (.reg [8] c116_3) .ret) .skip)) (.seq (.seq (.reg [1, 3, 4, 6, 8, 9, 28] c116_4) (.cond (t_ 28) (.reg [1, 4, 6, 8] c116_5) .skip)) (.seq (.reg [1, 4, 6, 8] c116_6) (.seq (.dreg [8] c116_7 c116_7b) .ret))))))
def c116 : SFunc := ⟨4, 42, c116_body, [.cellN 8 5]⟩
/- slices.Clone[[]jacquard/exec.part,jacquard/exec.part] -/
def c117_0 : List SOper := [o_ 2 (.mov (.const (.slice none 0 0)))]
def c117_1 : List SOper := [o_ 3 (.mov (t_ 0)),
  o_ 4 (.isnil 1 false (t_ 3))]
def c117_2 : List SOper := [o_ 2 (.mov (.const (.slice none 0 0)))]
def c117_3 : List SOper := [o_ 5 (.mkslice 0 [] []),
  o_ 6 (.mov (t_ 0)),
  o_ 7 (.append 18 176 (t_ 5) (t_ 6)),
  o_ 2 (.mov (t_ 7))]
def c117_body : SCode := (.seq (.reg [0] c117_0) (.seq (.seq (.reg [0, 4] c117_1) (.cond (t_ 4) (.seq (.reg [2] c117_2) .ret) .skip)) (.seq (.reg [2] c117_3) .ret)))
def c117 : SFunc := ⟨1, 8, c117_body, [.tmp 2]⟩
/- (*jacquard/exec.walk).read -/
def c118_0 : List SOper := [o_ 10 (.mov (t_ 0)),
  o_ 11 (.nilchk (t_ 10)),
  o_ 12 (.fld 3 (t_ 11)),
  o_ 13 (.load1 (t_ 12)),
  o_ 14 (.mov (t_ 1)),
  o_ 15 (.idxS 18 (t_ 13) (t_ 14)),
  o_ 6 (.mov (t_ 15))]
def c118_1 : List SOper := [o_ 16 (.mov (t_ 0)),
  o_ 17 (.nilchk (t_ 16)),
  o_ 18 (.fld 4 (t_ 17)),
  o_ 19 (.load1 (t_ 18)),
  o_ 20 (.mov (t_ 2)),
  o_ 21 (.idxS 4 (t_ 19) (t_ 20)),
  o_ 22 (.fld 3 (t_ 21)),
  o_ 23 (.load1 (t_ 22)),
  o_ 7 (.mov (t_ 23))]
def c118_2 : List SOper := [⟨(some 25), .mov (t_ 6), none, [6], 0, [], 0, 0, []⟩,
  ⟨(some 26), .nilchk (t_ 25), none, [25], 1, [0], 0, 0, []⟩,
  ⟨(some 27), .fld 7 (t_ 26), none, [26], 2, [1], 0, 0, []⟩,
  ⟨(some 28), .loadN 9 (t_ 27), none, [27], 3, [2], 0, 0, []⟩,
  ⟨(some 29), .mov (t_ 6), none, [6], 4, [], 0, 0, []⟩,
  ⟨(some 30), .nilchk (t_ 29), none, [29], 5, [4], 0, 0, []⟩,
  ⟨(some 31), .fld 2 (t_ 30), none, [30], 6, [5], 0, 0, []⟩,
  ⟨(some 32), .loadN 5 (t_ 31), none, [31], 7, [6], 0, 0, []⟩,
  ⟨(some 33), .mov (t_ 7), none, [7], 8, [], 0, 0, []⟩,
  ⟨(some 8), .alloc (zi 6), none, [], 13, [], 0, 0, []⟩,
  ⟨(some 34), .call 114 [(t_ 28), (t_ 32), (t_ 33)], none, [28, 32, 33], 9, [3, 7, 8], 0, 0, []⟩,
  ⟨(some 24), .mov (t_ 34), none, [34], 10, [9], 0, 0, []⟩,
  ⟨(some 35), .extr (t_ 24) 0, none, [24], 11, [10], 0, 0, []⟩,
  ⟨(some 36), .extr (t_ 24) 1, none, [24], 12, [10], 0, 0, []⟩,
  ⟨(some 9), .mov (t_ 36), none, [36], 15, [12, 14, 0, 1, 2, 3, 4, 5, 6, 7, 8, 9, 10, 11, 12, 13, 14], 0, 0, []⟩]
def c118_2b : List SOper := [⟨none, .storeN 6 (t_ 8) (t_ 35), none, [8, 35], 14, [13, 11, 9, 0, 1, 2, 3, 4, 5, 6, 7, 8, 9, 10, 11, 13], 0, 0, [3, 7, 13]⟩]
def c118_3 : List SOper := [o_ 37 (.mov (t_ 0)),
  o_ 38 (.mov (t_ 1)),
  o_ 39 (.loadN 6 (t_ 8)),
  o_ 40 (.mov (t_ 2)),
  o_ 41 (.call 115 [(t_ 37), (t_ 38), (t_ 39), (t_ 40)])]
def c118_4 : List SOper := [⟨(some 42), .mov (t_ 6), none, [6], 0, [], 0, 0, []⟩,
  ⟨(some 43), .mov (t_ 0), none, [0], 1, [], 0, 0, []⟩,
  ⟨(some 44), .nilchk (t_ 43), none, [43], 2, [1], 0, 0, []⟩,
  ⟨(some 45), .fld 0 (t_ 44), none, [44], 3, [2], 0, 0, []⟩,
  ⟨(some 46), .loadN 3 (t_ 45), none, [45], 4, [3], 0, 0, []⟩,
  ⟨(some 47), .mov (t_ 1), none, [1], 5, [], 0, 0, []⟩,
  ⟨(some 48), .mov (t_ 6), none, [6], 6, [], 0, 0, []⟩,
  ⟨(some 49), .nilchk (t_ 48), none, [48], 7, [6], 0, 0, []⟩,
  ⟨(some 50), .fld 2 (t_ 49), none, [49], 8, [7], 0, 0, []⟩,
  ⟨(some 51), .loadN 5 (t_ 50), none, [50], 9, [8], 0, 0, []⟩,
  ⟨(some 52), .mov (t_ 7), none, [7], 10, [], 0, 0, []⟩,
  ⟨(some 53), .call 116 [(t_ 46), (t_ 47), (t_ 51), (t_ 52)], none, [46, 47, 51, 52], 11, [4, 5, 9, 10], 0, 0, []⟩,
  ⟨(some 54), .nilchk (t_ 42), none, [42], 12, [0, 0, 1, 2, 3, 4, 5, 6, 7, 8, 9, 10, 11], 0, 0, []⟩,
  ⟨(some 55), .fld 2 (t_ 54), none, [54], 13, [12, 0, 1, 2, 3, 4, 5, 6, 7, 8, 9, 10, 11], 0, 0, []⟩]
def c118_4b : List SOper := [⟨none, .storeN 5 (t_ 55) (t_ 53), none, [55, 53], 14, [13, 11, 11, 0, 1, 2, 3, 4, 5, 6, 7, 8, 9, 10, 11], 0, 0, [4, 9]⟩]
def c118_5 : List SOper := [o_ 56 (.mov (t_ 6)),
  o_ 57 (.nilchk (t_ 56)),
  o_ 58 (.fld 17 (t_ 57)),
  n_ (.store1 (t_ 58) (k_ 0))]
def c118_6 : List SOper := [o_ 59 (.mov (t_ 0)),
  o_ 60 (.mov (t_ 1)),
  o_ 61 (.call 61 [(t_ 59), (t_ 60)])]
def c118_body : SCode := (.seq (.reg [0, 1, 2, 6] c118_0) (.seq (.reg [0, 1, 2, 6, 7] c118_1) (.seq (.dreg [0, 1, 2, 6, 7, 8] c118_2 c118_2b) (.seq (.reg [0, 1, 6, 7] c118_3) (.seq (.dreg [0, 1, 6] c118_4 c118_4b) (.seq (.reg [0, 1] c118_5) (.reg [] c118_6)))))))
def c118 : SFunc := ⟨3, 62, c118_body, []⟩
/- (*jacquard/exec.walk).flat -/
def c119_0 : List SOper := [o_ 2 (.mov (.const (.slice none 0 0))),
  o_ 3 (.mov (.const (.slice none 0 0)))]
def c119_1 : List SOper := [o_ 15 (.mov (t_ 0)),
  o_ 16 (.nilchk (t_ 15)),
  o_ 17 (.fld 0 (t_ 16)),
  o_ 18 (.loadN 3 (t_ 17)),
  o_ 19 (.call 147 [(t_ 18)]),
  o_ 4 (.mov (t_ 19))]
def c119_2 : List SOper := [o_ 20 (.mkslice 1 [(.int .i64 (0))] [(0, 1, (k_ (-1)))]),
  o_ 21 (.mov (t_ 4)),
  o_ 22 (.lenS (t_ 21)),
  o_ 23 (.call 180 [(t_ 20), (t_ 22)]),
  o_ 5 (.mov (t_ 23))]
def c119_3 : List SOper := [o_ 24 (.mov (t_ 0)),
  o_ 25 (.nilchk (t_ 24)),
  o_ 26 (.fld 3 (t_ 25)),
  o_ 27 (.load1 (t_ 26)),
  o_ 28 (.lenS (t_ 27)),
  o_ 29 (.mkrow 1 8 [(.int .i64 (0))] (t_ 28) (t_ 28)),
  o_ 6 (.mov (t_ 29))]
def c119_4 : List SOper := [o_ 30 (.mov (t_ 0)),
  o_ 31 (.nilchk (t_ 30)),
  o_ 32 (.fld 3 (t_ 31)),
  o_ 33 (.load1 (t_ 32)),
  o_ 34 (.lenS (t_ 33)),
  o_ 35 (.mov (k_ 0))]
def c119_5 : List SOper := [o_ 36 (.bin .lss (t_ 35) (t_ 34))]
def c119_6 : List SOper := [o_ 37 (.mov (t_ 35)),
  o_ 38 (.idxS 18 (t_ 33) (t_ 35)),
  o_ 39 (.loadN 18 (t_ 38)),
  o_ 8 (.alloc [(.slice none 0 0), (.slice none 0 0), (.int .i64 (0)), (.int .i64 (0)), (.int .i64 (0)), (.int .i64 (0)), (.int .i64 (0)), (.int .i64 (0)), (.int .i64 (0)), (.int .i64 (0)), (.int .i64 (0)), (.int .i64 (0)), (.int .i64 (0)), (.int .i64 (0)), (.int .i64 (0)), (.int .i64 (0)), (.bool false), (.int .i64 (0))]),
  o_ 7 (.mov (t_ 37)),
  n_ (.storeN 18 (t_ 8) (t_ 39))]
def c119_7 : List SOper := [o_ 40 (.mov (t_ 6)),
  o_ 41 (.mov (t_ 7)),
  o_ 42 (.mov (t_ 4)),
  o_ 43 (.lenS (t_ 42)),
  o_ 44 (.idxS 1 (t_ 40) (t_ 41)),
  n_ (.store1 (t_ 44) (t_ 43))]
def c119_8 : List SOper := [o_ 45 (.mov (t_ 4)),
  o_ 46 (.fld 0 (t_ 8)),
  o_ 47 (.load1 (t_ 46)),
  o_ 48 (.append 6 48 (t_ 45) (t_ 47)),
  o_ 4 (.mov (t_ 48))]
def c119_9 : List SOper := [o_ 49 (.bin .add (t_ 35) (k_ 1)),
  o_ 35 (.mov (t_ 49))]
def c119_10 : SCode := (.seq (.reg [0, 4, 5, 6, 33, 34, 35, 36] c119_5) (.seq (.cond (t_ 36) .skip (.exit 0)) (.seq (.block 1 (.seq (.reg [0, 4, 5, 6, 7, 8, 33, 34, 35] c119_6) (.seq (.reg [0, 4, 5, 6, 8, 33, 34, 35] c119_7) (.reg [0, 4, 5, 6, 33, 34, 35] c119_8)))) (.reg [0, 4, 5, 6, 33, 34, 35] c119_9))))
def c119_11 : List SOper := [o_ 50 (.mov (t_ 0)),
  o_ 51 (.nilchk (t_ 50)),
  o_ 52 (.fld 3 (t_ 51)),
  o_ 53 (.load1 (t_ 52)),
  o_ 54 (.lenS (t_ 53)),
  o_ 55 (.mov (k_ 0))]
def c119_12 : List SOper := [o_ 56 (.bin .lss (t_ 55) (t_ 54))]
def c119_13 : List SOper := [o_ 57 (.idxS 18 (t_ 53) (t_ 55)),
  o_ 58 (.loadN 18 (t_ 57)),
  o_ 10 (.alloc [(.slice none 0 0), (.slice none 0 0), (.int .i64 (0)), (.int .i64 (0)), (.int .i64 (0)), (.int .i64 (0)), (.int .i64 (0)), (.int .i64 (0)), (.int .i64 (0)), (.int .i64 (0)), (.int .i64 (0)), (.int .i64 (0)), (.int .i64 (0)), (.int .i64 (0)), (.int .i64 (0)), (.int .i64 (0)), (.bool false), (.int .i64 (0))]),
  n_ (.storeN 18 (t_ 10) (t_ 58))]
def c119_14 : List SOper := [o_ 59 (.fld 1 (t_ 10)),
  o_ 60 (.load1 (t_ 59)),
  o_ 61 (.lenS (t_ 60)),
  o_ 62 (.mov (k_ 0))]
def c119_15 : List SOper := [o_ 63 (.bin .lss (t_ 62) (t_ 61))]
def c119_16 : List SOper := [o_ 64 (.idxS 1 (t_ 60) (t_ 62)),
  o_ 65 (.load1 (t_ 64)),
  o_ 12 (.mov (t_ 65))]
def c119_17 : List SOper := [o_ 13 (.mov (k_ (-1)))]
def c119_18 : List SOper := [o_ 66 (.mov (t_ 12)),
  o_ 67 (.bin .geq (t_ 66) (k_ 0))]
def c119_19 : List SOper := [o_ 68 (.mov (t_ 0)),
  o_ 69 (.nilchk (t_ 68)),
  o_ 70 (.fld 4 (t_ 69)),
  o_ 71 (.load1 (t_ 70)),
  o_ 72 (.mov (t_ 12)),
  o_ 73 (.idxS 4 (t_ 71) (t_ 72)),
  o_ 74 (.fld 1 (t_ 73)),
  o_ 75 (.load1 (t_ 74)),
  o_ 13 (.mov (t_ 75))]
def c119_20 : List SOper := [o_ 76 (.mov (t_ 0)),
  o_ 77 (.nilchk (t_ 76)),
  o_ 78 (.fld 4 (t_ 77)),
  o_ 79 (.load1 (t_ 78)),
  o_ 80 (.mov (t_ 12)),
  o_ 81 (.idxS 4 (t_ 79) (t_ 80)),
  o_ 82 (.fld 0 (t_ 81)),
  o_ 83 (.load1 (t_ 82)),
  o_ 14 (.mov (t_ 83))]
def c119_21 : List SOper := [o_ 84 (.mov (t_ 14)),
  o_ 85 (.bin .geq (t_ 84) (k_ 0))]
def c119_22 : List SOper := [o_ 86 (.mov (t_ 13)),
  o_ 87 (.mov (t_ 6)),
  o_ 88 (.mov (t_ 14)),
  o_ 89 (.idxS 1 (t_ 87) (t_ 88)),
  o_ 90 (.load1 (t_ 89)),
  o_ 91 (.bin .add (t_ 86) (t_ 90)),
  o_ 13 (.mov (t_ 91))]
def c119_23 : List SOper := [o_ 92 (.mov (t_ 5)),
  o_ 93 (.mov (t_ 13)),
  o_ 94 (.mkslice 1 [(.int .i64 (0))] [(0, 1, (t_ 93))]),
  o_ 95 (.append 1 8 (t_ 92) (t_ 94)),
  o_ 5 (.mov (t_ 95))]
def c119_24 : List SOper := [o_ 96 (.bin .add (t_ 62) (k_ 1)),
  o_ 62 (.mov (t_ 96))]
def c119_25 : SCode := (.seq (.reg [0, 4, 5, 6, 53, 54, 55, 60, 61, 62, 63] c119_15) (.seq (.cond (t_ 63) .skip (.exit 4)) (.seq (.block 5 (.seq (.reg [0, 4, 5, 6, 12, 53, 54, 55, 60, 61, 62] c119_16) (.seq (.reg [0, 4, 5, 6, 12, 13, 53, 54, 55, 60, 61, 62] c119_17) (.seq (.seq (.reg [0, 4, 5, 6, 12, 13, 53, 54, 55, 60, 61, 62, 67] c119_18) (.cond (t_ 67) (.seq (.reg [0, 4, 5, 6, 12, 13, 53, 54, 55, 60, 61, 62] c119_19) (.seq (.reg [0, 4, 5, 6, 13, 14, 53, 54, 55, 60, 61, 62] c119_20) (.seq (.reg [0, 4, 5, 6, 13, 14, 53, 54, 55, 60, 61, 62, 85] c119_21) (.cond (t_ 85) (.reg [0, 4, 5, 6, 13, 53, 54, 55, 60, 61, 62] c119_22) .skip)))) .skip)) (.reg [0, 4, 5, 6, 53, 54, 55, 60, 61, 62] c119_23))))) (.reg [0, 4, 5, 6, 53, 54, 55, 60, 61, 62] c119_24))))
def c119_26 : List SOper := [o_ 97 (.bin .add (t_ 55) (k_ 1)),
  o_ 55 (.mov (t_ 97))]
def c119_27 : SCode := (.seq (.reg [0, 4, 5, 6, 53, 54, 55, 56] c119_12) (.seq (.cond (t_ 56) .skip (.exit 2)) (.seq (.block 3 (.seq (.reg [0, 4, 5, 6, 10, 53, 54, 55] c119_13) (.seq (.reg [0, 4, 5, 6, 53, 54, 55, 60, 61, 62] c119_14) (.block 4 (.loop [0, 4, 5, 6, 53, 54, 55, 60, 61, 62] c119_25))))) (.reg [0, 4, 5, 6, 53, 54, 55] c119_26))))
def c119_28 : List SOper := [o_ 98 (.mov (t_ 4)),
  o_ 99 (.mov (t_ 5)),
  o_ 2 (.mov (t_ 98)),
  o_ 3 (.mov (t_ 99))]
def c119_body : SCode := (.seq (.reg [0] c119_0) (.seq (.reg [0, 4] c119_1) (.seq (.reg [0, 4, 5] c119_2) (.seq (.reg [0, 4, 5, 6] c119_3) (.seq (.seq (.reg [0, 4, 5, 6, 33, 34, 35] c119_4) (.block 0 (.loop [0, 4, 5, 6, 33, 34, 35] c119_10))) (.seq (.seq (.reg [0, 4, 5, 6, 53, 54, 55] c119_11) (.block 2 (.loop [0, 4, 5, 6, 53, 54, 55] c119_27))) (.seq (.reg [2, 3] c119_28) .ret)))))))
def c119 : SFunc := ⟨1, 100, c119_body, [.tmp 2, .tmp 3]⟩
/- (*jacquard/exec.walk).hopes -/
def c120_0 : List SOper := [o_ 5 (.box (t_ 2)),
  o_ 6 (.mov (.const (.bool false)))]
def c120_1 : List SOper := [o_ 9 (.mov (t_ 0)),
  o_ 10 (.nilchk (t_ 9)),
  o_ 11 (.fld 3 (t_ 10)),
  o_ 12 (.load1 (t_ 11)),
  o_ 13 (.lenS (t_ 12)),
  o_ 14 (.mov (k_ 0))]
def c120_2 : List SOper := [o_ 15 (.bin .lss (t_ 14) (t_ 13))]
def c120_3 : List SOper := [o_ 16 (.mov (t_ 14)),
  o_ 17 (.idxS 18 (t_ 12) (t_ 14)),
  o_ 18 (.loadN 18 (t_ 17)),
  o_ 8 (.alloc [(.slice none 0 0), (.slice none 0 0), (.int .i64 (0)), (.int .i64 (0)), (.int .i64 (0)), (.int .i64 (0)), (.int .i64 (0)), (.int .i64 (0)), (.int .i64 (0)), (.int .i64 (0)), (.int .i64 (0)), (.int .i64 (0)), (.int .i64 (0)), (.int .i64 (0)), (.int .i64 (0)), (.int .i64 (0)), (.bool false), (.int .i64 (0))]),
  o_ 7 (.mov (t_ 16)),
  n_ (.storeN 18 (t_ 8) (t_ 18))]
def c120_4 : List SOper := [o_ 19 (.mov (t_ 7)),
  o_ 20 (.mov (t_ 1)),
  o_ 21 (.bin .eql (t_ 19) (t_ 20)),
  o_ 22 (.mov (t_ 21)),
  g_ 23 22 false (.fld 16 (t_ 8)),
  g_ 24 22 false (.load1 (t_ 23)),
  g_ 25 22 false (.un .not (t_ 24)),
  o_ 26 (.pick (t_ 22) (.const (.bool true)) (t_ 25))]
def c120_5 : List SOper := [⟨(some 27), .mov (t_ 0), none, [0], 0, [], 0, 0, []⟩,
  ⟨(some 28), .nilchk (t_ 27), none, [27], 1, [0], 0, 0, []⟩,
  ⟨(some 29), .fld 0 (t_ 28), none, [28], 2, [1], 0, 0, []⟩,
  ⟨(some 30), .fld 2 (t_ 29), none, [29], 3, [2], 0, 0, []⟩,
  ⟨(some 31), .load1 (t_ 30), none, [30], 4, [3], 0, 0, []⟩,
  ⟨(some 32), .mov (t_ 7), none, [7], 5, [], 0, 0, []⟩,
  ⟨(some 33), .idxS 1 (t_ 31) (t_ 32), none, [31, 32], 6, [4, 5], 0, 0, []⟩,
  ⟨(some 34), .load1 (t_ 33), none, [33], 7, [6], 0, 0, []⟩,
  ⟨(some 35), .fld 2 (t_ 8), none, [8], 8, [], 0, 0, []⟩,
  ⟨(some 36), .fld 0 (t_ 35), none, [35], 9, [8], 0, 0, []⟩,
  ⟨(some 37), .load1 (t_ 36), none, [36], 10, [9], 0, 0, []⟩,
  ⟨(some 38), .slsl 9 (t_ 34) (some (t_ 37)) none none, none, [34, 37], 11, [7, 10], 0, 0, []⟩,
  ⟨(some 39), .mkfunc 181 [] [(t_ 5)], none, [5], 12, [], 0, 0, []⟩,
  ⟨(some 40), .call 108 [(t_ 38), (t_ 39)], none, [38, 39], 13, [11, 12], 0, 0, []⟩]
def c120_5b : List SOper := []
def c120_6 : List SOper := [o_ 6 (.mov (.const (.bool true)))]
def c120_7 : List SOper := [o_ 41 (.bin .add (t_ 14) (k_ 1)),
  o_ 14 (.mov (t_ 41))]
def c120_8 : SCode := (.seq (.reg [0, 1, 5, 12, 13, 14, 15] c120_2) (.seq (.cond (t_ 15) .skip (.exit 0)) (.seq (.block 1 (.seq (.reg [0, 1, 5, 7, 8, 12, 13, 14] c120_3) (.seq (.seq (.reg [0, 1, 5, 7, 8, 12, 13, 14, 26] c120_4) (.cond (t_ 26) (.exit 1) .skip)) (.seq (.dreg [0, 1, 5, 12, 13, 14, 40] c120_5 c120_5b) (.cond (t_ 40) (.seq (.reg [6] c120_6) .ret) .skip))))) (.reg [0, 1, 5, 12, 13, 14] c120_7))))
def c120_9 : List SOper := [o_ 6 (.mov (.const (.bool false)))]
def c120_body : SCode := (.seq (.reg [0, 1, 5] c120_0) (.seq (.seq (.reg [0, 1, 5, 12, 13, 14] c120_1) (.block 0 (.loop [0, 1, 5, 12, 13, 14] c120_8))) (.seq (.reg [6] c120_9) .ret)))
def c120 : SFunc := ⟨3, 42, c120_body, [.tmp 6]⟩
/- jacquard/event.Writes -/
def c101_0 : List SOper := [o_ 1 (.box (t_ 0)),
  o_ 2 (.mov (.const (.bool false)))]
def c101_1 : List SOper := [o_ 3 (.fld 2 (t_ 1)),
  o_ 4 (.load1 (t_ 3)),
  o_ 5 (.bin .eql (t_ 4) (k_ 2)),
  o_ 6 (.mov (t_ 5)),
  g_ 7 6 false (.fld 2 (t_ 1)),
  g_ 8 6 false (.load1 (t_ 7)),
  g_ 9 6 false (.bin .eql (t_ 8) (k_ 4)),
  o_ 10 (.pick (t_ 6) (.const (.bool true)) (t_ 9)),
  o_ 2 (.mov (t_ 10))]
def c101_body : SCode := (.seq (.reg [1] c101_0) (.seq (.reg [2] c101_1) .ret))
def c101 : SFunc := ⟨1, 11, c101_body, [.tmp 2]⟩
/- (jacquard/set.Set).First -/
def c99_0 : List SOper := [o_ 2 (.mov (k_ 0))]
def c99_1 : List SOper := [o_ 3 (.mov (t_ 0)),
  o_ 4 (.bin .eql (t_ 3) (.const (.int .u64 (0))))]
def c99_2 : List SOper := [o_ 2 (.mov (k_ (-1)))]
def c99_3 : List SOper := [o_ 5 (.mov (t_ 0)),
  o_ 6 (.call 170 [(t_ 5)]),
  o_ 2 (.mov (t_ 6))]
def c99_body : SCode := (.seq (.reg [0] c99_0) (.seq (.seq (.reg [0, 4] c99_1) (.cond (t_ 4) (.seq (.reg [2] c99_2) .ret) .skip)) (.seq (.reg [2] c99_3) .ret)))
def c99 : SFunc := ⟨1, 7, c99_body, [.tmp 2]⟩
/- (jacquard/set.Set).With -/
def c102_0 : List SOper := [o_ 4 (.mov (.const (.int .u64 (0))))]
def c102_1 : List SOper := [o_ 5 (.mov (t_ 0)),
  o_ 6 (.mov (t_ 1)),
  o_ 7 (.call 103 [(t_ 6)]),
  o_ 8 (.bin .or (t_ 5) (t_ 7)),
  o_ 4 (.mov (t_ 8))]
def c102_body : SCode := (.seq (.reg [0, 1] c102_0) (.seq (.reg [4] c102_1) .ret))
def c102 : SFunc := ⟨2, 9, c102_body, [.tmp 4]⟩
/- jacquard/exec.rows$1 -/
def c121_0 : List SOper := [o_ 7 (.mov (.const (.bool false)))]
def c121_1 : List SOper := [o_ 11 (.load1 (t_ 1)),
  o_ 12 (.lenS (t_ 11)),
  o_ 13 (.load1 (t_ 2)),
  o_ 14 (.lenS (t_ 13)),
  o_ 15 (.bin .eql (t_ 12) (t_ 14))]
def c121_2 : List SOper := [o_ 16 (.load1 (t_ 3)),
  o_ 17 (.load1 (t_ 1)),
  o_ 18 (.callv (t_ 16) [(t_ 17)]),
  o_ 7 (.mov (t_ 18))]
def c121_3 : List SOper := [o_ 19 (.load1 (t_ 2)),
  o_ 20 (.lenS (t_ 19)),
  o_ 21 (.mov (k_ 0))]
def c121_4 : List SOper := [o_ 22 (.bin .lss (t_ 21) (t_ 20))]
def c121_5 : List SOper := [o_ 23 (.idxS 1 (t_ 19) (t_ 21)),
  o_ 24 (.load1 (t_ 23)),
  o_ 9 (.mov (t_ 24))]
def c121_6 : List SOper := [⟨(some 25), .mov (t_ 0), none, [0], 0, [], 0, 0, []⟩,
  ⟨(some 26), .mov (t_ 9), none, [9], 1, [], 0, 0, []⟩,
  ⟨(some 27), .call 58 [(t_ 25), (t_ 26)], none, [25, 26], 2, [0, 1], 0, 0, []⟩,
  ⟨(some 28), .mov (t_ 27), none, [27], 3, [2, 2], 0, 0, []⟩,
  ⟨(some 29), .load1 (t_ 4), (some (28, false)), [4, 28], 4, [3], 1, 1, []⟩,
  ⟨(some 30), .mov (t_ 9), (some (28, false)), [9, 28], 5, [3], 0, 0, []⟩,
  ⟨(some 32), .load1 (t_ 2), (some (28, false)), [2, 28], 7, [3], 1, 2, []⟩,
  ⟨(some 35), .mov (t_ 0), (some (28, false)), [0, 28], 10, [3], 0, 0, []⟩,
  ⟨(some 31), .callv (t_ 29) [(t_ 30)], (some (28, false)), [29, 30, 28], 6, [4, 5, 3, 3], 0, 0, []⟩,
  ⟨(some 33), .call 122 [(t_ 32)], (some (28, false)), [32, 28], 8, [7, 6, 3], 0, 0, []⟩,
  ⟨(some 34), .bin .and (t_ 31) (t_ 33), (some (28, false)), [31, 33, 28], 9, [6, 8, 3], 0, 0, []⟩,
  ⟨(some 36), .bin .andNot (t_ 34) (t_ 35), (some (28, false)), [34, 35, 28], 11, [9, 10, 3], 0, 0, []⟩,
  ⟨(some 37), .bin .neq (t_ 36) (.const (.int .u64 (0))), (some (28, false)), [36, 28], 12, [11, 3], 0, 0, []⟩,
  ⟨(some 38), .pick (t_ 28) (.const (.bool true)) (t_ 37), none, [28, 37], 13, [3, 12], 0, 0, []⟩]
def c121_6b : List SOper := []
def c121_7 : List SOper := [o_ 39 (.load1 (t_ 1)),
  o_ 40 (.mov (t_ 9)),
  o_ 41 (.mkslice 1 [(.int .i64 (0))] [(0, 1, (t_ 40))]),
  o_ 42 (.append 1 8 (t_ 39) (t_ 41)),
  n_ (.store1 (t_ 1) (t_ 42))]
def c121_8 : List SOper := [⟨(some 43), .load1 (t_ 5), none, [5], 0, [], 0, 1, []⟩,
  ⟨(some 44), .mov (t_ 0), none, [0], 1, [], 0, 0, []⟩,
  ⟨(some 45), .mov (t_ 9), none, [9], 2, [], 0, 0, []⟩,
  ⟨(some 46), .call 102 [(t_ 44), (t_ 45)], none, [44, 45], 3, [1, 2], 0, 0, []⟩,
  ⟨(some 47), .callv (t_ 43) [(t_ 46)], none, [43, 46], 4, [0, 3, 3], 0, 0, []⟩,
  ⟨(some 10), .mov (t_ 47), none, [47], 5, [4, 4, 0, 1, 2, 3, 4], 0, 0, []⟩]
def c121_8b : List SOper := []
def c121_9 : List SOper := [o_ 48 (.load1 (t_ 1)),
  o_ 49 (.load1 (t_ 1)),
  o_ 50 (.lenS (t_ 49)),
  o_ 51 (.bin .sub (t_ 50) (k_ 1)),
  o_ 52 (.slsl 1 (t_ 48) none (some (t_ 51)) none),
  n_ (.store1 (t_ 1) (t_ 52))]
def c121_10 : List SOper := [o_ 53 (.mov (t_ 10)),
  o_ 54 (.un .not (t_ 53))]
def c121_11 : List SOper := [o_ 7 (.mov (.const (.bool false)))]
def c121_12 : List SOper := [o_ 55 (.bin .add (t_ 21) (k_ 1)),
  o_ 21 (.mov (t_ 55))]
def c121_13 : SCode := (.seq (.reg [0, 1, 2, 4, 5, 19, 20, 21, 22] c121_4) (.seq (.cond (t_ 22) .skip (.exit 0)) (.seq (.block 1 (.seq (.reg [0, 1, 2, 4, 5, 9, 19, 20, 21] c121_5) (.seq (.seq (.dreg [0, 1, 2, 4, 5, 9, 19, 20, 21, 38] c121_6 c121_6b) (.cond (t_ 38) (.exit 1) .skip)) (.seq (.reg [0, 1, 2, 4, 5, 9, 19, 20, 21] c121_7) (.seq (.dreg [0, 1, 2, 4, 5, 10, 19, 20, 21] c121_8 c121_8b) (.seq (.reg [0, 1, 2, 4, 5, 10, 19, 20, 21] c121_9) (.seq (.reg [0, 1, 2, 4, 5, 19, 20, 21, 54] c121_10) (.cond (t_ 54) (.seq (.reg [7] c121_11) .ret) .skip)))))))) (.reg [0, 1, 2, 4, 5, 19, 20, 21] c121_12))))
def c121_14 : List SOper := [o_ 7 (.mov (.const (.bool true)))]
def c121_body : SCode := (.seq (.reg [0, 1, 2, 3, 4, 5] c121_0) (.seq (.seq (.reg [0, 1, 2, 3, 4, 5, 15] c121_1) (.cond (t_ 15) (.seq (.reg [7] c121_2) .ret) .skip)) (.seq (.seq (.reg [0, 1, 2, 4, 5, 19, 20, 21] c121_3) (.block 0 (.loop [0, 1, 2, 4, 5, 19, 20, 21] c121_13))) (.seq (.reg [7] c121_14) .ret))))
def c121 : SFunc := ⟨6, 56, c121_body, [.tmp 7]⟩
/- (jacquard/set.Set).Has -/
def c58_0 : List SOper := [o_ 4 (.mov (.const (.bool false)))]
def c58_1 : List SOper := [o_ 5 (.mov (t_ 0)),
  o_ 6 (.mov (t_ 1)),
  o_ 7 (.call 103 [(t_ 6)]),
  o_ 8 (.bin .and (t_ 5) (t_ 7)),
  o_ 9 (.bin .neq (t_ 8) (.const (.int .u64 (0)))),
  o_ 4 (.mov (t_ 9))]
def c58_body : SCode := (.seq (.reg [0, 1] c58_0) (.seq (.reg [4] c58_1) .ret))
def c58 : SFunc := ⟨2, 10, c58_body, [.tmp 4]⟩
/- jacquard/set.Of -/
def c122_0 : List SOper := [o_ 2 (.mov (.const (.int .u64 (0))))]
def c122_1 : List SOper := [o_ 3 (.mov (.const (.int .u64 (0))))]
def c122_2 : List SOper := [o_ 6 (.mov (t_ 0)),
  o_ 7 (.lenS (t_ 6)),
  o_ 8 (.mov (k_ 0))]
def c122_3 : List SOper := [o_ 9 (.bin .lss (t_ 8) (t_ 7))]
def c122_4 : List SOper := [o_ 10 (.idxS 1 (t_ 6) (t_ 8)),
  o_ 11 (.load1 (t_ 10)),
  o_ 5 (.mov (t_ 11))]
def c122_5 : List SOper := [o_ 12 (.mov (t_ 3)),
  o_ 13 (.mov (t_ 5)),
  o_ 14 (.call 102 [(t_ 12), (t_ 13)]),
  o_ 3 (.mov (t_ 14))]
def c122_6 : List SOper := [o_ 15 (.bin .add (t_ 8) (k_ 1)),
  o_ 8 (.mov (t_ 15))]
def c122_7 : SCode := (.seq (.reg [3, 6, 7, 8, 9] c122_3) (.seq (.cond (t_ 9) .skip (.exit 0)) (.seq (.block 1 (.seq (.reg [3, 5, 6, 7, 8] c122_4) (.reg [3, 6, 7, 8] c122_5))) (.reg [3, 6, 7, 8] c122_6))))
def c122_8 : List SOper := [o_ 16 (.mov (t_ 3)),
  o_ 2 (.mov (t_ 16))]
def c122_body : SCode := (.seq (.reg [0] c122_0) (.seq (.reg [0, 3] c122_1) (.seq (.seq (.reg [3, 6, 7, 8] c122_2) (.block 0 (.loop [3, 6, 7, 8] c122_7))) (.seq (.reg [2] c122_8) .ret))))
def c122 : SFunc := ⟨1, 17, c122_body, [.tmp 2]⟩
/- (jacquard/rel.Rel).in -/
def c98_0 : List SOper := [o_ 2 (.box (t_ 0)),
  o_ 4 (.mov (.const (.bool false)))]
def c98_1 : List SOper := [o_ 5 (.mov (t_ 1)),
  o_ 6 (.bin .geq (t_ 5) (k_ 0)),
  o_ 7 (.mov (t_ 6)),
  g_ 8 7 true (.mov (t_ 1)),
  g_ 9 7 true (.fld 0 (t_ 2)),
  g_ 10 7 true (.load1 (t_ 9)),
  g_ 11 7 true (.bin .lss (t_ 8) (t_ 10)),
  o_ 12 (.pick (t_ 7) (t_ 11) (.const (.bool false))),
  o_ 4 (.mov (t_ 12))]
def c98_body : SCode := (.seq (.reg [1, 2] c98_0) (.seq (.reg [4] c98_1) .ret))
def c98 : SFunc := ⟨2, 13, c98_body, [.tmp 4]⟩
/- jacquard/exec.Orders$1 -/
def c123_0 : List SOper := [o_ 6 (.box (t_ 0)),
  o_ 7 (.mov (.const (.bool false)))]
def c123_1 : List SOper := [o_ 11 (.load1 (t_ 6)),
  o_ 12 (.load1 (t_ 1)),
  o_ 13 (.bin .eql (t_ 11) (t_ 12))]
def c123_2 : List SOper := [o_ 14 (.load1 (t_ 1)),
  o_ 15 (.mkrow 1 24 [(.slice none 0 0)] (t_ 14) (t_ 14)),
  o_ 8 (.mov (t_ 15))]
def c123_3 : List SOper := [o_ 16 (.load1 (t_ 2)),
  o_ 17 (.lenS (t_ 16)),
  o_ 18 (.mov (k_ 0))]
def c123_4 : List SOper := [o_ 19 (.bin .lss (t_ 18) (t_ 17))]
def c123_5 : List SOper := [o_ 20 (.mov (t_ 18)),
  o_ 21 (.idxS 1 (t_ 16) (t_ 18)),
  o_ 22 (.load1 (t_ 21)),
  o_ 9 (.mov (t_ 20)),
  o_ 10 (.mov (t_ 22))]
def c123_6 : List SOper := [o_ 23 (.mov (t_ 8)),
  o_ 24 (.mov (t_ 9)),
  o_ 25 (.mov (t_ 10)),
  o_ 26 (.call 70 [(t_ 25)]),
  o_ 27 (.idxS 1 (t_ 23) (t_ 24)),
  n_ (.store1 (t_ 27) (t_ 26))]
def c123_7 : List SOper := [o_ 28 (.bin .add (t_ 18) (k_ 1)),
  o_ 18 (.mov (t_ 28))]
def c123_8 : SCode := (.seq (.reg [3, 8, 16, 17, 18, 19] c123_4) (.seq (.cond (t_ 19) .skip (.exit 0)) (.seq (.block 1 (.seq (.reg [3, 8, 9, 10, 16, 17, 18] c123_5) (.reg [3, 8, 16, 17, 18] c123_6))) (.reg [3, 8, 16, 17, 18] c123_7))))
def c123_9 : List SOper := [o_ 29 (.load1 (t_ 3)),
  o_ 30 (.mov (t_ 8)),
  o_ 31 (.callv (t_ 29) [(t_ 30)]),
  o_ 7 (.mov (t_ 31))]
def c123_10 : List SOper := [o_ 32 (.load1 (t_ 4)),
  o_ 33 (.load1 (t_ 6)),
  o_ 34 (.mkfunc 124 [] [(t_ 2), (t_ 6), (t_ 5)]),
  o_ 35 (.callv (t_ 32) [(t_ 33), (t_ 34)]),
  o_ 7 (.mov (t_ 35))]
def c123_body : SCode := (.seq (.reg [1, 2, 3, 4, 5, 6] c123_0) (.seq (.seq (.reg [1, 2, 3, 4, 5, 6, 13] c123_1) (.cond (t_ 13) (.seq (.reg [2, 3, 8] c123_2) (.seq (.seq (.reg [3, 8, 16, 17, 18] c123_3) (.block 0 (.loop [3, 8, 16, 17, 18] c123_8))) (.seq (.reg [7] c123_9) .ret))) .skip)) (.seq (.reg [7] c123_10) .ret)))
def c123 : SFunc := ⟨6, 36, c123_body, [.tmp 7]⟩
/- jacquard/exec.Orders$1$1 -/
def c124_0 : List SOper := [o_ 5 (.mov (.const (.bool false)))]
def c124_1 : List SOper := [o_ 6 (.load1 (t_ 1)),
  o_ 7 (.load1 (t_ 2)),
  o_ 8 (.mov (t_ 0)),
  o_ 9 (.idxS 1 (t_ 6) (t_ 7)),
  n_ (.store1 (t_ 9) (t_ 8))]
def c124_2 : List SOper := [o_ 10 (.load1 (t_ 3)),
  o_ 11 (.load1 (t_ 2)),
  o_ 12 (.bin .add (t_ 11) (k_ 1)),
  o_ 13 (.callv (t_ 10) [(t_ 12)]),
  o_ 5 (.mov (t_ 13))]
def c124_body : SCode := (.seq (.reg [0, 1, 2, 3] c124_0) (.seq (.reg [2, 3] c124_1) (.seq (.reg [5] c124_2) .ret)))
def c124 : SFunc := ⟨4, 14, c124_body, [.tmp 5]⟩
/- slices.pdqsortCmpFunc[jacquard/api.Exec] -/
def c140_0 : List SOper := [o_ 10 (.mov (.const (.bool true)))]
def c140_1 : List SOper := [o_ 11 (.mov (.const (.bool true)))]
def c140_2 : List SOper := [o_ 21 (.mov (t_ 2)),
  o_ 22 (.mov (t_ 1)),
  o_ 23 (.bin .sub (t_ 21) (t_ 22)),
  o_ 12 (.mov (t_ 23))]
def c140_3 : List SOper := [o_ 24 (.mov (t_ 12)),
  o_ 25 (.bin .leq (t_ 24) (k_ 12))]
def c140_4 : List SOper := [o_ 26 (.mov (t_ 0)),
  o_ 27 (.mov (t_ 1)),
  o_ 28 (.mov (t_ 2)),
  o_ 29 (.mov (t_ 4)),
  o_ 30 (.call 187 [(t_ 26), (t_ 27), (t_ 28), (t_ 29)])]
def c140_5 : List SOper := [o_ 31 (.mov (t_ 3)),
  o_ 32 (.bin .eql (t_ 31) (k_ 0))]
def c140_6 : List SOper := [o_ 33 (.mov (t_ 0)),
  o_ 34 (.mov (t_ 1)),
  o_ 35 (.mov (t_ 2)),
  o_ 36 (.mov (t_ 4)),
  o_ 37 (.call 188 [(t_ 33), (t_ 34), (t_ 35), (t_ 36)])]
def c140_7 : List SOper := [o_ 38 (.mov (t_ 10)),
  o_ 39 (.un .not (t_ 38))]
def c140_8 : List SOper := [o_ 40 (.mov (t_ 0)),
  o_ 41 (.mov (t_ 1)),
  o_ 42 (.mov (t_ 2)),
  o_ 43 (.mov (t_ 4)),
  o_ 44 (.call 189 [(t_ 40), (t_ 41), (t_ 42), (t_ 43)])]
def c140_9 : List SOper := [o_ 45 (.mov (t_ 3)),
  o_ 46 (.bin .sub (t_ 45) (k_ 1)),
  o_ 3 (.mov (t_ 46))]
def c140_10 : List SOper := [o_ 48 (.mov (t_ 0)),
  o_ 49 (.mov (t_ 1)),
  o_ 50 (.mov (t_ 2)),
  o_ 51 (.mov (t_ 4)),
  o_ 52 (.call 190 [(t_ 48), (t_ 49), (t_ 50), (t_ 51)]),
  o_ 47 (.mov (t_ 52)),
  o_ 53 (.extr (t_ 47) 0),
  o_ 54 (.extr (t_ 47) 1),
  o_ 13 (.mov (t_ 53)),
  o_ 14 (.mov (t_ 54))]
def c140_11 : List SOper := [o_ 55 (.mov (t_ 14)),
  o_ 56 (.bin .eql (t_ 55) (k_ 2))]
def c140_12 : List SOper := [o_ 57 (.mov (t_ 0)),
  o_ 58 (.mov (t_ 1)),
  o_ 59 (.mov (t_ 2)),
  o_ 60 (.mov (t_ 4)),
  o_ 61 (.call 191 [(t_ 57), (t_ 58), (t_ 59), (t_ 60)])]
def c140_13 : List SOper := [o_ 62 (.mov (t_ 2)),
  o_ 63 (.bin .sub (t_ 62) (k_ 1)),
  o_ 64 (.mov (t_ 13)),
  o_ 65 (.mov (t_ 1)),
  o_ 66 (.bin .sub (t_ 64) (t_ 65)),
  o_ 67 (.bin .sub (t_ 63) (t_ 66)),
  o_ 13 (.mov (t_ 67))]
def c140_14 : List SOper := [o_ 14 (.mov (k_ 1))]
def c140_15 : List SOper := [o_ 68 (.mov (t_ 10)),
  o_ 69 (.mov (t_ 68)),
  g_ 70 69 true (.mov (t_ 11)),
  o_ 71 (.pick (t_ 69) (t_ 70) (.const (.bool false))),
  o_ 72 (.mov (t_ 71)),
  g_ 73 72 true (.mov (t_ 14)),
  g_ 74 72 true (.bin .eql (t_ 73) (k_ 1)),
  o_ 75 (.pick (t_ 72) (t_ 74) (.const (.bool false)))]
def c140_16 : List SOper := [o_ 76 (.mov (t_ 0)),
  o_ 77 (.mov (t_ 1)),
  o_ 78 (.mov (t_ 2)),
  o_ 79 (.mov (t_ 4)),
  o_ 80 (.call 192 [(t_ 76), (t_ 77), (t_ 78), (t_ 79)])]
def c140_17 : List SOper := [⟨(some 81), .mov (t_ 1), none, [1], 0, [], 0, 0, []⟩,
  ⟨(some 82), .bin .gtr (t_ 81) (k_ 0), none, [81], 1, [0], 0, 0, []⟩,
  ⟨(some 83), .mov (t_ 82), none, [82], 2, [1], 0, 0, []⟩,
  ⟨(some 84), .mov (t_ 4), (some (83, true)), [4, 83], 3, [2], 0, 0, []⟩,
  ⟨(some 85), .mov (t_ 0), (some (83, true)), [0, 83], 4, [2], 0, 0, []⟩,
  ⟨(some 86), .mov (t_ 1), (some (83, true)), [1, 83], 5, [2], 0, 0, []⟩,
  ⟨(some 87), .bin .sub (t_ 86) (k_ 1), (some (83, true)), [86, 83], 6, [5, 2], 0, 0, []⟩,
  ⟨(some 88), .idxS 3 (t_ 85) (t_ 87), (some (83, true)), [85, 87, 83], 7, [4, 6, 2], 0, 0, []⟩,
  ⟨(some 89), .loadN 3 (t_ 88), (some (83, true)), [88, 83], 8, [7, 2], 0, 0, []⟩,
  ⟨(some 90), .mov (t_ 0), (some (83, true)), [0, 83], 9, [2], 0, 0, []⟩,
  ⟨(some 91), .mov (t_ 13), (some (83, true)), [13, 83], 10, [2], 0, 0, []⟩,
  ⟨(some 92), .idxS 3 (t_ 90) (t_ 91), (some (83, true)), [90, 91, 83], 11, [9, 10, 2], 0, 0, []⟩,
  ⟨(some 93), .loadN 3 (t_ 92), (some (83, true)), [92, 83], 12, [11, 2], 0, 0, []⟩,
  ⟨(some 94), .callv (t_ 84) [(t_ 89), (t_ 93)], (some (83, true)), [84, 89, 93, 83], 13, [3, 8, 12, 2, 2], 0, 0, []⟩,
  ⟨(some 95), .bin .lss (t_ 94) (k_ 0), (some (83, true)), [94, 83], 14, [13, 2], 0, 0, []⟩,
  ⟨(some 96), .un .not (t_ 95), (some (83, true)), [95, 83], 15, [14, 2], 0, 0, []⟩,
  ⟨(some 97), .pick (t_ 83) (t_ 96) (.const (.bool false)), none, [83, 96], 16, [2, 15], 0, 0, []⟩]
def c140_17b : List SOper := []
def c140_18 : List SOper := [o_ 98 (.mov (t_ 0)),
  o_ 99 (.mov (t_ 1)),
  o_ 100 (.mov (t_ 2)),
  o_ 101 (.mov (t_ 13)),
  o_ 102 (.mov (t_ 4)),
  o_ 103 (.call 193 [(t_ 98), (t_ 99), (t_ 100), (t_ 101), (t_ 102)]),
  o_ 15 (.mov (t_ 103))]
def c140_19 : List SOper := [o_ 104 (.mov (t_ 15)),
  o_ 1 (.mov (t_ 104))]
def c140_20 : List SOper := [o_ 106 (.mov (t_ 0)),
  o_ 107 (.mov (t_ 1)),
  o_ 108 (.mov (t_ 2)),
  o_ 109 (.mov (t_ 13)),
  o_ 110 (.mov (t_ 4)),
  o_ 111 (.call 194 [(t_ 106), (t_ 107), (t_ 108), (t_ 109), (t_ 110)]),
  o_ 105 (.mov (t_ 111)),
  o_ 112 (.extr (t_ 105) 0),
  o_ 113 (.extr (t_ 105) 1),
  o_ 16 (.mov (t_ 112)),
  o_ 17 (.mov (t_ 113))]
def c140_21 : List SOper := [o_ 114 (.mov (t_ 17)),
  o_ 11 (.mov (t_ 114))]
def c140_22 : List SOper := [o_ 115 (.mov (t_ 16)),
  o_ 116 (.mov (t_ 1)),
  o_ 117 (.bin .sub (t_ 115) (t_ 116)),
  o_ 118 (.mov (t_ 2)),
  o_ 119 (.mov (t_ 16)),
  o_ 120 (.bin .sub (t_ 118) (t_ 119)),
  o_ 18 (.mov (t_ 117)),
  o_ 19 (.mov (t_ 120))]
def c140_23 : List SOper := [o_ 121 (.mov (t_ 12)),
  o_ 122 (.bin .quo (t_ 121) (k_ 8)),
  o_ 20 (.mov (t_ 122))]
def c140_24 : List SOper := [o_ 123 (.mov (t_ 18)),
  o_ 124 (.mov (t_ 19)),
  o_ 125 (.bin .lss (t_ 123) (t_ 124))]
def c140_25 : List SOper := [o_ 126 (.mov (t_ 18)),
  o_ 127 (.mov (t_ 20)),
  o_ 128 (.bin .geq (t_ 126) (t_ 127)),
  o_ 10 (.mov (t_ 128))]
def c140_26 : List SOper := [o_ 129 (.mov (t_ 0)),
  o_ 130 (.mov (t_ 1)),
  o_ 131 (.mov (t_ 16)),
  o_ 132 (.mov (t_ 3)),
  o_ 133 (.mov (t_ 4)),
  o_ 134 (.call 140 [(t_ 129), (t_ 130), (t_ 131), (t_ 132), (t_ 133)])]
def c140_27 : List SOper := [o_ 135 (.mov (t_ 16)),
  o_ 136 (.bin .add (t_ 135) (k_ 1)),
  o_ 1 (.mov (t_ 136))]
def c140_28 : List SOper := [o_ 137 (.mov (t_ 19)),
  o_ 138 (.mov (t_ 20)),
  o_ 139 (.bin .geq (t_ 137) (t_ 138)),
  o_ 10 (.mov (t_ 139))]
def c140_29 : List SOper := [o_ 140 (.mov (t_ 0)),
  o_ 141 (.mov (t_ 16)),
  o_ 142 (.bin .add (t_ 141) (k_ 1)),
  o_ 143 (.mov (t_ 2)),
  o_ 144 (.mov (t_ 3)),
  o_ 145 (.mov (t_ 4)),
  o_ 146 (.call 140 [(t_ 140), (t_ 142), (t_ 143), (t_ 144), (t_ 145)])]
def c140_30 : List SOper := [o_ 147 (.mov (t_ 16)),
  o_ 2 (.mov (t_ 147))]
def c140_31 : SCode := (.block 1 (.seq (.reg [0, 1, 2, 3, 4, 10, 11, 12] c140_2) (.seq (.seq (.reg [0, 1, 2, 3, 4, 10, 11, 12, 25] c140_3) (.cond (t_ 25) (.seq (.reg [] c140_4) .ret) .skip)) (.seq (.seq (.reg [0, 1, 2, 3, 4, 10, 11, 12, 32] c140_5) (.cond (t_ 32) (.seq (.reg [] c140_6) .ret) .skip)) (.seq (.seq (.reg [0, 1, 2, 3, 4, 10, 11, 12, 39] c140_7) (.cond (t_ 39) (.seq (.reg [0, 1, 2, 3, 4, 10, 11, 12] c140_8) (.reg [0, 1, 2, 3, 4, 10, 11, 12] c140_9)) .skip)) (.seq (.reg [0, 1, 2, 3, 4, 10, 11, 12, 13, 14] c140_10) (.seq (.seq (.reg [0, 1, 2, 3, 4, 10, 11, 12, 13, 14, 56] c140_11) (.cond (t_ 56) (.seq (.reg [0, 1, 2, 3, 4, 10, 11, 12, 13] c140_12) (.seq (.reg [0, 1, 2, 3, 4, 10, 11, 12, 13] c140_13) (.reg [0, 1, 2, 3, 4, 10, 11, 12, 13, 14] c140_14))) .skip)) (.seq (.seq (.reg [0, 1, 2, 3, 4, 10, 11, 12, 13, 75] c140_15) (.cond (t_ 75) (.seq (.reg [0, 1, 2, 3, 4, 10, 11, 12, 13, 80] c140_16) (.cond (t_ 80) .ret .skip)) .skip)) (.seq (.seq (.dreg [0, 1, 2, 3, 4, 10, 11, 12, 13, 97] c140_17 c140_17b) (.cond (t_ 97) (.seq (.reg [0, 2, 3, 4, 10, 11, 15] c140_18) (.seq (.reg [0, 1, 2, 3, 4, 10, 11] c140_19) (.exit 1))) .skip)) (.seq (.reg [0, 1, 2, 3, 4, 12, 16, 17] c140_20) (.seq (.reg [0, 1, 2, 3, 4, 11, 12, 16] c140_21) (.seq (.reg [0, 1, 2, 3, 4, 11, 12, 16, 18, 19] c140_22) (.seq (.reg [0, 1, 2, 3, 4, 11, 16, 18, 19, 20] c140_23) (.seq (.reg [0, 1, 2, 3, 4, 11, 16, 18, 19, 20, 125] c140_24) (.cond (t_ 125) (.seq (.reg [0, 1, 2, 3, 4, 10, 11, 16] c140_25) (.seq (.reg [0, 2, 3, 4, 10, 11, 16] c140_26) (.reg [0, 1, 2, 3, 4, 10, 11] c140_27))) (.seq (.reg [0, 1, 2, 3, 4, 10, 11, 16] c140_28) (.seq (.reg [0, 1, 3, 4, 10, 11, 16] c140_29) (.reg [0, 1, 2, 3, 4, 10, 11] c140_30))))))))))))))))))
def c140_body : SCode := (.seq (.reg [0, 1, 2, 3, 4, 10] c140_0) (.seq (.reg [0, 1, 2, 3, 4, 10, 11] c140_1) (.block 0 (.loop [0, 1, 2, 3, 4, 10, 11] c140_31))))
def c140 : SFunc := ⟨5, 148, c140_body, []⟩
/- math/bits.Len -/
def c141_0 : List SOper := [o_ 2 (.mov (k_ 0))]
def c141_1 : List SOper := [o_ 3 (.mov (t_ 0)),
  o_ 4 (.conv .u32 (t_ 3)),
  o_ 5 (.call 195 [(t_ 4)]),
  o_ 2 (.mov (t_ 5))]
def c141_2 : List SOper := [o_ 6 (.mov (t_ 0)),
  o_ 7 (.call 196 [(t_ 6)]),
  o_ 2 (.mov (t_ 7))]
def c141_body : SCode := (.seq (.reg [0] c141_0) (.seq (.cond (.const (.bool false)) (.seq (.reg [2] c141_1) .ret) .skip) (.seq (.reg [2] c141_2) .ret)))
def c141 : SFunc := ⟨1, 8, c141_body, [.tmp 2]⟩
/- cmp.Or[int] -/
def c142_0 : List SOper := [o_ 2 (.mov (k_ 0))]
def c142_1 : List SOper := [o_ 3 (.mov (k_ 0))]
def c142_2 : List SOper := [o_ 6 (.mov (t_ 0)),
  o_ 7 (.lenS (t_ 6)),
  o_ 8 (.mov (k_ 0))]
def c142_3 : List SOper := [o_ 9 (.bin .lss (t_ 8) (t_ 7))]
def c142_4 : List SOper := [o_ 10 (.idxS 1 (t_ 6) (t_ 8)),
  o_ 11 (.load1 (t_ 10)),
  o_ 5 (.mov (t_ 11))]
def c142_5 : List SOper := [o_ 12 (.mov (t_ 5)),
  o_ 13 (.mov (t_ 3)),
  o_ 14 (.bin .neq (t_ 12) (t_ 13))]
def c142_6 : List SOper := [o_ 15 (.mov (t_ 5)),
  o_ 2 (.mov (t_ 15))]
def c142_7 : List SOper := [o_ 16 (.bin .add (t_ 8) (k_ 1)),
  o_ 8 (.mov (t_ 16))]
def c142_8 : SCode := (.seq (.reg [3, 6, 7, 8, 9] c142_3) (.seq (.cond (t_ 9) .skip (.exit 0)) (.seq (.block 1 (.seq (.reg [3, 5, 6, 7, 8] c142_4) (.seq (.reg [3, 5, 6, 7, 8, 14] c142_5) (.cond (t_ 14) (.seq (.reg [2] c142_6) .ret) .skip)))) (.reg [3, 6, 7, 8] c142_7))))
def c142_9 : List SOper := [o_ 17 (.mov (t_ 3)),
  o_ 2 (.mov (t_ 17))]
def c142_body : SCode := (.seq (.reg [0] c142_0) (.seq (.reg [0, 3] c142_1) (.seq (.seq (.reg [3, 6, 7, 8] c142_2) (.block 0 (.loop [3, 6, 7, 8] c142_8))) (.seq (.reg [2] c142_9) .ret))))
def c142 : SFunc := ⟨1, 18, c142_body, [.tmp 2]⟩
/- slices.CompareFunc[[]jacquard/api.Ev,[]jacquard/api.Ev,jacquard/api.Ev,jacquard/api.Ev] -/
def c143_0 : List SOper := [o_ 6 (.mov (k_ 0))]
def c143_1 : List SOper := [o_ 11 (.mov (t_ 0)),
  o_ 12 (.lenS (t_ 11)),
  o_ 13 (.mov (k_ 0))]
def c143_2 : List SOper := [o_ 14 (.bin .lss (t_ 13) (t_ 12))]
def c143_3 : List SOper := [o_ 15 (.mov (t_ 13)),
  o_ 16 (.idxS 6 (t_ 11) (t_ 13)),
  o_ 17 (.loadN 6 (t_ 16)),
  o_ 8 (.alloc (zi 6)),
  o_ 7 (.mov (t_ 15)),
  n_ (.storeN 6 (t_ 8) (t_ 17))]
def c143_4 : List SOper := [o_ 18 (.mov (t_ 7)),
  o_ 19 (.mov (t_ 1)),
  o_ 20 (.lenS (t_ 19)),
  o_ 21 (.bin .geq (t_ 18) (t_ 20))]
def c143_5 : List SOper := [o_ 6 (.mov (k_ 1))]
def c143_6 : List SOper := [o_ 22 (.mov (t_ 1)),
  o_ 23 (.mov (t_ 7)),
  o_ 24 (.idxS 6 (t_ 22) (t_ 23)),
  o_ 25 (.loadN 6 (t_ 24)),
  o_ 9 (.alloc (zi 6)),
  n_ (.storeN 6 (t_ 9) (t_ 25))]
def c143_7 : List SOper := [o_ 26 (.mov (t_ 2)),
  o_ 27 (.loadN 6 (t_ 8)),
  o_ 28 (.loadN 6 (t_ 9)),
  o_ 29 (.callv (t_ 26) [(t_ 27), (t_ 28)]),
  o_ 10 (.mov (t_ 29))]
def c143_8 : List SOper := [o_ 30 (.mov (t_ 10)),
  o_ 31 (.bin .neq (t_ 30) (k_ 0))]
def c143_9 : List SOper := [o_ 32 (.mov (t_ 10)),
  o_ 6 (.mov (t_ 32))]
def c143_10 : List SOper := [o_ 33 (.bin .add (t_ 13) (k_ 1)),
  o_ 13 (.mov (t_ 33))]
def c143_11 : SCode := (.seq (.reg [0, 1, 2, 11, 12, 13, 14] c143_2) (.seq (.cond (t_ 14) .skip (.exit 0)) (.seq (.block 1 (.seq (.reg [0, 1, 2, 7, 8, 11, 12, 13] c143_3) (.seq (.seq (.reg [0, 1, 2, 7, 8, 11, 12, 13, 21] c143_4) (.cond (t_ 21) (.seq (.reg [6] c143_5) .ret) .skip)) (.seq (.reg [0, 1, 2, 8, 9, 11, 12, 13] c143_6) (.seq (.reg [0, 1, 2, 10, 11, 12, 13] c143_7) (.seq (.reg [0, 1, 2, 10, 11, 12, 13, 31] c143_8) (.cond (t_ 31) (.seq (.reg [6] c143_9) .ret) .skip))))))) (.reg [0, 1, 2, 11, 12, 13] c143_10))))
def c143_12 : List SOper := [o_ 34 (.mov (t_ 0)),
  o_ 35 (.lenS (t_ 34)),
  o_ 36 (.mov (t_ 1)),
  o_ 37 (.lenS (t_ 36)),
  o_ 38 (.bin .lss (t_ 35) (t_ 37))]
def c143_13 : List SOper := [o_ 6 (.mov (k_ (-1)))]
def c143_14 : List SOper := [o_ 6 (.mov (k_ 0))]
def c143_body : SCode := (.seq (.reg [0, 1, 2] c143_0) (.seq (.seq (.reg [0, 1, 2, 11, 12, 13] c143_1) (.block 0 (.loop [0, 1, 2, 11, 12, 13] c143_11))) (.seq (.seq (.reg [38] c143_12) (.cond (t_ 38) (.seq (.reg [6] c143_13) .ret) .skip)) (.seq (.reg [6] c143_14) .ret))))
def c143 : SFunc := ⟨3, 39, c143_body, [.tmp 6]⟩
/- jacquard/exec.compareEv -/
def c144_0 : List SOper := [o_ 2 (.box (t_ 0)),
  o_ 3 (.box (t_ 1)),
  o_ 4 (.mov (k_ 0))]
def c144_1 : List SOper := [⟨(some 5), .fld 0 (t_ 2), none, [2], 0, [], 0, 0, []⟩,
  ⟨(some 6), .load1 (t_ 5), none, [5], 1, [0], 0, 0, []⟩,
  ⟨(some 7), .fld 0 (t_ 3), none, [3], 2, [], 0, 0, []⟩,
  ⟨(some 8), .load1 (t_ 7), none, [7], 3, [2], 0, 0, []⟩,
  ⟨(some 10), .fld 1 (t_ 2), none, [2], 5, [], 0, 0, []⟩,
  ⟨(some 11), .load1 (t_ 10), none, [10], 6, [5], 0, 1, []⟩,
  ⟨(some 12), .fld 1 (t_ 3), none, [3], 7, [], 0, 0, []⟩,
  ⟨(some 13), .load1 (t_ 12), none, [12], 8, [7], 0, 1, []⟩,
  ⟨(some 15), .fld 2 (t_ 2), none, [2], 10, [], 0, 0, []⟩,
  ⟨(some 16), .load1 (t_ 15), none, [15], 11, [10], 0, 2, []⟩,
  ⟨(some 17), .fld 2 (t_ 3), none, [3], 12, [], 0, 0, []⟩,
  ⟨(some 18), .load1 (t_ 17), none, [17], 13, [12], 0, 2, []⟩,
  ⟨(some 20), .fld 3 (t_ 2), none, [2], 15, [], 0, 0, []⟩,
  ⟨(some 21), .load1 (t_ 20), none, [20], 16, [15], 0, 3, []⟩,
  ⟨(some 22), .fld 3 (t_ 3), none, [3], 17, [], 0, 0, []⟩,
  ⟨(some 23), .load1 (t_ 22), none, [22], 18, [17], 0, 3, []⟩,
  ⟨(some 25), .fld 4 (t_ 2), none, [2], 20, [], 0, 0, []⟩,
  ⟨(some 26), .load1 (t_ 25), none, [25], 21, [20], 0, 4, []⟩,
  ⟨(some 27), .fld 4 (t_ 3), none, [3], 22, [], 0, 0, []⟩,
  ⟨(some 28), .load1 (t_ 27), none, [27], 23, [22], 0, 4, []⟩,
  ⟨(some 30), .fld 5 (t_ 2), none, [2], 25, [], 0, 0, []⟩,
  ⟨(some 31), .load1 (t_ 30), none, [30], 26, [25], 0, 5, []⟩,
  ⟨(some 32), .fld 5 (t_ 3), none, [3], 27, [], 0, 0, []⟩,
  ⟨(some 33), .load1 (t_ 32), none, [32], 28, [27], 0, 5, []⟩,
  ⟨(some 9), .call 197 [(t_ 6), (t_ 8)], none, [6, 8], 4, [1, 3], 0, 0, []⟩,
  ⟨(some 14), .call 197 [(t_ 11), (t_ 13)], none, [11, 13], 9, [6, 8, 4], 0, 0, []⟩,
  ⟨(some 19), .call 197 [(t_ 16), (t_ 18)], none, [16, 18], 14, [11, 13, 9], 0, 0, []⟩,
  ⟨(some 24), .call 197 [(t_ 21), (t_ 23)], none, [21, 23], 19, [16, 18, 14], 0, 0, []⟩,
  ⟨(some 29), .call 198 [(t_ 26), (t_ 28)], none, [26, 28], 24, [21, 23, 19], 0, 0, []⟩,
  ⟨(some 34), .call 198 [(t_ 31), (t_ 33)], none, [31, 33], 29, [26, 28, 24], 0, 0, []⟩,
  ⟨(some 35), .mkslice 6 (zi 6) [(0, 1, (t_ 9)), (1, 1, (t_ 14)), (2, 1, (t_ 19)), (3, 1, (t_ 24)), (4, 1, (t_ 29)), (5, 1, (t_ 34))], none, [9, 14, 19, 24, 29, 34], 30, [4, 9, 14, 19, 24, 29], 0, 0, []⟩,
  ⟨(some 36), .call 142 [(t_ 35)], none, [35], 31, [30, 29], 0, 0, [30]⟩,
  ⟨(some 4), .mov (t_ 36), none, [36], 32, [31, 31, 0, 1, 2, 3, 4, 5, 6, 7, 8, 9, 10, 11, 12, 13, 14, 15, 16, 17, 18, 19, 20, 21, 22, 23, 24, 25, 26, 27, 28, 29, 30, 31], 0, 0, []⟩]
def c144_1b : List SOper := []
def c144_body : SCode := (.seq (.reg [2, 3] c144_0) (.seq (.dreg [4] c144_1 c144_1b) .ret))
def c144 : SFunc := ⟨2, 37, c144_body, [.tmp 4]⟩
/- slices.Compare[[]int,int] -/
def c145_0 : List SOper := [o_ 4 (.mov (k_ 0))]
def c145_1 : List SOper := [o_ 9 (.mov (t_ 0)),
  o_ 10 (.lenS (t_ 9)),
  o_ 11 (.mov (k_ 0))]
def c145_2 : List SOper := [o_ 12 (.bin .lss (t_ 11) (t_ 10))]
def c145_3 : List SOper := [o_ 13 (.mov (t_ 11)),
  o_ 14 (.idxS 1 (t_ 9) (t_ 11)),
  o_ 15 (.load1 (t_ 14)),
  o_ 5 (.mov (t_ 13)),
  o_ 6 (.mov (t_ 15))]
def c145_4 : List SOper := [o_ 16 (.mov (t_ 5)),
  o_ 17 (.mov (t_ 1)),
  o_ 18 (.lenS (t_ 17)),
  o_ 19 (.bin .geq (t_ 16) (t_ 18))]
def c145_5 : List SOper := [o_ 4 (.mov (k_ 1))]
def c145_6 : List SOper := [o_ 20 (.mov (t_ 1)),
  o_ 21 (.mov (t_ 5)),
  o_ 22 (.idxS 1 (t_ 20) (t_ 21)),
  o_ 23 (.load1 (t_ 22)),
  o_ 7 (.mov (t_ 23))]
def c145_7 : List SOper := [o_ 24 (.mov (t_ 6)),
  o_ 25 (.mov (t_ 7)),
  o_ 26 (.call 197 [(t_ 24), (t_ 25)]),
  o_ 8 (.mov (t_ 26))]
def c145_8 : List SOper := [o_ 27 (.mov (t_ 8)),
  o_ 28 (.bin .neq (t_ 27) (k_ 0))]
def c145_9 : List SOper := [o_ 29 (.mov (t_ 8)),
  o_ 4 (.mov (t_ 29))]
def c145_10 : List SOper := [o_ 30 (.bin .add (t_ 11) (k_ 1)),
  o_ 11 (.mov (t_ 30))]
def c145_11 : SCode := (.seq (.reg [0, 1, 9, 10, 11, 12] c145_2) (.seq (.cond (t_ 12) .skip (.exit 0)) (.seq (.block 1 (.seq (.reg [0, 1, 5, 6, 9, 10, 11] c145_3) (.seq (.seq (.reg [0, 1, 5, 6, 9, 10, 11, 19] c145_4) (.cond (t_ 19) (.seq (.reg [4] c145_5) .ret) .skip)) (.seq (.reg [0, 1, 6, 7, 9, 10, 11] c145_6) (.seq (.reg [0, 1, 8, 9, 10, 11] c145_7) (.seq (.reg [0, 1, 8, 9, 10, 11, 28] c145_8) (.cond (t_ 28) (.seq (.reg [4] c145_9) .ret) .skip))))))) (.reg [0, 1, 9, 10, 11] c145_10))))
def c145_12 : List SOper := [o_ 31 (.mov (t_ 0)),
  o_ 32 (.lenS (t_ 31)),
  o_ 33 (.mov (t_ 1)),
  o_ 34 (.lenS (t_ 33)),
  o_ 35 (.bin .lss (t_ 32) (t_ 34))]
def c145_13 : List SOper := [o_ 4 (.mov (k_ (-1)))]
def c145_14 : List SOper := [o_ 4 (.mov (k_ 0))]
def c145_body : SCode := (.seq (.reg [0, 1] c145_0) (.seq (.seq (.reg [0, 1, 9, 10, 11] c145_1) (.block 0 (.loop [0, 1, 9, 10, 11] c145_11))) (.seq (.seq (.reg [35] c145_12) (.cond (t_ 35) (.seq (.reg [4] c145_13) .ret) .skip)) (.seq (.reg [4] c145_14) .ret))))
def c145 : SFunc := ⟨2, 36, c145_body, [.tmp 4]⟩
/- slices.CompareFunc[[][]int,[][]int,[]int,[]int] -/
def c146_0 : List SOper := [o_ 6 (.mov (k_ 0))]
def c146_1 : List SOper := [o_ 11 (.mov (t_ 0)),
  o_ 12 (.lenS (t_ 11)),
  o_ 13 (.mov (k_ 0))]
def c146_2 : List SOper := [o_ 14 (.bin .lss (t_ 13) (t_ 12))]
def c146_3 : List SOper := [o_ 15 (.mov (t_ 13)),
  o_ 16 (.idxS 1 (t_ 11) (t_ 13)),
  o_ 17 (.load1 (t_ 16)),
  o_ 7 (.mov (t_ 15)),
  o_ 8 (.mov (t_ 17))]
def c146_4 : List SOper := [o_ 18 (.mov (t_ 7)),
  o_ 19 (.mov (t_ 1)),
  o_ 20 (.lenS (t_ 19)),
  o_ 21 (.bin .geq (t_ 18) (t_ 20))]
def c146_5 : List SOper := [o_ 6 (.mov (k_ 1))]
def c146_6 : List SOper := [o_ 22 (.mov (t_ 1)),
  o_ 23 (.mov (t_ 7)),
  o_ 24 (.idxS 1 (t_ 22) (t_ 23)),
  o_ 25 (.load1 (t_ 24)),
  o_ 9 (.mov (t_ 25))]
def c146_7 : List SOper := [o_ 26 (.mov (t_ 2)),
  o_ 27 (.mov (t_ 8)),
  o_ 28 (.mov (t_ 9)),
  o_ 29 (.callv (t_ 26) [(t_ 27), (t_ 28)]),
  o_ 10 (.mov (t_ 29))]
def c146_8 : List SOper := [o_ 30 (.mov (t_ 10)),
  o_ 31 (.bin .neq (t_ 30) (k_ 0))]
def c146_9 : List SOper := [o_ 32 (.mov (t_ 10)),
  o_ 6 (.mov (t_ 32))]
def c146_10 : List SOper := [o_ 33 (.bin .add (t_ 13) (k_ 1)),
  o_ 13 (.mov (t_ 33))]
def c146_11 : SCode := (.seq (.reg [0, 1, 2, 11, 12, 13, 14] c146_2) (.seq (.cond (t_ 14) .skip (.exit 0)) (.seq (.block 1 (.seq (.reg [0, 1, 2, 7, 8, 11, 12, 13] c146_3) (.seq (.seq (.reg [0, 1, 2, 7, 8, 11, 12, 13, 21] c146_4) (.cond (t_ 21) (.seq (.reg [6] c146_5) .ret) .skip)) (.seq (.reg [0, 1, 2, 8, 9, 11, 12, 13] c146_6) (.seq (.reg [0, 1, 2, 10, 11, 12, 13] c146_7) (.seq (.reg [0, 1, 2, 10, 11, 12, 13, 31] c146_8) (.cond (t_ 31) (.seq (.reg [6] c146_9) .ret) .skip))))))) (.reg [0, 1, 2, 11, 12, 13] c146_10))))
def c146_12 : List SOper := [o_ 34 (.mov (t_ 0)),
  o_ 35 (.lenS (t_ 34)),
  o_ 36 (.mov (t_ 1)),
  o_ 37 (.lenS (t_ 36)),
  o_ 38 (.bin .lss (t_ 35) (t_ 37))]
def c146_13 : List SOper := [o_ 6 (.mov (k_ (-1)))]
def c146_14 : List SOper := [o_ 6 (.mov (k_ 0))]
def c146_body : SCode := (.seq (.reg [0, 1, 2] c146_0) (.seq (.seq (.reg [0, 1, 2, 11, 12, 13] c146_1) (.block 0 (.loop [0, 1, 2, 11, 12, 13] c146_11))) (.seq (.seq (.reg [38] c146_12) (.cond (t_ 38) (.seq (.reg [6] c146_13) .ret) .skip)) (.seq (.reg [6] c146_14) .ret))))
def c146 : SFunc := ⟨3, 39, c146_body, [.tmp 6]⟩
/- jacquard/event.Inits -/
def c147_0 : List SOper := [o_ 1 (.box (t_ 0)),
  o_ 2 (.mov (.const (.slice none 0 0)))]
def c147_1 : List SOper := [o_ 3 (.mov (.const (.slice none 0 0)))]
def c147_2 : List SOper := [o_ 6 (.fld 1 (t_ 1)),
  o_ 7 (.load1 (t_ 6)),
  o_ 8 (.lenS (t_ 7)),
  o_ 9 (.mov (k_ 0))]
def c147_3 : List SOper := [o_ 10 (.bin .lss (t_ 9) (t_ 8))]
def c147_4 : List SOper := [o_ 11 (.mov (t_ 9)),
  o_ 12 (.idxS 1 (t_ 7) (t_ 9)),
  o_ 13 (.load1 (t_ 12)),
  o_ 4 (.mov (t_ 11)),
  o_ 5 (.mov (t_ 13))]
def c147_5 : List SOper := [o_ 14 (.mov (t_ 3)),
  o_ 15 (.mov (t_ 4)),
  o_ 16 (.mov (t_ 4)),
  o_ 17 (.mov (t_ 5)),
  o_ 18 (.build (zi 6) [(0, 1, (k_ (-1))), (1, 1, (t_ 15)), (2, 1, (k_ 2)), (3, 1, (t_ 16)), (5, 1, (t_ 17))]),
  o_ 19 (.mkslice 1 (zi 6) [(0, 6, (t_ 18))]),
  o_ 20 (.append 6 48 (t_ 14) (t_ 19)),
  o_ 3 (.mov (t_ 20))]
def c147_6 : List SOper := [o_ 21 (.bin .add (t_ 9) (k_ 1)),
  o_ 9 (.mov (t_ 21))]
def c147_7 : SCode := (.seq (.reg [3, 7, 8, 9, 10] c147_3) (.seq (.cond (t_ 10) .skip (.exit 0)) (.seq (.block 1 (.seq (.reg [3, 4, 5, 7, 8, 9] c147_4) (.reg [3, 7, 8, 9] c147_5))) (.reg [3, 7, 8, 9] c147_6))))
def c147_8 : List SOper := [o_ 22 (.mov (t_ 3)),
  o_ 2 (.mov (t_ 22))]
def c147_body : SCode := (.seq (.reg [1] c147_0) (.seq (.reg [1, 3] c147_1) (.seq (.seq (.reg [3, 7, 8, 9] c147_2) (.block 0 (.loop [3, 7, 8, 9] c147_7))) (.seq (.reg [2] c147_8) .ret))))
def c147 : SFunc := ⟨1, 23, c147_body, [.tmp 2]⟩
/- jacquard/event.Same -/
def c148_0 : List SOper := [o_ 4 (.mov (.const (.bool false)))]
def c148_1 : List SOper := [o_ 5 (.mov (t_ 0)),
  o_ 6 (.mov (t_ 1)),
  o_ 7 (.call 199 [(t_ 5), (t_ 6)]),
  o_ 4 (.mov (t_ 7))]
def c148_body : SCode := (.seq (.reg [0, 1] c148_0) (.seq (.reg [4] c148_1) .ret))
def c148 : SFunc := ⟨2, 8, c148_body, [.tmp 4]⟩
/- jacquard/event.Reads -/
def c100_0 : List SOper := [o_ 1 (.box (t_ 0)),
  o_ 2 (.mov (.const (.bool false)))]
def c100_1 : List SOper := [o_ 3 (.fld 2 (t_ 1)),
  o_ 4 (.load1 (t_ 3)),
  o_ 5 (.bin .eql (t_ 4) (k_ 1)),
  o_ 6 (.mov (t_ 5)),
  g_ 7 6 false (.fld 2 (t_ 1)),
  g_ 8 6 false (.load1 (t_ 7)),
  g_ 9 6 false (.bin .eql (t_ 8) (k_ 4)),
  o_ 10 (.pick (t_ 6) (.const (.bool true)) (t_ 9)),
  o_ 11 (.mov (t_ 10)),
  g_ 12 11 false (.fld 2 (t_ 1)),
  g_ 13 11 false (.load1 (t_ 12)),
  g_ 14 11 false (.bin .eql (t_ 13) (k_ 5)),
  o_ 15 (.pick (t_ 11) (.const (.bool true)) (t_ 14)),
  o_ 2 (.mov (t_ 15))]
def c100_body : SCode := (.seq (.reg [1] c100_0) (.seq (.reg [2] c100_1) .ret))
def c100 : SFunc := ⟨1, 16, c100_body, [.tmp 2]⟩
/- jacquard/event.Unfold -/
def c149_0 : List SOper := [o_ 3 (.box (t_ 0)),
  o_ 6 (.mov (.const (.slice none 0 0))),
  o_ 7 (.alloc (zi 5)),
  o_ 8 (.mov (.const (.bool false)))]
def c149_1 : List SOper := [o_ 14 (.loadN 3 (t_ 3)),
  o_ 15 (.mov (t_ 1)),
  o_ 16 (.call 60 [(t_ 14), (t_ 15)]),
  n_ (.storeN 5 (t_ 7) (t_ 16))]
def c149_2 : List SOper := [o_ 18 (.loadN 3 (t_ 3)),
  o_ 19 (.mov (t_ 1)),
  o_ 20 (.loadN 5 (t_ 7)),
  o_ 21 (.call 113 [(t_ 18), (t_ 19), (t_ 20)]),
  o_ 17 (.mov (t_ 21)),
  o_ 22 (.extr (t_ 17) 0),
  o_ 23 (.extr (t_ 17) 1),
  o_ 9 (.alloc (zi 9)),
  n_ (.storeN 9 (t_ 9) (t_ 22)),
  o_ 10 (.mov (t_ 23))]
def c149_3 : List SOper := [o_ 24 (.mov (t_ 10)),
  o_ 25 (.un .not (t_ 24))]
def c149_4 : List SOper := [⟨(some 26), .mov (t_ 6), none, [6], 0, [], 0, 0, []⟩,
  ⟨(some 27), .loadN 5 (t_ 7), none, [7], 1, [], 0, 0, []⟩,
  ⟨(some 6), .mov (t_ 26), none, [26], 2, [0, 0], 0, 0, []⟩,
  ⟨(some 8), .mov (.const (.bool false)), none, [], 4, [3, 0, 1, 2, 3], 0, 0, []⟩]
def c149_4b : List SOper := [⟨none, .storeN 5 (t_ 7) (t_ 27), none, [7, 27], 3, [1, 2, 0, 1, 2], 0, 0, [1]⟩]
def c149_5 : List SOper := [o_ 11 (.mov (k_ 0))]
def c149_6 : List SOper := [o_ 28 (.mov (t_ 2)),
  o_ 29 (.lenS (t_ 28)),
  o_ 30 (.bin .gtr (t_ 29) (k_ 0))]
def c149_7 : List SOper := [o_ 31 (.mov (t_ 2)),
  o_ 32 (.idxS 1 (t_ 31) (k_ 0)),
  o_ 33 (.load1 (t_ 32)),
  o_ 11 (.mov (t_ 33))]
def c149_8 : List SOper := [o_ 35 (.loadN 9 (t_ 9)),
  o_ 36 (.loadN 5 (t_ 7)),
  o_ 37 (.mov (t_ 11)),
  o_ 38 (.call 114 [(t_ 35), (t_ 36), (t_ 37)]),
  o_ 34 (.mov (t_ 38)),
  o_ 39 (.extr (t_ 34) 0),
  o_ 40 (.extr (t_ 34) 1),
  o_ 12 (.alloc (zi 6)),
  n_ (.storeN 6 (t_ 12) (t_ 39)),
  o_ 13 (.mov (t_ 40))]
def c149_9 : List SOper := [o_ 41 (.mov (t_ 13))]
def c149_10 : List SOper := [o_ 42 (.mov (t_ 2)),
  o_ 43 (.lenS (t_ 42)),
  o_ 44 (.bin .eql (t_ 43) (k_ 0))]
def c149_11 : List SOper := [⟨(some 45), .mov (t_ 6), none, [6], 0, [], 0, 0, []⟩,
  ⟨(some 46), .loadN 5 (t_ 7), none, [7], 1, [], 0, 0, []⟩,
  ⟨(some 6), .mov (t_ 45), none, [45], 2, [0, 0], 0, 0, []⟩,
  ⟨(some 8), .mov (.const (.bool true)), none, [], 4, [3, 0, 1, 2, 3], 0, 0, []⟩]
def c149_11b : List SOper := [⟨none, .storeN 5 (t_ 7) (t_ 46), none, [7, 46], 3, [1, 2, 0, 1, 2], 0, 0, [1]⟩]
def c149_12 : List SOper := [o_ 47 (.mov (t_ 2)),
  o_ 48 (.slsl 1 (t_ 47) (some (k_ 1)) none none),
  o_ 2 (.mov (t_ 48))]
def c149_13 : List SOper := [o_ 49 (.mov (t_ 1)),
  o_ 50 (.mov (t_ 6)),
  o_ 51 (.lenS (t_ 50)),
  o_ 52 (.fld 0 (t_ 12)),
  n_ (.store1 (t_ 52) (t_ 49)),
  o_ 53 (.fld 1 (t_ 12)),
  n_ (.store1 (t_ 53) (t_ 51))]
def c149_14 : List SOper := [o_ 54 (.mov (t_ 6)),
  o_ 55 (.loadN 6 (t_ 12)),
  o_ 56 (.mkslice 1 (zi 6) [(0, 6, (t_ 55))]),
  o_ 57 (.append 6 48 (t_ 54) (t_ 56)),
  o_ 6 (.mov (t_ 57))]
def c149_15 : List SOper := [o_ 58 (.loadN 3 (t_ 3)),
  o_ 59 (.mov (t_ 1)),
  o_ 60 (.loadN 5 (t_ 7)),
  o_ 61 (.mov (t_ 11)),
  o_ 62 (.call 116 [(t_ 58), (t_ 59), (t_ 60), (t_ 61)]),
  n_ (.storeN 5 (t_ 7) (t_ 62))]
def c149_16 : SCode := (.block 1 (.seq (.reg [1, 2, 3, 6, 7, 9, 10] c149_2) (.seq (.seq (.reg [1, 2, 3, 6, 7, 9, 25] c149_3) (.cond (t_ 25) (.seq (.dreg [6, 7, 8] c149_4 c149_4b) .ret) .skip)) (.seq (.reg [1, 2, 3, 6, 7, 9, 11] c149_5) (.seq (.seq (.reg [1, 2, 3, 6, 7, 9, 11, 30] c149_6) (.cond (t_ 30) (.reg [1, 2, 3, 6, 7, 9, 11] c149_7) .skip)) (.seq (.reg [1, 2, 3, 6, 7, 11, 12, 13] c149_8) (.seq (.seq (.reg [1, 2, 3, 6, 7, 11, 12, 41] c149_9) (.cond (t_ 41) (.seq (.seq (.reg [1, 2, 3, 6, 7, 11, 12, 44] c149_10) (.cond (t_ 44) (.seq (.dreg [6, 7, 8] c149_11 c149_11b) .ret) .skip)) (.reg [1, 2, 3, 6, 7, 11, 12] c149_12)) .skip)) (.seq (.reg [1, 2, 3, 6, 7, 11, 12] c149_13) (.seq (.reg [1, 2, 3, 6, 7, 11] c149_14) (.reg [1, 2, 3, 6, 7] c149_15))))))))))
def c149_body : SCode := (.seq (.reg [1, 2, 3, 6, 7] c149_0) (.seq (.reg [1, 2, 3, 6, 7] c149_1) (.block 0 (.loop [1, 2, 3, 6, 7] c149_16))))
def c149 : SFunc := ⟨3, 63, c149_body, [.tmp 6, .cellN 7 5, .tmp 8]⟩
/- jacquard/event.PO -/
def c52_0 : List SOper := [o_ 2 (.alloc [(.int .i64 (0)), (.int .u64 (0)), (.int .u64 (0)), (.int .u64 (0)), (.int .u64 (0)), (.int .u64 (0)), (.int .u64 (0)), (.int .u64 (0)), (.int .u64 (0)), (.int .u64 (0)), (.int .u64 (0)), (.int .u64 (0)), (.int .u64 (0)), (.int .u64 (0)), (.int .u64 (0)), (.int .u64 (0)), (.int .u64 (0)), (.int .u64 (0)), (.int .u64 (0)), (.int .u64 (0)), (.int .u64 (0)), (.int .u64 (0)), (.int .u64 (0)), (.int .u64 (0)), (.int .u64 (0)), (.int .u64 (0)), (.int .u64 (0)), (.int .u64 (0)), (.int .u64 (0)), (.int .u64 (0)), (.int .u64 (0)), (.int .u64 (0)), (.int .u64 (0)), (.int .u64 (0)), (.int .u64 (0)), (.int .u64 (0)), (.int .u64 (0)), (.int .u64 (0)), (.int .u64 (0)), (.int .u64 (0)), (.int .u64 (0)), (.int .u64 (0)), (.int .u64 (0)), (.int .u64 (0)), (.int .u64 (0)), (.int .u64 (0)), (.int .u64 (0)), (.int .u64 (0)), (.int .u64 (0)), (.int .u64 (0)), (.int .u64 (0)), (.int .u64 (0)), (.int .u64 (0)), (.int .u64 (0)), (.int .u64 (0)), (.int .u64 (0)), (.int .u64 (0)), (.int .u64 (0)), (.int .u64 (0)), (.int .u64 (0)), (.int .u64 (0)), (.int .u64 (0)), (.int .u64 (0)), (.int .u64 (0)), (.int .u64 (0))])]
def c52_1 : List SOper := [o_ 8 (.mov (t_ 0)),
  o_ 9 (.lenS (t_ 8)),
  o_ 10 (.bin .gtr (t_ 9) (k_ 64))]
def c52_2 : List SOper := [o_ 11 (.call 38 [(k_ 0)]),
  n_ (.storeN 65 (t_ 2) (t_ 11))]
def c52_3 : List SOper := [o_ 12 (.mov (t_ 0)),
  o_ 13 (.lenS (t_ 12)),
  o_ 14 (.call 38 [(t_ 13)]),
  o_ 3 (.alloc [(.int .i64 (0)), (.int .u64 (0)), (.int .u64 (0)), (.int .u64 (0)), (.int .u64 (0)), (.int .u64 (0)), (.int .u64 (0)), (.int .u64 (0)), (.int .u64 (0)), (.int .u64 (0)), (.int .u64 (0)), (.int .u64 (0)), (.int .u64 (0)), (.int .u64 (0)), (.int .u64 (0)), (.int .u64 (0)), (.int .u64 (0)), (.int .u64 (0)), (.int .u64 (0)), (.int .u64 (0)), (.int .u64 (0)), (.int .u64 (0)), (.int .u64 (0)), (.int .u64 (0)), (.int .u64 (0)), (.int .u64 (0)), (.int .u64 (0)), (.int .u64 (0)), (.int .u64 (0)), (.int .u64 (0)), (.int .u64 (0)), (.int .u64 (0)), (.int .u64 (0)), (.int .u64 (0)), (.int .u64 (0)), (.int .u64 (0)), (.int .u64 (0)), (.int .u64 (0)), (.int .u64 (0)), (.int .u64 (0)), (.int .u64 (0)), (.int .u64 (0)), (.int .u64 (0)), (.int .u64 (0)), (.int .u64 (0)), (.int .u64 (0)), (.int .u64 (0)), (.int .u64 (0)), (.int .u64 (0)), (.int .u64 (0)), (.int .u64 (0)), (.int .u64 (0)), (.int .u64 (0)), (.int .u64 (0)), (.int .u64 (0)), (.int .u64 (0)), (.int .u64 (0)), (.int .u64 (0)), (.int .u64 (0)), (.int .u64 (0)), (.int .u64 (0)), (.int .u64 (0)), (.int .u64 (0)), (.int .u64 (0)), (.int .u64 (0))]),
  n_ (.storeN 65 (t_ 3) (t_ 14))]
def c52_4 : List SOper := [o_ 15 (.mov (t_ 0)),
  o_ 16 (.lenS (t_ 15)),
  o_ 17 (.mov (k_ 0))]
def c52_5 : List SOper := [o_ 18 (.bin .lss (t_ 17) (t_ 16))]
def c52_6 : List SOper := [o_ 19 (.mov (t_ 17)),
  o_ 20 (.idxS 6 (t_ 15) (t_ 17)),
  o_ 21 (.loadN 6 (t_ 20)),
  o_ 5 (.alloc (zi 6)),
  o_ 4 (.mov (t_ 19)),
  n_ (.storeN 6 (t_ 5) (t_ 21))]
def c52_7 : List SOper := [o_ 22 (.mov (t_ 0)),
  o_ 23 (.lenS (t_ 22)),
  o_ 24 (.mov (k_ 0))]
def c52_8 : List SOper := [o_ 25 (.bin .lss (t_ 24) (t_ 23))]
def c52_9 : List SOper := [o_ 26 (.mov (t_ 24)),
  o_ 27 (.idxS 6 (t_ 22) (t_ 24)),
  o_ 28 (.loadN 6 (t_ 27)),
  o_ 7 (.alloc (zi 6)),
  o_ 6 (.mov (t_ 26)),
  n_ (.storeN 6 (t_ 7) (t_ 28))]
def c52_10 : List SOper := [o_ 29 (.fld 0 (t_ 5)),
  o_ 30 (.load1 (t_ 29)),
  o_ 31 (.bin .lss (t_ 30) (k_ 0)),
  o_ 32 (.mov (t_ 31)),
  g_ 33 32 true (.fld 0 (t_ 7)),
  g_ 34 32 true (.load1 (t_ 33)),
  g_ 35 32 true (.bin .geq (t_ 34) (k_ 0)),
  o_ 36 (.pick (t_ 32) (t_ 35) (.const (.bool false))),
  o_ 37 (.mov (t_ 36)),
  g_ 38 37 false (.fld 0 (t_ 5)),
  g_ 39 37 false (.load1 (t_ 38)),
  g_ 40 37 false (.bin .geq (t_ 39) (k_ 0)),
  g_ 41 37 false (.mov (t_ 40)),
  g_ 42 41 true (.fld 0 (t_ 5)),
  g_ 43 41 true (.load1 (t_ 42)),
  g_ 44 41 true (.fld 0 (t_ 7)),
  g_ 45 41 true (.load1 (t_ 44)),
  g_ 46 41 true (.bin .eql (t_ 43) (t_ 45)),
  g_ 47 37 false (.pick (t_ 41) (t_ 46) (.const (.bool false))),
  g_ 48 37 false (.mov (t_ 47)),
  g_ 49 48 true (.fld 1 (t_ 5)),
  g_ 50 48 true (.load1 (t_ 49)),
  g_ 51 48 true (.fld 1 (t_ 7)),
  g_ 52 48 true (.load1 (t_ 51)),
  g_ 53 48 true (.bin .lss (t_ 50) (t_ 52)),
  g_ 54 37 false (.pick (t_ 48) (t_ 53) (.const (.bool false))),
  o_ 55 (.pick (t_ 37) (.const (.bool true)) (t_ 54))]
def c52_11 : List SOper := [o_ 56 (.loadN 65 (t_ 3)),
  o_ 57 (.mov (t_ 4)),
  o_ 58 (.mov (t_ 6)),
  o_ 59 (.call 56 [(t_ 56), (t_ 57), (t_ 58)]),
  n_ (.storeN 65 (t_ 3) (t_ 59))]
def c52_12 : List SOper := [o_ 60 (.bin .add (t_ 24) (k_ 1)),
  o_ 24 (.mov (t_ 60))]
def c52_13 : SCode := (.seq (.reg [0, 2, 3, 4, 5, 15, 16, 17, 22, 23, 24, 25] c52_8) (.seq (.cond (t_ 25) .skip (.exit 2)) (.seq (.block 3 (.seq (.reg [0, 2, 3, 4, 5, 6, 7, 15, 16, 17, 22, 23, 24] c52_9) (.seq (.reg [0, 2, 3, 4, 5, 6, 15, 16, 17, 22, 23, 24, 55] c52_10) (.cond (t_ 55) (.reg [0, 2, 3, 4, 5, 15, 16, 17, 22, 23, 24] c52_11) .skip)))) (.reg [0, 2, 3, 4, 5, 15, 16, 17, 22, 23, 24] c52_12))))
def c52_14 : List SOper := [o_ 61 (.bin .add (t_ 17) (k_ 1)),
  o_ 17 (.mov (t_ 61))]
def c52_15 : SCode := (.seq (.reg [0, 2, 3, 15, 16, 17, 18] c52_5) (.seq (.cond (t_ 18) .skip (.exit 0)) (.seq (.block 1 (.seq (.reg [0, 2, 3, 4, 5, 15, 16, 17] c52_6) (.seq (.reg [0, 2, 3, 4, 5, 15, 16, 17, 22, 23, 24] c52_7) (.block 2 (.loop [0, 2, 3, 4, 5, 15, 16, 17, 22, 23, 24] c52_13))))) (.reg [0, 2, 3, 15, 16, 17] c52_14))))
def c52_16 : List SOper := [o_ 62 (.loadN 65 (t_ 3)),
  n_ (.storeN 65 (t_ 2) (t_ 62))]
def c52_body : SCode := (.seq (.reg [0, 2] c52_0) (.seq (.seq (.reg [0, 2, 10] c52_1) (.cond (t_ 10) (.seq (.reg [2] c52_2) .ret) .skip)) (.seq (.reg [0, 2, 3] c52_3) (.seq (.seq (.reg [0, 2, 3, 15, 16, 17] c52_4) (.block 0 (.loop [0, 2, 3, 15, 16, 17] c52_15))) (.seq (.reg [2] c52_16) .ret)))))
def c52 : SFunc := ⟨1, 63, c52_body, [.cellN 2 65]⟩
/- (jacquard/rel.Rel).Add -/
def c56_0 : List SOper := [o_ 3 (.box (t_ 0)),
  o_ 6 (.alloc [(.int .i64 (0)), (.int .u64 (0)), (.int .u64 (0)), (.int .u64 (0)), (.int .u64 (0)), (.int .u64 (0)), (.int .u64 (0)), (.int .u64 (0)), (.int .u64 (0)), (.int .u64 (0)), (.int .u64 (0)), (.int .u64 (0)), (.int .u64 (0)), (.int .u64 (0)), (.int .u64 (0)), (.int .u64 (0)), (.int .u64 (0)), (.int .u64 (0)), (.int .u64 (0)), (.int .u64 (0)), (.int .u64 (0)), (.int .u64 (0)), (.int .u64 (0)), (.int .u64 (0)), (.int .u64 (0)), (.int .u64 (0)), (.int .u64 (0)), (.int .u64 (0)), (.int .u64 (0)), (.int .u64 (0)), (.int .u64 (0)), (.int .u64 (0)), (.int .u64 (0)), (.int .u64 (0)), (.int .u64 (0)), (.int .u64 (0)), (.int .u64 (0)), (.int .u64 (0)), (.int .u64 (0)), (.int .u64 (0)), (.int .u64 (0)), (.int .u64 (0)), (.int .u64 (0)), (.int .u64 (0)), (.int .u64 (0)), (.int .u64 (0)), (.int .u64 (0)), (.int .u64 (0)), (.int .u64 (0)), (.int .u64 (0)), (.int .u64 (0)), (.int .u64 (0)), (.int .u64 (0)), (.int .u64 (0)), (.int .u64 (0)), (.int .u64 (0)), (.int .u64 (0)), (.int .u64 (0)), (.int .u64 (0)), (.int .u64 (0)), (.int .u64 (0)), (.int .u64 (0)), (.int .u64 (0)), (.int .u64 (0)), (.int .u64 (0))])]
def c56_1 : List SOper := [o_ 7 (.loadN 65 (t_ 3)),
  o_ 8 (.mov (t_ 1)),
  o_ 9 (.call 98 [(t_ 7), (t_ 8)]),
  o_ 10 (.mov (t_ 9)),
  g_ 11 10 true (.loadN 65 (t_ 3)),
  g_ 12 10 true (.mov (t_ 2)),
  g_ 13 10 true (.call 98 [(t_ 11), (t_ 12)]),
  o_ 14 (.pick (t_ 10) (t_ 13) (.const (.bool false)))]
def c56_2 : List SOper := [o_ 15 (.mov (t_ 1)),
  o_ 16 (.mov (t_ 1)),
  o_ 17 (.fld 1 (t_ 3)),
  o_ 18 (.idxA 64 1 (t_ 17) (t_ 16)),
  o_ 19 (.load1 (t_ 18)),
  o_ 20 (.mov (t_ 2)),
  o_ 21 (.call 102 [(t_ 19), (t_ 20)]),
  o_ 22 (.fld 1 (t_ 3)),
  o_ 23 (.idxA 64 1 (t_ 22) (t_ 15)),
  n_ (.store1 (t_ 23) (t_ 21))]
def c56_3 : List SOper := [o_ 24 (.loadN 65 (t_ 3)),
  n_ (.storeN 65 (t_ 6) (t_ 24))]
def c56_body : SCode := (.seq (.reg [1, 2, 3, 6] c56_0) (.seq (.seq (.reg [1, 2, 3, 6, 14] c56_1) (.cond (t_ 14) (.reg [3, 6] c56_2) .skip)) (.seq (.reg [6] c56_3) .ret)))
def c56 : SFunc := ⟨3, 25, c56_body, [.cellN 6 65]⟩
/- (jacquard/rel.Rel).Acyclic -/
def c30_0 : List SOper := [o_ 1 (.box (t_ 0)),
  o_ 2 (.mov (.const (.bool false)))]
def c30_1 : List SOper := [o_ 5 (.loadN 65 (t_ 1)),
  o_ 6 (.call 57 [(t_ 5)]),
  o_ 3 (.alloc [(.int .i64 (0)), (.int .u64 (0)), (.int .u64 (0)), (.int .u64 (0)), (.int .u64 (0)), (.int .u64 (0)), (.int .u64 (0)), (.int .u64 (0)), (.int .u64 (0)), (.int .u64 (0)), (.int .u64 (0)), (.int .u64 (0)), (.int .u64 (0)), (.int .u64 (0)), (.int .u64 (0)), (.int .u64 (0)), (.int .u64 (0)), (.int .u64 (0)), (.int .u64 (0)), (.int .u64 (0)), (.int .u64 (0)), (.int .u64 (0)), (.int .u64 (0)), (.int .u64 (0)), (.int .u64 (0)), (.int .u64 (0)), (.int .u64 (0)), (.int .u64 (0)), (.int .u64 (0)), (.int .u64 (0)), (.int .u64 (0)), (.int .u64 (0)), (.int .u64 (0)), (.int .u64 (0)), (.int .u64 (0)), (.int .u64 (0)), (.int .u64 (0)), (.int .u64 (0)), (.int .u64 (0)), (.int .u64 (0)), (.int .u64 (0)), (.int .u64 (0)), (.int .u64 (0)), (.int .u64 (0)), (.int .u64 (0)), (.int .u64 (0)), (.int .u64 (0)), (.int .u64 (0)), (.int .u64 (0)), (.int .u64 (0)), (.int .u64 (0)), (.int .u64 (0)), (.int .u64 (0)), (.int .u64 (0)), (.int .u64 (0)), (.int .u64 (0)), (.int .u64 (0)), (.int .u64 (0)), (.int .u64 (0)), (.int .u64 (0)), (.int .u64 (0)), (.int .u64 (0)), (.int .u64 (0)), (.int .u64 (0)), (.int .u64 (0))]),
  n_ (.storeN 65 (t_ 3) (t_ 6))]
def c30_2 : List SOper := [o_ 7 (.fld 0 (t_ 3)),
  o_ 8 (.load1 (t_ 7)),
  o_ 9 (.mov (k_ 0))]
def c30_3 : List SOper := [o_ 10 (.bin .lss (t_ 9) (t_ 8))]
def c30_4 : List SOper := [o_ 11 (.mov (t_ 9)),
  o_ 4 (.mov (t_ 11))]
def c30_5 : List SOper := [o_ 12 (.mov (t_ 4)),
  o_ 13 (.fld 1 (t_ 3)),
  o_ 14 (.idxA 64 1 (t_ 13) (t_ 12)),
  o_ 15 (.load1 (t_ 14)),
  o_ 16 (.mov (t_ 4)),
  o_ 17 (.call 58 [(t_ 15), (t_ 16)])]
def c30_6 : List SOper := [o_ 2 (.mov (.const (.bool false)))]
def c30_7 : List SOper := [o_ 18 (.bin .add (t_ 9) (k_ 1)),
  o_ 9 (.mov (t_ 18))]
def c30_8 : SCode := (.seq (.reg [3, 8, 9, 10] c30_3) (.seq (.cond (t_ 10) .skip (.exit 0)) (.seq (.block 1 (.seq (.reg [3, 4, 8, 9] c30_4) (.seq (.reg [3, 8, 9, 17] c30_5) (.cond (t_ 17) (.seq (.reg [2] c30_6) .ret) .skip)))) (.reg [3, 8, 9] c30_7))))
def c30_9 : List SOper := [o_ 2 (.mov (.const (.bool true)))]
def c30_body : SCode := (.seq (.reg [1] c30_0) (.seq (.reg [3] c30_1) (.seq (.seq (.reg [3, 8, 9] c30_2) (.block 0 (.loop [3, 8, 9] c30_8))) (.seq (.reg [2] c30_9) .ret))))
def c30 : SFunc := ⟨1, 19, c30_body, [.tmp 2]⟩
end Go.Jq
