/- Small code. Printed by Gen.lean. -/
import Derived.Test.YthooijibekdekaaGreatDoorC1
set_option linter.unusedSimpArgs false
set_option linter.unusedVariables false
namespace Go.Jq
/- slices.Collect[int] -/
def c150_0 : List SOper := [o_ 2 (.mov (.const (.slice none 0 0)))]
def c150_1 : List SOper := [o_ 3 (.mov (t_ 0)),
  o_ 4 (.call 200 [(.const (.slice none 0 0)), (t_ 3)]),
  o_ 2 (.mov (t_ 4))]
def c150_body : SCode := (.seq (.reg [0] c150_0) (.seq (.reg [2] c150_1) .ret))
def c150 : SFunc := ⟨1, 5, c150_body, [.tmp 2]⟩
/- slices.Sort[[]int,int] -/
def c151_0 : List SOper := [o_ 3 (.mov (t_ 0)),
  o_ 4 (.lenS (t_ 3)),
  o_ 2 (.mov (t_ 4))]
def c151_1 : List SOper := [o_ 5 (.mov (t_ 0)),
  o_ 6 (.mov (t_ 2)),
  o_ 7 (.mov (t_ 2)),
  o_ 8 (.conv .u64 (t_ 7)),
  o_ 9 (.call 141 [(t_ 8)]),
  o_ 10 (.call 201 [(t_ 5), (k_ 0), (t_ 6), (t_ 9)])]
def c151_body : SCode := (.seq (.reg [0, 2] c151_0) (.reg [] c151_1))
def c151 : SFunc := ⟨1, 11, c151_body, []⟩
/- slices.Values[[]int,int]$1 -/
def c152_0 : List SOper := [o_ 5 (.load1 (t_ 1)),
  o_ 6 (.lenS (t_ 5)),
  o_ 7 (.mov (k_ 0))]
def c152_1 : List SOper := [o_ 8 (.bin .lss (t_ 7) (t_ 6))]
def c152_2 : List SOper := [o_ 9 (.idxS 1 (t_ 5) (t_ 7)),
  o_ 10 (.load1 (t_ 9)),
  o_ 4 (.mov (t_ 10))]
def c152_3 : List SOper := [o_ 11 (.mov (t_ 0)),
  o_ 12 (.mov (t_ 4)),
  o_ 13 (.callv (t_ 11) [(t_ 12)]),
  o_ 14 (.un .not (t_ 13))]
def c152_4 : List SOper := [o_ 15 (.bin .add (t_ 7) (k_ 1)),
  o_ 7 (.mov (t_ 15))]
def c152_5 : SCode := (.seq (.reg [0, 5, 6, 7, 8] c152_1) (.seq (.cond (t_ 8) .skip (.exit 0)) (.seq (.block 1 (.seq (.reg [0, 4, 5, 6, 7] c152_2) (.seq (.reg [0, 5, 6, 7, 14] c152_3) (.cond (t_ 14) .ret .skip)))) (.reg [0, 5, 6, 7] c152_4))))
def c152_body : SCode := (.seq (.reg [0, 5, 6, 7] c152_0) (.block 0 (.loop [0, 5, 6, 7] c152_5)))
def c152 : SFunc := ⟨2, 16, c152_body, []⟩
/- internal/strconv.Itoa -/
def c153_0 : List SOper := [o_ 2 (.mov (.const (.string ⟨#[]⟩)))]
def c153_1 : List SOper := [o_ 3 (.mov (t_ 0)),
  o_ 4 (.call 154 [(t_ 3), (k_ 10)]),
  o_ 2 (.mov (t_ 4))]
def c153_body : SCode := (.seq (.reg [0] c153_0) (.seq (.reg [2] c153_1) .ret))
def c153 : SFunc := ⟨1, 5, c153_body, [.tmp 2]⟩
/- internal/strconv.FormatInt -/
def c154 : SFunc := ⟨1, 1, .native 3, []⟩
/- slices.IndexFunc[[]jacquard/api.Ins,jacquard/api.Ins] -/
def c171_0 : List SOper := [o_ 4 (.mov (k_ 0))]
def c171_1 : List SOper := [o_ 6 (.mov (t_ 0)),
  o_ 7 (.lenS (t_ 6)),
  o_ 8 (.mov (k_ 0))]
def c171_2 : List SOper := [o_ 9 (.bin .lss (t_ 8) (t_ 7))]
def c171_3 : List SOper := [o_ 10 (.mov (t_ 8)),
  o_ 5 (.mov (t_ 10))]
def c171_4 : List SOper := [o_ 11 (.mov (t_ 1)),
  o_ 12 (.mov (t_ 0)),
  o_ 13 (.mov (t_ 5)),
  o_ 14 (.idxS 9 (t_ 12) (t_ 13)),
  o_ 15 (.loadN 9 (t_ 14)),
  o_ 16 (.callv (t_ 11) [(t_ 15)])]
def c171_5 : List SOper := [o_ 17 (.mov (t_ 5)),
  o_ 4 (.mov (t_ 17))]
def c171_6 : List SOper := [o_ 18 (.bin .add (t_ 8) (k_ 1)),
  o_ 8 (.mov (t_ 18))]
def c171_7 : SCode := (.seq (.reg [0, 1, 7, 8, 9] c171_2) (.seq (.cond (t_ 9) .skip (.exit 0)) (.seq (.block 1 (.seq (.reg [0, 1, 5, 7, 8] c171_3) (.seq (.reg [0, 1, 5, 7, 8, 16] c171_4) (.cond (t_ 16) (.seq (.reg [4] c171_5) .ret) .skip)))) (.reg [0, 1, 7, 8] c171_6))))
def c171_8 : List SOper := [o_ 4 (.mov (k_ (-1)))]
def c171_body : SCode := (.seq (.reg [0, 1] c171_0) (.seq (.seq (.reg [0, 1, 7, 8] c171_1) (.block 0 (.loop [0, 1, 7, 8] c171_7))) (.seq (.reg [4] c171_8) .ret)))
def c171 : SFunc := ⟨2, 19, c171_body, [.tmp 4]⟩
/- jacquard/print.isOperand -/
def c172_0 : List SOper := [o_ 1 (.box (t_ 0)),
  o_ 2 (.mov (.const (.bool false)))]
def c172_1 : List SOper := [o_ 3 (.fld 0 (t_ 1)),
  o_ 4 (.load1 (t_ 3)),
  o_ 5 (.bin .eql (t_ 4) (k_ (-1))),
  o_ 6 (.mov (t_ 5)),
  g_ 7 6 false (.fld 0 (t_ 1)),
  g_ 8 6 false (.load1 (t_ 7)),
  g_ 9 6 false (.call 173 [(t_ 8)]),
  g_ 10 6 false (.mov (t_ 9)),
  g_ 11 10 true (.fld 1 (t_ 1)),
  g_ 12 10 true (.load1 (t_ 11)),
  g_ 13 10 true (.bin .eql (t_ 12) (k_ 0)),
  g_ 14 6 false (.pick (t_ 10) (t_ 13) (.const (.bool false))),
  o_ 15 (.pick (t_ 6) (.const (.bool true)) (t_ 14)),
  o_ 2 (.mov (t_ 15))]
def c172_body : SCode := (.seq (.reg [1] c172_0) (.seq (.reg [2] c172_1) .ret))
def c172 : SFunc := ⟨1, 16, c172_body, [.tmp 2]⟩
/- jacquard/print.isReg -/
def c173_0 : List SOper := [o_ 2 (.mov (.const (.bool false)))]
def c173_1 : List SOper := [o_ 3 (.mov (t_ 0)),
  o_ 4 (.bin .geq (t_ 3) (k_ 0)),
  o_ 5 (.mov (t_ 4)),
  g_ 6 5 true (.mov (t_ 0)),
  g_ 7 5 true (.bin .lss (t_ 6) (k_ 4)),
  o_ 8 (.pick (t_ 5) (t_ 7) (.const (.bool false))),
  o_ 2 (.mov (t_ 8))]
def c173_body : SCode := (.seq (.reg [0] c173_0) (.seq (.reg [2] c173_1) .ret))
def c173 : SFunc := ⟨1, 9, c173_body, [.tmp 2]⟩
/- jacquard/prog.Value -/
def c174_0 : List SOper := [o_ 2 (.box (t_ 0)),
  o_ 3 (.box (t_ 1)),
  o_ 4 (.mov (k_ 0))]
def c174_1 : List SOper := [o_ 5 (.fld 0 (t_ 2)),
  o_ 6 (.load1 (t_ 5)),
  o_ 7 (.bin .geq (t_ 6) (k_ 0)),
  o_ 8 (.mov (t_ 7)),
  g_ 9 8 true (.fld 0 (t_ 2)),
  g_ 10 8 true (.load1 (t_ 9)),
  g_ 11 8 true (.bin .lss (t_ 10) (k_ 4)),
  o_ 12 (.pick (t_ 8) (t_ 11) (.const (.bool false)))]
def c174_2 : List SOper := [o_ 13 (.fld 0 (t_ 2)),
  o_ 14 (.load1 (t_ 13)),
  o_ 15 (.fld 1 (t_ 3)),
  o_ 16 (.idxA 4 1 (t_ 15) (t_ 14)),
  o_ 17 (.load1 (t_ 16)),
  o_ 4 (.mov (t_ 17))]
def c174_3 : List SOper := [o_ 18 (.fld 1 (t_ 2)),
  o_ 19 (.load1 (t_ 18)),
  o_ 4 (.mov (t_ 19))]
def c174_body : SCode := (.seq (.reg [2, 3] c174_0) (.seq (.seq (.reg [2, 3, 12] c174_1) (.cond (t_ 12) (.seq (.reg [4] c174_2) .ret) .skip)) (.seq (.reg [4] c174_3) .ret)))
def c174 : SFunc := ⟨2, 20, c174_body, [.tmp 4]⟩
/- jacquard/num.Do -/
def c175_0 : List SOper := [o_ 6 (.mov (k_ 0)),
  o_ 7 (.mov (.const (.bool false)))]
def c175_1 : List SOper := [o_ 9 (.mov (t_ 2)),
  o_ 10 (.conv .u64 (t_ 9)),
  o_ 11 (.bin .rem (t_ 10) (.const (.int .u64 (64)))),
  o_ 8 (.mov (t_ 11))]
def c175_2 : List SOper := [o_ 12 (.mov (t_ 0))]
def c175_3 : List SOper := [o_ 14 (.bin .eql (t_ 12) (k_ 1)),
  o_ 13 (.mov (t_ 14))]
def c175_4 : List SOper := [o_ 15 (.mov (t_ 1)),
  o_ 16 (.mov (t_ 2)),
  o_ 17 (.bin .add (t_ 15) (t_ 16)),
  o_ 6 (.mov (t_ 17)),
  o_ 7 (.mov (.const (.bool true)))]
def c175_5 : List SOper := [o_ 19 (.bin .eql (t_ 12) (k_ 2)),
  o_ 18 (.mov (t_ 19))]
def c175_6 : List SOper := [o_ 20 (.mov (t_ 1)),
  o_ 21 (.mov (t_ 2)),
  o_ 22 (.bin .sub (t_ 20) (t_ 21)),
  o_ 6 (.mov (t_ 22)),
  o_ 7 (.mov (.const (.bool true)))]
def c175_7 : List SOper := [o_ 24 (.bin .eql (t_ 12) (k_ 3)),
  o_ 23 (.mov (t_ 24))]
def c175_8 : List SOper := [o_ 25 (.mov (t_ 1)),
  o_ 26 (.mov (t_ 2)),
  o_ 27 (.bin .mul (t_ 25) (t_ 26)),
  o_ 6 (.mov (t_ 27)),
  o_ 7 (.mov (.const (.bool true)))]
def c175_9 : List SOper := [o_ 29 (.bin .eql (t_ 12) (k_ 4)),
  o_ 28 (.mov (t_ 29))]
def c175_10 : List SOper := [o_ 30 (.mov (t_ 1)),
  o_ 31 (.mov (t_ 2)),
  o_ 32 (.bin .and (t_ 30) (t_ 31)),
  o_ 6 (.mov (t_ 32)),
  o_ 7 (.mov (.const (.bool true)))]
def c175_11 : List SOper := [o_ 34 (.bin .eql (t_ 12) (k_ 5)),
  o_ 33 (.mov (t_ 34))]
def c175_12 : List SOper := [o_ 35 (.mov (t_ 1)),
  o_ 36 (.mov (t_ 2)),
  o_ 37 (.bin .or (t_ 35) (t_ 36)),
  o_ 6 (.mov (t_ 37)),
  o_ 7 (.mov (.const (.bool true)))]
def c175_13 : List SOper := [o_ 39 (.bin .eql (t_ 12) (k_ 6)),
  o_ 38 (.mov (t_ 39))]
def c175_14 : List SOper := [o_ 40 (.mov (t_ 1)),
  o_ 41 (.mov (t_ 2)),
  o_ 42 (.bin .xor (t_ 40) (t_ 41)),
  o_ 6 (.mov (t_ 42)),
  o_ 7 (.mov (.const (.bool true)))]
def c175_15 : List SOper := [o_ 44 (.bin .eql (t_ 12) (k_ 7)),
  o_ 43 (.mov (t_ 44))]
def c175_16 : List SOper := [o_ 45 (.mov (t_ 1)),
  o_ 46 (.mov (t_ 8)),
  o_ 47 (.bin .shl (t_ 45) (t_ 46)),
  o_ 6 (.mov (t_ 47)),
  o_ 7 (.mov (.const (.bool true)))]
def c175_17 : List SOper := [o_ 49 (.bin .eql (t_ 12) (k_ 8)),
  o_ 48 (.mov (t_ 49))]
def c175_18 : List SOper := [o_ 50 (.mov (t_ 1)),
  o_ 51 (.mov (t_ 8)),
  o_ 52 (.bin .shr (t_ 50) (t_ 51)),
  o_ 6 (.mov (t_ 52)),
  o_ 7 (.mov (.const (.bool true)))]
def c175_19 : List SOper := [o_ 54 (.bin .eql (t_ 12) (k_ 9)),
  o_ 53 (.mov (t_ 54))]
def c175_20 : List SOper := [o_ 55 (.mov (t_ 1)),
  o_ 56 (.mov (t_ 2)),
  o_ 57 (.bin .eql (t_ 55) (t_ 56)),
  o_ 58 (.call 222 [(t_ 57)]),
  o_ 6 (.mov (t_ 58)),
  o_ 7 (.mov (.const (.bool true)))]
def c175_21 : List SOper := [o_ 60 (.bin .eql (t_ 12) (k_ 10)),
  o_ 59 (.mov (t_ 60))]
def c175_22 : List SOper := [o_ 61 (.mov (t_ 1)),
  o_ 62 (.mov (t_ 2)),
  o_ 63 (.bin .neq (t_ 61) (t_ 62)),
  o_ 64 (.call 222 [(t_ 63)]),
  o_ 6 (.mov (t_ 64)),
  o_ 7 (.mov (.const (.bool true)))]
def c175_23 : List SOper := [o_ 66 (.bin .eql (t_ 12) (k_ 11)),
  o_ 65 (.mov (t_ 66))]
def c175_24 : List SOper := [o_ 67 (.mov (t_ 1)),
  o_ 68 (.mov (t_ 2)),
  o_ 69 (.bin .lss (t_ 67) (t_ 68)),
  o_ 70 (.call 222 [(t_ 69)]),
  o_ 6 (.mov (t_ 70)),
  o_ 7 (.mov (.const (.bool true)))]
def c175_25 : List SOper := [o_ 6 (.mov (k_ 0)),
  o_ 7 (.mov (.const (.bool false)))]
def c175_body : SCode := (.seq (.reg [0, 1, 2] c175_0) (.seq (.reg [0, 1, 2, 8] c175_1) (.seq (.seq (.reg [1, 2, 8, 12] c175_2) (.block 0 (.seq (.reg [1, 2, 8, 12, 13] c175_3) (.cond (t_ 13) (.seq (.reg [6, 7] c175_4) .ret) (.seq (.reg [1, 2, 8, 12, 18] c175_5) (.cond (t_ 18) (.seq (.reg [6, 7] c175_6) .ret) (.seq (.reg [1, 2, 8, 12, 23] c175_7) (.cond (t_ 23) (.seq (.reg [6, 7] c175_8) .ret) (.seq (.reg [1, 2, 8, 12, 28] c175_9) (.cond (t_ 28) (.seq (.reg [6, 7] c175_10) .ret) (.seq (.reg [1, 2, 8, 12, 33] c175_11) (.cond (t_ 33) (.seq (.reg [6, 7] c175_12) .ret) (.seq (.reg [1, 2, 8, 12, 38] c175_13) (.cond (t_ 38) (.seq (.reg [6, 7] c175_14) .ret) (.seq (.reg [1, 2, 8, 12, 43] c175_15) (.cond (t_ 43) (.seq (.reg [6, 7] c175_16) .ret) (.seq (.reg [1, 2, 8, 12, 48] c175_17) (.cond (t_ 48) (.seq (.reg [6, 7] c175_18) .ret) (.seq (.reg [1, 2, 12, 53] c175_19) (.cond (t_ 53) (.seq (.reg [6, 7] c175_20) .ret) (.seq (.reg [1, 2, 12, 59] c175_21) (.cond (t_ 59) (.seq (.reg [6, 7] c175_22) .ret) (.seq (.reg [1, 2, 65] c175_23) (.cond (t_ 65) (.seq (.reg [6, 7] c175_24) .ret) .skip)))))))))))))))))))))))) (.seq (.reg [6, 7] c175_25) .ret))))
def c175 : SFunc := ⟨3, 71, c175_body, [.tmp 6, .tmp 7]⟩
/- jacquard/prog.set -/
def c176_0 : List SOper := [o_ 6 (.mov (t_ 1)),
  o_ 7 (.bin .geq (t_ 6) (k_ 0)),
  o_ 8 (.mov (t_ 7)),
  g_ 9 8 true (.mov (t_ 1)),
  g_ 10 8 true (.bin .lss (t_ 9) (k_ 4)),
  o_ 11 (.pick (t_ 8) (t_ 10) (.const (.bool false)))]
def c176_1 : List SOper := [o_ 12 (.mov (t_ 0)),
  o_ 13 (.mov (t_ 1)),
  o_ 14 (.mov (t_ 2)),
  o_ 15 (.nilchk (t_ 12)),
  o_ 16 (.fld 1 (t_ 15)),
  o_ 17 (.idxA 4 1 (t_ 16) (t_ 13)),
  n_ (.store1 (t_ 17) (t_ 14))]
def c176_body : SCode := (.seq (.reg [0, 1, 2, 11] c176_0) (.cond (t_ 11) (.reg [] c176_1) .skip))
def c176 : SFunc := ⟨3, 18, c176_body, []⟩
/- slices.Clip[[]jacquard/api.Ev,jacquard/api.Ev] -/
def c177_0 : List SOper := [o_ 2 (.mov (.const (.slice none 0 0)))]
def c177_1 : List SOper := [o_ 3 (.mov (t_ 0)),
  o_ 4 (.mov (t_ 0)),
  o_ 5 (.lenS (t_ 4)),
  o_ 6 (.mov (t_ 0)),
  o_ 7 (.lenS (t_ 6)),
  o_ 8 (.slsl 6 (t_ 3) none (some (t_ 5)) (some (t_ 7))),
  o_ 2 (.mov (t_ 8))]
def c177_body : SCode := (.seq (.reg [0] c177_0) (.seq (.reg [2] c177_1) .ret))
def c177 : SFunc := ⟨1, 9, c177_body, [.tmp 2]⟩
/- slices.Clip[[]int,int] -/
def c178_0 : List SOper := [o_ 2 (.mov (.const (.slice none 0 0)))]
def c178_1 : List SOper := [o_ 3 (.mov (t_ 0)),
  o_ 4 (.mov (t_ 0)),
  o_ 5 (.lenS (t_ 4)),
  o_ 6 (.mov (t_ 0)),
  o_ 7 (.lenS (t_ 6)),
  o_ 8 (.slsl 1 (t_ 3) none (some (t_ 5)) (some (t_ 7))),
  o_ 2 (.mov (t_ 8))]
def c178_body : SCode := (.seq (.reg [0] c178_0) (.seq (.reg [2] c178_1) .ret))
def c178 : SFunc := ⟨1, 9, c178_body, [.tmp 2]⟩
/- slices.Clip[[]jacquard/exec.write,jacquard/exec.write] -/
def c179_0 : List SOper := [o_ 2 (.mov (.const (.slice none 0 0)))]
def c179_1 : List SOper := [o_ 3 (.mov (t_ 0)),
  o_ 4 (.mov (t_ 0)),
  o_ 5 (.lenS (t_ 4)),
  o_ 6 (.mov (t_ 0)),
  o_ 7 (.lenS (t_ 6)),
  o_ 8 (.slsl 4 (t_ 3) none (some (t_ 5)) (some (t_ 7))),
  o_ 2 (.mov (t_ 8))]
def c179_body : SCode := (.seq (.reg [0] c179_0) (.seq (.reg [2] c179_1) .ret))
def c179 : SFunc := ⟨1, 9, c179_body, [.tmp 2]⟩
/- slices.Repeat[[]int,int] -/
def c180_0 : List SOper := [o_ 4 (.mov (.const (.slice none 0 0)))]
def c180_1 : List SOper := [o_ 9 (.mov (t_ 1)),
  o_ 10 (.bin .lss (t_ 9) (k_ 0))]
def c180_2 : List SOper := [o_ 11 (.bad),
  n_ (.bad)]
def c180_3 : List SOper := [o_ 13 (.mov (t_ 0)),
  o_ 14 (.lenS (t_ 13)),
  o_ 15 (.conv .u64 (t_ 14)),
  o_ 16 (.mov (t_ 1)),
  o_ 17 (.conv .u64 (t_ 16)),
  o_ 18 (.call 223 [(t_ 15), (t_ 17)]),
  o_ 12 (.mov (t_ 18)),
  o_ 19 (.extr (t_ 12) 0),
  o_ 20 (.extr (t_ 12) 1),
  o_ 5 (.mov (t_ 19)),
  o_ 6 (.mov (t_ 20))]
def c180_4 : List SOper := [o_ 21 (.mov (t_ 5)),
  o_ 22 (.bin .gtr (t_ 21) (.const (.int .u64 (0)))),
  o_ 23 (.mov (t_ 22)),
  g_ 24 23 false (.mov (t_ 6)),
  g_ 25 23 false (.bin .gtr (t_ 24) (.const (.int .u64 (9223372036854775807)))),
  o_ 26 (.pick (t_ 23) (.const (.bool true)) (t_ 25))]
def c180_5 : List SOper := [o_ 27 (.bad),
  n_ (.bad)]
def c180_6 : List SOper := [o_ 28 (.mov (t_ 6)),
  o_ 29 (.conv .i64 (t_ 28)),
  o_ 30 (.mkrow 1 8 [(.int .i64 (0))] (t_ 29) (t_ 29)),
  o_ 7 (.mov (t_ 30))]
def c180_7 : List SOper := [o_ 31 (.mov (t_ 7)),
  o_ 32 (.mov (t_ 0)),
  o_ 33 (.copy 1 (t_ 31) (t_ 32)),
  o_ 8 (.mov (t_ 33))]
def c180_8 : List SOper := [o_ 34 (.mov (t_ 8)),
  o_ 35 (.mov (t_ 7)),
  o_ 36 (.lenS (t_ 35)),
  o_ 37 (.bin .lss (t_ 34) (t_ 36))]
def c180_9 : List SOper := [⟨(some 38), .mov (t_ 8), none, [8], 0, [], 0, 0, []⟩,
  ⟨(some 39), .mov (t_ 7), none, [7], 1, [], 0, 0, []⟩,
  ⟨(some 40), .mov (t_ 8), none, [8], 2, [], 0, 0, []⟩,
  ⟨(some 41), .slsl 1 (t_ 39) (some (t_ 40)) none none, none, [39, 40], 3, [1, 2], 0, 0, []⟩,
  ⟨(some 42), .mov (t_ 7), none, [7], 4, [], 0, 0, []⟩,
  ⟨(some 43), .mov (t_ 8), none, [8], 5, [], 0, 0, []⟩,
  ⟨(some 44), .slsl 1 (t_ 42) none (some (t_ 43)) none, none, [42, 43], 6, [4, 5], 0, 0, []⟩,
  ⟨(some 45), .copy 1 (t_ 41) (t_ 44), none, [41, 44], 7, [3, 6], 0, 0, []⟩,
  ⟨(some 46), .bin .add (t_ 38) (t_ 45), none, [38, 45], 8, [0, 7], 0, 0, []⟩,
  ⟨(some 8), .mov (t_ 46), none, [46], 9, [8, 7, 0, 1, 2, 3, 4, 5, 6, 7, 8], 0, 0, []⟩]
def c180_9b : List SOper := []
def c180_10 : SCode := (.seq (.seq (.reg [7, 8, 37] c180_8) (.cond (t_ 37) .skip (.exit 0))) (.block 1 (.dreg [7, 8] c180_9 c180_9b)))
def c180_11 : List SOper := [o_ 47 (.mov (t_ 7)),
  o_ 4 (.mov (t_ 47))]
def c180_body : SCode := (.seq (.reg [0, 1] c180_0) (.seq (.seq (.reg [0, 1, 10] c180_1) (.cond (t_ 10) (.reg [0, 1] c180_2) .skip)) (.seq (.reg [0, 5, 6] c180_3) (.seq (.seq (.reg [0, 6, 26] c180_4) (.cond (t_ 26) (.reg [0, 6] c180_5) .skip)) (.seq (.reg [0, 7] c180_6) (.seq (.reg [7, 8] c180_7) (.seq (.block 0 (.loop [7, 8] c180_10)) (.seq (.reg [4] c180_11) .ret))))))))
def c180 : SFunc := ⟨2, 48, c180_body, [.tmp 4]⟩
/- (*jacquard/exec.walk).hopes$1 -/
def c181_0 : List SOper := [o_ 2 (.box (t_ 0)),
  o_ 3 (.mov (.const (.bool false)))]
def c181_1 : List SOper := [o_ 4 (.fld 0 (t_ 2)),
  o_ 5 (.load1 (t_ 4)),
  o_ 6 (.bin .eql (t_ 5) (k_ 1)),
  o_ 7 (.mov (t_ 6)),
  g_ 8 7 false (.fld 0 (t_ 2)),
  g_ 9 7 false (.load1 (t_ 8)),
  g_ 10 7 false (.bin .eql (t_ 9) (k_ 4)),
  o_ 11 (.pick (t_ 7) (.const (.bool true)) (t_ 10)),
  o_ 12 (.mov (t_ 11)),
  g_ 13 12 true (.fld 2 (t_ 2)),
  g_ 14 12 true (.load1 (t_ 13)),
  g_ 15 12 true (.load1 (t_ 1)),
  g_ 16 12 true (.bin .eql (t_ 14) (t_ 15)),
  o_ 17 (.pick (t_ 12) (t_ 16) (.const (.bool false))),
  o_ 3 (.mov (t_ 17))]
def c181_body : SCode := (.seq (.reg [1, 2] c181_0) (.seq (.reg [3] c181_1) .ret))
def c181 : SFunc := ⟨2, 18, c181_body, [.tmp 3]⟩
/- math/bits.TrailingZeros64 -/
def c170 : SFunc := ⟨1, 1, .native 0, []⟩
/- jacquard/set.bit -/
def c103_0 : List SOper := [o_ 2 (.mov (.const (.int .u64 (0))))]
def c103_1 : List SOper := [o_ 3 (.mov (t_ 0)),
  o_ 4 (.bin .lss (t_ 3) (k_ 0)),
  o_ 5 (.mov (t_ 4)),
  g_ 6 5 false (.mov (t_ 0)),
  g_ 7 5 false (.bin .geq (t_ 6) (k_ 64)),
  o_ 8 (.pick (t_ 5) (.const (.bool true)) (t_ 7))]
def c103_2 : List SOper := [o_ 2 (.mov (.const (.int .u64 (0))))]
def c103_3 : List SOper := [o_ 9 (.mov (t_ 0)),
  o_ 10 (.conv .u64 (t_ 9)),
  o_ 11 (.bin .shl (.const (.int .u64 (1))) (t_ 10)),
  o_ 2 (.mov (t_ 11))]
def c103_body : SCode := (.seq (.reg [0] c103_0) (.seq (.seq (.reg [0, 8] c103_1) (.cond (t_ 8) (.seq (.reg [2] c103_2) .ret) .skip)) (.seq (.reg [2] c103_3) .ret)))
def c103 : SFunc := ⟨1, 12, c103_body, [.tmp 2]⟩
/- slices.insertionSortCmpFunc[jacquard/api.Exec] -/
def c187_0 : List SOper := [o_ 10 (.mov (t_ 1)),
  o_ 11 (.bin .add (t_ 10) (k_ 1)),
  o_ 8 (.mov (t_ 11))]
def c187_1 : List SOper := [o_ 12 (.mov (t_ 8)),
  o_ 13 (.mov (t_ 2)),
  o_ 14 (.bin .lss (t_ 12) (t_ 13))]
def c187_2 : List SOper := [o_ 17 (.mov (t_ 8)),
  o_ 9 (.mov (t_ 17))]
def c187_3 : List SOper := [⟨(some 18), .mov (t_ 9), none, [9], 0, [], 0, 0, []⟩,
  ⟨(some 19), .mov (t_ 1), none, [1], 1, [], 0, 0, []⟩,
  ⟨(some 20), .bin .gtr (t_ 18) (t_ 19), none, [18, 19], 2, [0, 1], 0, 0, []⟩,
  ⟨(some 21), .mov (t_ 20), none, [20], 3, [2], 0, 0, []⟩,
  ⟨(some 22), .mov (t_ 3), (some (21, true)), [3, 21], 4, [3], 0, 0, []⟩,
  ⟨(some 23), .mov (t_ 0), (some (21, true)), [0, 21], 5, [3], 0, 0, []⟩,
  ⟨(some 24), .mov (t_ 9), (some (21, true)), [9, 21], 6, [3], 0, 0, []⟩,
  ⟨(some 25), .idxS 3 (t_ 23) (t_ 24), (some (21, true)), [23, 24, 21], 7, [5, 6, 3], 0, 0, []⟩,
  ⟨(some 26), .loadN 3 (t_ 25), (some (21, true)), [25, 21], 8, [7, 3], 0, 0, []⟩,
  ⟨(some 27), .mov (t_ 0), (some (21, true)), [0, 21], 9, [3], 0, 0, []⟩,
  ⟨(some 28), .mov (t_ 9), (some (21, true)), [9, 21], 10, [3], 0, 0, []⟩,
  ⟨(some 29), .bin .sub (t_ 28) (k_ 1), (some (21, true)), [28, 21], 11, [10, 3], 0, 0, []⟩,
  ⟨(some 30), .idxS 3 (t_ 27) (t_ 29), (some (21, true)), [27, 29, 21], 12, [9, 11, 3], 0, 0, []⟩,
  ⟨(some 31), .loadN 3 (t_ 30), (some (21, true)), [30, 21], 13, [12, 3], 0, 0, []⟩,
  ⟨(some 32), .callv (t_ 22) [(t_ 26), (t_ 31)], (some (21, true)), [22, 26, 31, 21], 14, [4, 8, 13, 3, 3], 0, 0, []⟩,
  ⟨(some 33), .bin .lss (t_ 32) (k_ 0), (some (21, true)), [32, 21], 15, [14, 3], 0, 0, []⟩,
  ⟨(some 34), .pick (t_ 21) (t_ 33) (.const (.bool false)), none, [21, 33], 16, [3, 15], 0, 0, []⟩]
def c187_3b : List SOper := []
def c187_4 : List SOper := [⟨(some 37), .mov (t_ 0), none, [0], 0, [], 0, 0, []⟩,
  ⟨(some 38), .mov (t_ 9), none, [9], 1, [], 0, 0, []⟩,
  ⟨(some 39), .mov (t_ 0), none, [0], 2, [], 0, 0, []⟩,
  ⟨(some 40), .mov (t_ 9), none, [9], 3, [], 0, 0, []⟩,
  ⟨(some 41), .bin .sub (t_ 40) (k_ 1), none, [40], 4, [3], 0, 0, []⟩,
  ⟨(some 42), .mov (t_ 0), none, [0], 5, [], 0, 0, []⟩,
  ⟨(some 43), .mov (t_ 9), none, [9], 6, [], 0, 0, []⟩,
  ⟨(some 44), .bin .sub (t_ 43) (k_ 1), none, [43], 7, [6], 0, 0, []⟩,
  ⟨(some 45), .idxS 3 (t_ 42) (t_ 44), none, [42, 44], 8, [5, 7], 0, 0, []⟩,
  ⟨(some 46), .loadN 3 (t_ 45), none, [45], 9, [8], 0, 0, []⟩,
  ⟨(some 47), .mov (t_ 0), none, [0], 10, [], 0, 0, []⟩,
  ⟨(some 48), .mov (t_ 9), none, [9], 11, [], 0, 0, []⟩,
  ⟨(some 49), .idxS 3 (t_ 47) (t_ 48), none, [47, 48], 12, [10, 11], 0, 0, []⟩,
  ⟨(some 50), .loadN 3 (t_ 49), none, [49], 13, [12], 0, 0, []⟩,
  ⟨(some 51), .idxS 3 (t_ 37) (t_ 38), none, [37, 38], 14, [0, 1, 0, 1, 5, 6, 7, 8, 9, 13], 0, 0, []⟩,
  ⟨(some 52), .idxS 3 (t_ 39) (t_ 41), none, [39, 41], 16, [2, 4, 0, 1, 2, 3, 4, 5, 6, 7, 8, 9, 10, 11, 12, 13, 14, 15], 0, 0, []⟩]
def c187_4b : List SOper := [⟨none, .storeN 3 (t_ 51) (t_ 46), none, [51, 46], 15, [14, 9, 0, 1, 5, 6, 7, 8, 9, 13], 0, 0, [9, 13]⟩,
  ⟨none, .storeN 3 (t_ 52) (t_ 50), none, [52, 50], 17, [16, 13, 15, 0, 1, 2, 3, 4, 5, 6, 7, 8, 9, 10, 11, 12, 13, 14, 15], 0, 0, [9, 13]⟩]
def c187_5 : List SOper := [o_ 35 (.mov (t_ 9)),
  o_ 36 (.bin .sub (t_ 35) (k_ 1)),
  o_ 9 (.mov (t_ 36))]
def c187_6 : SCode := (.seq (.seq (.dreg [0, 1, 2, 3, 8, 9, 34] c187_3 c187_3b) (.cond (t_ 34) .skip (.exit 2))) (.seq (.block 3 (.dreg [0, 1, 2, 3, 8, 9] c187_4 c187_4b)) (.reg [0, 1, 2, 3, 8, 9] c187_5)))
def c187_7 : List SOper := [o_ 15 (.mov (t_ 8)),
  o_ 16 (.bin .add (t_ 15) (k_ 1)),
  o_ 8 (.mov (t_ 16))]
def c187_8 : SCode := (.seq (.seq (.reg [0, 1, 2, 3, 8, 14] c187_1) (.cond (t_ 14) .skip (.exit 0))) (.seq (.block 1 (.seq (.reg [0, 1, 2, 3, 8, 9] c187_2) (.block 2 (.loop [0, 1, 2, 3, 8, 9] c187_6)))) (.reg [0, 1, 2, 3, 8] c187_7)))
def c187_body : SCode := (.seq (.reg [0, 1, 2, 3, 8] c187_0) (.block 0 (.loop [0, 1, 2, 3, 8] c187_8)))
def c187 : SFunc := ⟨4, 53, c187_body, []⟩
/- slices.heapSortCmpFunc[jacquard/api.Exec] -/
def c188_0 : List SOper := [o_ 13 (.mov (t_ 1)),
  o_ 8 (.mov (t_ 13))]
def c188_1 : List SOper := [o_ 9 (.mov (k_ 0))]
def c188_2 : List SOper := [o_ 14 (.mov (t_ 2)),
  o_ 15 (.mov (t_ 1)),
  o_ 16 (.bin .sub (t_ 14) (t_ 15)),
  o_ 10 (.mov (t_ 16))]
def c188_3 : List SOper := [o_ 17 (.mov (t_ 10)),
  o_ 18 (.bin .sub (t_ 17) (k_ 1)),
  o_ 19 (.bin .quo (t_ 18) (k_ 2)),
  o_ 11 (.mov (t_ 19))]
def c188_4 : List SOper := [o_ 20 (.mov (t_ 11)),
  o_ 21 (.bin .geq (t_ 20) (k_ 0))]
def c188_5 : List SOper := [o_ 24 (.mov (t_ 0)),
  o_ 25 (.mov (t_ 11)),
  o_ 26 (.mov (t_ 10)),
  o_ 27 (.mov (t_ 8)),
  o_ 28 (.mov (t_ 3)),
  o_ 29 (.call 224 [(t_ 24), (t_ 25), (t_ 26), (t_ 27), (t_ 28)])]
def c188_6 : List SOper := [o_ 22 (.mov (t_ 11)),
  o_ 23 (.bin .sub (t_ 22) (k_ 1)),
  o_ 11 (.mov (t_ 23))]
def c188_7 : SCode := (.seq (.seq (.reg [0, 3, 8, 9, 10, 11, 21] c188_4) (.cond (t_ 21) .skip (.exit 0))) (.seq (.block 1 (.reg [0, 3, 8, 9, 10, 11] c188_5)) (.reg [0, 3, 8, 9, 10, 11] c188_6)))
def c188_8 : List SOper := [o_ 30 (.mov (t_ 10)),
  o_ 31 (.bin .sub (t_ 30) (k_ 1)),
  o_ 12 (.mov (t_ 31))]
def c188_9 : List SOper := [o_ 32 (.mov (t_ 12)),
  o_ 33 (.bin .geq (t_ 32) (k_ 0))]
def c188_10 : List SOper := [⟨(some 36), .mov (t_ 0), none, [0], 0, [], 0, 0, []⟩,
  ⟨(some 37), .mov (t_ 8), none, [8], 1, [], 0, 0, []⟩,
  ⟨(some 38), .mov (t_ 0), none, [0], 2, [], 0, 0, []⟩,
  ⟨(some 39), .mov (t_ 8), none, [8], 3, [], 0, 0, []⟩,
  ⟨(some 40), .mov (t_ 12), none, [12], 4, [], 0, 0, []⟩,
  ⟨(some 41), .bin .add (t_ 39) (t_ 40), none, [39, 40], 5, [3, 4], 0, 0, []⟩,
  ⟨(some 42), .mov (t_ 0), none, [0], 6, [], 0, 0, []⟩,
  ⟨(some 43), .mov (t_ 8), none, [8], 7, [], 0, 0, []⟩,
  ⟨(some 44), .mov (t_ 12), none, [12], 8, [], 0, 0, []⟩,
  ⟨(some 45), .bin .add (t_ 43) (t_ 44), none, [43, 44], 9, [7, 8], 0, 0, []⟩,
  ⟨(some 46), .idxS 3 (t_ 42) (t_ 45), none, [42, 45], 10, [6, 9], 0, 0, []⟩,
  ⟨(some 47), .loadN 3 (t_ 46), none, [46], 11, [10], 0, 0, []⟩,
  ⟨(some 48), .mov (t_ 0), none, [0], 12, [], 0, 0, []⟩,
  ⟨(some 49), .mov (t_ 8), none, [8], 13, [], 0, 0, []⟩,
  ⟨(some 50), .idxS 3 (t_ 48) (t_ 49), none, [48, 49], 14, [12, 13], 0, 0, []⟩,
  ⟨(some 51), .loadN 3 (t_ 50), none, [50], 15, [14], 0, 0, []⟩,
  ⟨(some 52), .idxS 3 (t_ 36) (t_ 37), none, [36, 37], 16, [0, 1, 0, 1, 6, 7, 8, 9, 10, 11, 15], 0, 0, []⟩,
  ⟨(some 53), .idxS 3 (t_ 38) (t_ 41), none, [38, 41], 18, [2, 5, 0, 1, 2, 3, 4, 5, 6, 7, 8, 9, 10, 11, 12, 13, 14, 15, 16, 17], 0, 0, []⟩]
def c188_10b : List SOper := [⟨none, .storeN 3 (t_ 52) (t_ 47), none, [52, 47], 17, [16, 11, 0, 1, 6, 7, 8, 9, 10, 11, 15], 0, 0, [11, 15]⟩,
  ⟨none, .storeN 3 (t_ 53) (t_ 51), none, [53, 51], 19, [18, 15, 17, 0, 1, 2, 3, 4, 5, 6, 7, 8, 9, 10, 11, 12, 13, 14, 15, 16, 17], 0, 0, [11, 15]⟩]
def c188_11 : List SOper := [o_ 54 (.mov (t_ 0)),
  o_ 55 (.mov (t_ 9)),
  o_ 56 (.mov (t_ 12)),
  o_ 57 (.mov (t_ 8)),
  o_ 58 (.mov (t_ 3)),
  o_ 59 (.call 224 [(t_ 54), (t_ 55), (t_ 56), (t_ 57), (t_ 58)])]
def c188_12 : List SOper := [o_ 34 (.mov (t_ 12)),
  o_ 35 (.bin .sub (t_ 34) (k_ 1)),
  o_ 12 (.mov (t_ 35))]
def c188_13 : SCode := (.seq (.seq (.reg [0, 3, 8, 9, 12, 33] c188_9) (.cond (t_ 33) .skip (.exit 2))) (.seq (.block 3 (.seq (.dreg [0, 3, 8, 9, 12] c188_10 c188_10b) (.reg [0, 3, 8, 9, 12] c188_11))) (.reg [0, 3, 8, 9, 12] c188_12)))
def c188_body : SCode := (.seq (.reg [0, 1, 2, 3, 8] c188_0) (.seq (.reg [0, 1, 2, 3, 8, 9] c188_1) (.seq (.reg [0, 3, 8, 9, 10] c188_2) (.seq (.seq (.reg [0, 3, 8, 9, 10, 11] c188_3) (.block 0 (.loop [0, 3, 8, 9, 10, 11] c188_7))) (.seq (.reg [0, 3, 8, 9, 12] c188_8) (.block 2 (.loop [0, 3, 8, 9, 12] c188_13)))))))
def c188 : SFunc := ⟨4, 60, c188_body, []⟩
/- slices.breakPatternsCmpFunc[jacquard/api.Exec] -/
def c189_0 : List SOper := [o_ 13 (.mov (t_ 2)),
  o_ 14 (.mov (t_ 1)),
  o_ 15 (.bin .sub (t_ 13) (t_ 14)),
  o_ 8 (.mov (t_ 15))]
def c189_1 : List SOper := [o_ 16 (.mov (t_ 8)),
  o_ 17 (.bin .geq (t_ 16) (k_ 8))]
def c189_2 : List SOper := [o_ 18 (.mov (t_ 8)),
  o_ 19 (.conv .u64 (t_ 18)),
  o_ 9 (.alloc [(.int .u64 (0))]),
  n_ (.store1 (t_ 9) (t_ 19))]
def c189_3 : List SOper := [o_ 20 (.mov (t_ 8)),
  o_ 21 (.call 225 [(t_ 20)]),
  o_ 10 (.mov (t_ 21))]
def c189_4 : List SOper := [o_ 22 (.mov (t_ 1)),
  o_ 23 (.mov (t_ 8)),
  o_ 24 (.bin .quo (t_ 23) (k_ 4)),
  o_ 25 (.bin .mul (t_ 24) (k_ 2)),
  o_ 26 (.bin .add (t_ 22) (t_ 25)),
  o_ 27 (.bin .sub (t_ 26) (k_ 1)),
  o_ 11 (.mov (t_ 27))]
def c189_5 : List SOper := [o_ 28 (.mov (t_ 11)),
  o_ 29 (.mov (t_ 1)),
  o_ 30 (.mov (t_ 8)),
  o_ 31 (.bin .quo (t_ 30) (k_ 4)),
  o_ 32 (.bin .mul (t_ 31) (k_ 2)),
  o_ 33 (.bin .add (t_ 29) (t_ 32)),
  o_ 34 (.bin .add (t_ 33) (k_ 1)),
  o_ 35 (.bin .leq (t_ 28) (t_ 34))]
def c189_6 : List SOper := [o_ 38 (.call 226 [(t_ 9)]),
  o_ 39 (.mov (t_ 10)),
  o_ 40 (.bin .sub (t_ 39) (.const (.int .u64 (1)))),
  o_ 41 (.bin .and (t_ 38) (t_ 40)),
  o_ 42 (.conv .i64 (t_ 41)),
  o_ 12 (.mov (t_ 42))]
def c189_7 : List SOper := [o_ 43 (.mov (t_ 12)),
  o_ 44 (.mov (t_ 8)),
  o_ 45 (.bin .geq (t_ 43) (t_ 44))]
def c189_8 : List SOper := [o_ 46 (.mov (t_ 12)),
  o_ 47 (.mov (t_ 8)),
  o_ 48 (.bin .sub (t_ 46) (t_ 47)),
  o_ 12 (.mov (t_ 48))]
def c189_9 : List SOper := [⟨(some 49), .mov (t_ 0), none, [0], 0, [], 0, 0, []⟩,
  ⟨(some 50), .mov (t_ 11), none, [11], 1, [], 0, 0, []⟩,
  ⟨(some 51), .mov (t_ 0), none, [0], 2, [], 0, 0, []⟩,
  ⟨(some 52), .mov (t_ 1), none, [1], 3, [], 0, 0, []⟩,
  ⟨(some 53), .mov (t_ 12), none, [12], 4, [], 0, 0, []⟩,
  ⟨(some 54), .bin .add (t_ 52) (t_ 53), none, [52, 53], 5, [3, 4], 0, 0, []⟩,
  ⟨(some 55), .mov (t_ 0), none, [0], 6, [], 0, 0, []⟩,
  ⟨(some 56), .mov (t_ 1), none, [1], 7, [], 0, 0, []⟩,
  ⟨(some 57), .mov (t_ 12), none, [12], 8, [], 0, 0, []⟩,
  ⟨(some 58), .bin .add (t_ 56) (t_ 57), none, [56, 57], 9, [7, 8], 0, 0, []⟩,
  ⟨(some 59), .idxS 3 (t_ 55) (t_ 58), none, [55, 58], 10, [6, 9], 0, 0, []⟩,
  ⟨(some 60), .loadN 3 (t_ 59), none, [59], 11, [10], 0, 0, []⟩,
  ⟨(some 61), .mov (t_ 0), none, [0], 12, [], 0, 0, []⟩,
  ⟨(some 62), .mov (t_ 11), none, [11], 13, [], 0, 0, []⟩,
  ⟨(some 63), .idxS 3 (t_ 61) (t_ 62), none, [61, 62], 14, [12, 13], 0, 0, []⟩,
  ⟨(some 64), .loadN 3 (t_ 63), none, [63], 15, [14], 0, 0, []⟩,
  ⟨(some 65), .idxS 3 (t_ 49) (t_ 50), none, [49, 50], 16, [0, 1, 0, 1, 6, 7, 8, 9, 10, 11, 15], 0, 0, []⟩,
  ⟨(some 66), .idxS 3 (t_ 51) (t_ 54), none, [51, 54], 18, [2, 5, 0, 1, 2, 3, 4, 5, 6, 7, 8, 9, 10, 11, 12, 13, 14, 15, 16, 17], 0, 0, []⟩]
def c189_9b : List SOper := [⟨none, .storeN 3 (t_ 65) (t_ 60), none, [65, 60], 17, [16, 11, 0, 1, 6, 7, 8, 9, 10, 11, 15], 0, 0, [11, 15]⟩,
  ⟨none, .storeN 3 (t_ 66) (t_ 64), none, [66, 64], 19, [18, 15, 17, 0, 1, 2, 3, 4, 5, 6, 7, 8, 9, 10, 11, 12, 13, 14, 15, 16, 17], 0, 0, [11, 15]⟩]
def c189_10 : List SOper := [o_ 36 (.mov (t_ 11)),
  o_ 37 (.bin .add (t_ 36) (k_ 1)),
  o_ 11 (.mov (t_ 37))]
def c189_11 : SCode := (.seq (.seq (.reg [0, 1, 8, 9, 10, 11, 35] c189_5) (.cond (t_ 35) .skip (.exit 0))) (.seq (.block 1 (.seq (.reg [0, 1, 8, 9, 10, 11, 12] c189_6) (.seq (.seq (.reg [0, 1, 8, 9, 10, 11, 12, 45] c189_7) (.cond (t_ 45) (.reg [0, 1, 8, 9, 10, 11, 12] c189_8) .skip)) (.dreg [0, 1, 8, 9, 10, 11] c189_9 c189_9b)))) (.reg [0, 1, 8, 9, 10, 11] c189_10)))
def c189_body : SCode := (.seq (.reg [0, 1, 8] c189_0) (.seq (.reg [0, 1, 8, 17] c189_1) (.cond (t_ 17) (.seq (.reg [0, 1, 8, 9] c189_2) (.seq (.reg [0, 1, 8, 9, 10] c189_3) (.seq (.reg [0, 1, 8, 9, 10, 11] c189_4) (.block 0 (.loop [0, 1, 8, 9, 10, 11] c189_11))))) .skip)))
def c189 : SFunc := ⟨4, 67, c189_body, []⟩
/- slices.choosePivotCmpFunc[jacquard/api.Exec] -/
def c190_0 : List SOper := [o_ 8 (.mov (k_ 0)),
  o_ 9 (.mov (k_ 0))]
def c190_1 : List SOper := [o_ 15 (.mov (t_ 2)),
  o_ 16 (.mov (t_ 1)),
  o_ 17 (.bin .sub (t_ 15) (t_ 16)),
  o_ 10 (.mov (t_ 17))]
def c190_2 : List SOper := [o_ 11 (.alloc [(.int .i64 (0))])]
def c190_3 : List SOper := [o_ 18 (.mov (t_ 1)),
  o_ 19 (.mov (t_ 10)),
  o_ 20 (.bin .quo (t_ 19) (k_ 4)),
  o_ 21 (.bin .mul (t_ 20) (k_ 1)),
  o_ 22 (.bin .add (t_ 18) (t_ 21)),
  o_ 12 (.mov (t_ 22))]
def c190_4 : List SOper := [o_ 23 (.mov (t_ 1)),
  o_ 24 (.mov (t_ 10)),
  o_ 25 (.bin .quo (t_ 24) (k_ 4)),
  o_ 26 (.bin .mul (t_ 25) (k_ 2)),
  o_ 27 (.bin .add (t_ 23) (t_ 26)),
  o_ 13 (.mov (t_ 27))]
def c190_5 : List SOper := [o_ 28 (.mov (t_ 1)),
  o_ 29 (.mov (t_ 10)),
  o_ 30 (.bin .quo (t_ 29) (k_ 4)),
  o_ 31 (.bin .mul (t_ 30) (k_ 3)),
  o_ 32 (.bin .add (t_ 28) (t_ 31)),
  o_ 14 (.mov (t_ 32))]
def c190_6 : List SOper := [o_ 33 (.mov (t_ 10)),
  o_ 34 (.bin .geq (t_ 33) (k_ 8))]
def c190_7 : List SOper := [o_ 35 (.mov (t_ 10)),
  o_ 36 (.bin .geq (t_ 35) (k_ 50))]
def c190_8 : List SOper := [o_ 37 (.mov (t_ 0)),
  o_ 38 (.mov (t_ 12)),
  o_ 39 (.mov (t_ 3)),
  o_ 40 (.call 227 [(t_ 37), (t_ 38), (t_ 11), (t_ 39)]),
  o_ 12 (.mov (t_ 40))]
def c190_9 : List SOper := [o_ 41 (.mov (t_ 0)),
  o_ 42 (.mov (t_ 13)),
  o_ 43 (.mov (t_ 3)),
  o_ 44 (.call 227 [(t_ 41), (t_ 42), (t_ 11), (t_ 43)]),
  o_ 13 (.mov (t_ 44))]
def c190_10 : List SOper := [o_ 45 (.mov (t_ 0)),
  o_ 46 (.mov (t_ 14)),
  o_ 47 (.mov (t_ 3)),
  o_ 48 (.call 227 [(t_ 45), (t_ 46), (t_ 11), (t_ 47)]),
  o_ 14 (.mov (t_ 48))]
def c190_11 : List SOper := [o_ 49 (.mov (t_ 0)),
  o_ 50 (.mov (t_ 12)),
  o_ 51 (.mov (t_ 13)),
  o_ 52 (.mov (t_ 14)),
  o_ 53 (.mov (t_ 3)),
  o_ 54 (.call 228 [(t_ 49), (t_ 50), (t_ 51), (t_ 52), (t_ 11), (t_ 53)]),
  o_ 13 (.mov (t_ 54))]
def c190_12 : List SOper := [o_ 55 (.load1 (t_ 11))]
def c190_13 : List SOper := [o_ 58 (.bin .eql (t_ 55) (k_ 0)),
  o_ 57 (.mov (t_ 58))]
def c190_14 : List SOper := [o_ 59 (.mov (t_ 13)),
  o_ 8 (.mov (t_ 59)),
  o_ 9 (.mov (k_ 1))]
def c190_15 : List SOper := [o_ 61 (.bin .eql (t_ 55) (k_ 12)),
  o_ 60 (.mov (t_ 61))]
def c190_16 : List SOper := [o_ 62 (.mov (t_ 13)),
  o_ 8 (.mov (t_ 62)),
  o_ 9 (.mov (k_ 2))]
def c190_17 : List SOper := [o_ 56 (.mov (t_ 13)),
  o_ 8 (.mov (t_ 56)),
  o_ 9 (.mov (k_ 0))]
def c190_body : SCode := (.seq (.reg [0, 1, 2, 3] c190_0) (.seq (.reg [0, 1, 3, 10] c190_1) (.seq (.reg [0, 1, 3, 10, 11] c190_2) (.seq (.reg [0, 1, 3, 10, 11, 12] c190_3) (.seq (.reg [0, 1, 3, 10, 11, 12, 13] c190_4) (.seq (.reg [0, 3, 10, 11, 12, 13, 14] c190_5) (.seq (.seq (.reg [0, 3, 10, 11, 12, 13, 14, 34] c190_6) (.cond (t_ 34) (.seq (.seq (.reg [0, 3, 11, 12, 13, 14, 36] c190_7) (.cond (t_ 36) (.seq (.reg [0, 3, 11, 12, 13, 14] c190_8) (.seq (.reg [0, 3, 11, 12, 13, 14] c190_9) (.reg [0, 3, 11, 12, 13, 14] c190_10))) .skip)) (.reg [11, 13] c190_11)) .skip)) (.seq (.reg [13, 55] c190_12) (.block 0 (.seq (.reg [13, 55, 57] c190_13) (.cond (t_ 57) (.seq (.reg [8, 9] c190_14) .ret) (.seq (.reg [13, 60] c190_15) (.cond (t_ 60) (.seq (.reg [8, 9] c190_16) .ret) (.seq (.reg [8, 9] c190_17) .ret))))))))))))))
def c190 : SFunc := ⟨4, 63, c190_body, [.tmp 8, .tmp 9]⟩
/- slices.reverseRangeCmpFunc[jacquard/api.Exec] -/
def c191_0 : List SOper := [o_ 10 (.mov (t_ 1)),
  o_ 8 (.mov (t_ 10))]
def c191_1 : List SOper := [o_ 11 (.mov (t_ 2)),
  o_ 12 (.bin .sub (t_ 11) (k_ 1)),
  o_ 9 (.mov (t_ 12))]
def c191_2 : List SOper := [o_ 13 (.mov (t_ 8)),
  o_ 14 (.mov (t_ 9)),
  o_ 15 (.bin .lss (t_ 13) (t_ 14))]
def c191_3 : List SOper := [⟨(some 16), .mov (t_ 0), none, [0], 0, [], 0, 0, []⟩,
  ⟨(some 17), .mov (t_ 8), none, [8], 1, [], 0, 0, []⟩,
  ⟨(some 18), .mov (t_ 0), none, [0], 2, [], 0, 0, []⟩,
  ⟨(some 19), .mov (t_ 9), none, [9], 3, [], 0, 0, []⟩,
  ⟨(some 20), .mov (t_ 0), none, [0], 4, [], 0, 0, []⟩,
  ⟨(some 21), .mov (t_ 9), none, [9], 5, [], 0, 0, []⟩,
  ⟨(some 22), .idxS 3 (t_ 20) (t_ 21), none, [20, 21], 6, [4, 5], 0, 0, []⟩,
  ⟨(some 23), .loadN 3 (t_ 22), none, [22], 7, [6], 0, 0, []⟩,
  ⟨(some 24), .mov (t_ 0), none, [0], 8, [], 0, 0, []⟩,
  ⟨(some 25), .mov (t_ 8), none, [8], 9, [], 0, 0, []⟩,
  ⟨(some 26), .idxS 3 (t_ 24) (t_ 25), none, [24, 25], 10, [8, 9], 0, 0, []⟩,
  ⟨(some 27), .loadN 3 (t_ 26), none, [26], 11, [10], 0, 0, []⟩,
  ⟨(some 28), .idxS 3 (t_ 16) (t_ 17), none, [16, 17], 12, [0, 1, 0, 1, 4, 5, 6, 7, 11], 0, 0, []⟩,
  ⟨(some 29), .idxS 3 (t_ 18) (t_ 19), none, [18, 19], 14, [2, 3, 0, 1, 2, 3, 4, 5, 6, 7, 8, 9, 10, 11, 12, 13], 0, 0, []⟩]
def c191_3b : List SOper := [⟨none, .storeN 3 (t_ 28) (t_ 23), none, [28, 23], 13, [12, 7, 0, 1, 4, 5, 6, 7, 11], 0, 0, [7, 11]⟩,
  ⟨none, .storeN 3 (t_ 29) (t_ 27), none, [29, 27], 15, [14, 11, 13, 0, 1, 2, 3, 4, 5, 6, 7, 8, 9, 10, 11, 12, 13], 0, 0, [7, 11]⟩]
def c191_4 : List SOper := [o_ 30 (.mov (t_ 8)),
  o_ 31 (.bin .add (t_ 30) (k_ 1)),
  o_ 8 (.mov (t_ 31))]
def c191_5 : List SOper := [o_ 32 (.mov (t_ 9)),
  o_ 33 (.bin .sub (t_ 32) (k_ 1)),
  o_ 9 (.mov (t_ 33))]
def c191_6 : SCode := (.seq (.seq (.reg [0, 8, 9, 15] c191_2) (.cond (t_ 15) .skip (.exit 0))) (.block 1 (.seq (.dreg [0, 8, 9] c191_3 c191_3b) (.seq (.reg [0, 8, 9] c191_4) (.reg [0, 8, 9] c191_5)))))
def c191_body : SCode := (.seq (.reg [0, 2, 8] c191_0) (.seq (.reg [0, 8, 9] c191_1) (.block 0 (.loop [0, 8, 9] c191_6))))
def c191 : SFunc := ⟨4, 34, c191_body, []⟩
/- slices.partialInsertionSortCmpFunc[jacquard/api.Exec] -/
def c192_0 : List SOper := [o_ 8 (.mov (.const (.bool false)))]
def c192_1 : List SOper := [o_ 13 (.mov (t_ 1)),
  o_ 14 (.bin .add (t_ 13) (k_ 1)),
  o_ 9 (.mov (t_ 14))]
def c192_2 : List SOper := [o_ 10 (.mov (k_ 0))]
def c192_3 : List SOper := [o_ 15 (.mov (t_ 10)),
  o_ 16 (.bin .lss (t_ 15) (k_ 5))]
def c192_4 : List SOper := [⟨(some 19), .mov (t_ 9), none, [9], 0, [], 0, 0, []⟩,
  ⟨(some 20), .mov (t_ 2), none, [2], 1, [], 0, 0, []⟩,
  ⟨(some 21), .bin .lss (t_ 19) (t_ 20), none, [19, 20], 2, [0, 1], 0, 0, []⟩,
  ⟨(some 22), .mov (t_ 21), none, [21], 3, [2], 0, 0, []⟩,
  ⟨(some 23), .mov (t_ 3), (some (22, true)), [3, 22], 4, [3], 0, 0, []⟩,
  ⟨(some 24), .mov (t_ 0), (some (22, true)), [0, 22], 5, [3], 0, 0, []⟩,
  ⟨(some 25), .mov (t_ 9), (some (22, true)), [9, 22], 6, [3], 0, 0, []⟩,
  ⟨(some 26), .idxS 3 (t_ 24) (t_ 25), (some (22, true)), [24, 25, 22], 7, [5, 6, 3], 0, 0, []⟩,
  ⟨(some 27), .loadN 3 (t_ 26), (some (22, true)), [26, 22], 8, [7, 3], 0, 0, []⟩,
  ⟨(some 28), .mov (t_ 0), (some (22, true)), [0, 22], 9, [3], 0, 0, []⟩,
  ⟨(some 29), .mov (t_ 9), (some (22, true)), [9, 22], 10, [3], 0, 0, []⟩,
  ⟨(some 30), .bin .sub (t_ 29) (k_ 1), (some (22, true)), [29, 22], 11, [10, 3], 0, 0, []⟩,
  ⟨(some 31), .idxS 3 (t_ 28) (t_ 30), (some (22, true)), [28, 30, 22], 12, [9, 11, 3], 0, 0, []⟩,
  ⟨(some 32), .loadN 3 (t_ 31), (some (22, true)), [31, 22], 13, [12, 3], 0, 0, []⟩,
  ⟨(some 33), .callv (t_ 23) [(t_ 27), (t_ 32)], (some (22, true)), [23, 27, 32, 22], 14, [4, 8, 13, 3, 3], 0, 0, []⟩,
  ⟨(some 34), .bin .lss (t_ 33) (k_ 0), (some (22, true)), [33, 22], 15, [14, 3], 0, 0, []⟩,
  ⟨(some 35), .un .not (t_ 34), (some (22, true)), [34, 22], 16, [15, 3], 0, 0, []⟩,
  ⟨(some 36), .pick (t_ 22) (t_ 35) (.const (.bool false)), none, [22, 35], 17, [3, 16], 0, 0, []⟩]
def c192_4b : List SOper := []
def c192_5 : List SOper := [o_ 37 (.mov (t_ 9)),
  o_ 38 (.bin .add (t_ 37) (k_ 1)),
  o_ 9 (.mov (t_ 38))]
def c192_6 : SCode := (.seq (.seq (.dreg [0, 1, 2, 3, 9, 10, 36] c192_4 c192_4b) (.cond (t_ 36) .skip (.exit 2))) (.block 3 (.reg [0, 1, 2, 3, 9, 10] c192_5)))
def c192_7 : List SOper := [o_ 39 (.mov (t_ 9)),
  o_ 40 (.mov (t_ 2)),
  o_ 41 (.bin .eql (t_ 39) (t_ 40))]
def c192_8 : List SOper := [o_ 8 (.mov (.const (.bool true)))]
def c192_9 : List SOper := [o_ 42 (.mov (t_ 2)),
  o_ 43 (.mov (t_ 1)),
  o_ 44 (.bin .sub (t_ 42) (t_ 43)),
  o_ 45 (.bin .lss (t_ 44) (k_ 50))]
def c192_10 : List SOper := [o_ 8 (.mov (.const (.bool false)))]
def c192_11 : List SOper := [⟨(some 46), .mov (t_ 0), none, [0], 0, [], 0, 0, []⟩,
  ⟨(some 47), .mov (t_ 9), none, [9], 1, [], 0, 0, []⟩,
  ⟨(some 48), .mov (t_ 0), none, [0], 2, [], 0, 0, []⟩,
  ⟨(some 49), .mov (t_ 9), none, [9], 3, [], 0, 0, []⟩,
  ⟨(some 50), .bin .sub (t_ 49) (k_ 1), none, [49], 4, [3], 0, 0, []⟩,
  ⟨(some 51), .mov (t_ 0), none, [0], 5, [], 0, 0, []⟩,
  ⟨(some 52), .mov (t_ 9), none, [9], 6, [], 0, 0, []⟩,
  ⟨(some 53), .bin .sub (t_ 52) (k_ 1), none, [52], 7, [6], 0, 0, []⟩,
  ⟨(some 54), .idxS 3 (t_ 51) (t_ 53), none, [51, 53], 8, [5, 7], 0, 0, []⟩,
  ⟨(some 55), .loadN 3 (t_ 54), none, [54], 9, [8], 0, 0, []⟩,
  ⟨(some 56), .mov (t_ 0), none, [0], 10, [], 0, 0, []⟩,
  ⟨(some 57), .mov (t_ 9), none, [9], 11, [], 0, 0, []⟩,
  ⟨(some 58), .idxS 3 (t_ 56) (t_ 57), none, [56, 57], 12, [10, 11], 0, 0, []⟩,
  ⟨(some 59), .loadN 3 (t_ 58), none, [58], 13, [12], 0, 0, []⟩,
  ⟨(some 60), .idxS 3 (t_ 46) (t_ 47), none, [46, 47], 14, [0, 1, 0, 1, 5, 6, 7, 8, 9, 13], 0, 0, []⟩,
  ⟨(some 61), .idxS 3 (t_ 48) (t_ 50), none, [48, 50], 16, [2, 4, 0, 1, 2, 3, 4, 5, 6, 7, 8, 9, 10, 11, 12, 13, 14, 15], 0, 0, []⟩]
def c192_11b : List SOper := [⟨none, .storeN 3 (t_ 60) (t_ 55), none, [60, 55], 15, [14, 9, 0, 1, 5, 6, 7, 8, 9, 13], 0, 0, [9, 13]⟩,
  ⟨none, .storeN 3 (t_ 61) (t_ 59), none, [61, 59], 17, [16, 13, 15, 0, 1, 2, 3, 4, 5, 6, 7, 8, 9, 10, 11, 12, 13, 14, 15], 0, 0, [9, 13]⟩]
def c192_12 : List SOper := [o_ 62 (.mov (t_ 9)),
  o_ 63 (.mov (t_ 1)),
  o_ 64 (.bin .sub (t_ 62) (t_ 63)),
  o_ 65 (.bin .geq (t_ 64) (k_ 2))]
def c192_13 : List SOper := [o_ 66 (.mov (t_ 9)),
  o_ 67 (.bin .sub (t_ 66) (k_ 1)),
  o_ 11 (.mov (t_ 67))]
def c192_14 : List SOper := [o_ 68 (.mov (t_ 11)),
  o_ 69 (.bin .geq (t_ 68) (k_ 1))]
def c192_15 : List SOper := [⟨(some 72), .mov (t_ 3), none, [3], 0, [], 0, 0, []⟩,
  ⟨(some 73), .mov (t_ 0), none, [0], 1, [], 0, 0, []⟩,
  ⟨(some 74), .mov (t_ 11), none, [11], 2, [], 0, 0, []⟩,
  ⟨(some 75), .idxS 3 (t_ 73) (t_ 74), none, [73, 74], 3, [1, 2], 0, 0, []⟩,
  ⟨(some 76), .loadN 3 (t_ 75), none, [75], 4, [3], 0, 0, []⟩,
  ⟨(some 77), .mov (t_ 0), none, [0], 5, [], 0, 0, []⟩,
  ⟨(some 78), .mov (t_ 11), none, [11], 6, [], 0, 0, []⟩,
  ⟨(some 79), .bin .sub (t_ 78) (k_ 1), none, [78], 7, [6], 0, 0, []⟩,
  ⟨(some 80), .idxS 3 (t_ 77) (t_ 79), none, [77, 79], 8, [5, 7], 0, 0, []⟩,
  ⟨(some 81), .loadN 3 (t_ 80), none, [80], 9, [8], 0, 0, []⟩,
  ⟨(some 82), .callv (t_ 72) [(t_ 76), (t_ 81)], none, [72, 76, 81], 10, [0, 4, 9], 0, 0, []⟩,
  ⟨(some 83), .bin .lss (t_ 82) (k_ 0), none, [82], 11, [10], 0, 0, []⟩,
  ⟨(some 84), .un .not (t_ 83), none, [83], 12, [11], 0, 0, []⟩]
def c192_15b : List SOper := []
def c192_16 : List SOper := [⟨(some 85), .mov (t_ 0), none, [0], 0, [], 0, 0, []⟩,
  ⟨(some 86), .mov (t_ 11), none, [11], 1, [], 0, 0, []⟩,
  ⟨(some 87), .mov (t_ 0), none, [0], 2, [], 0, 0, []⟩,
  ⟨(some 88), .mov (t_ 11), none, [11], 3, [], 0, 0, []⟩,
  ⟨(some 89), .bin .sub (t_ 88) (k_ 1), none, [88], 4, [3], 0, 0, []⟩,
  ⟨(some 90), .mov (t_ 0), none, [0], 5, [], 0, 0, []⟩,
  ⟨(some 91), .mov (t_ 11), none, [11], 6, [], 0, 0, []⟩,
  ⟨(some 92), .bin .sub (t_ 91) (k_ 1), none, [91], 7, [6], 0, 0, []⟩,
  ⟨(some 93), .idxS 3 (t_ 90) (t_ 92), none, [90, 92], 8, [5, 7], 0, 0, []⟩,
  ⟨(some 94), .loadN 3 (t_ 93), none, [93], 9, [8], 0, 0, []⟩,
  ⟨(some 95), .mov (t_ 0), none, [0], 10, [], 0, 0, []⟩,
  ⟨(some 96), .mov (t_ 11), none, [11], 11, [], 0, 0, []⟩,
  ⟨(some 97), .idxS 3 (t_ 95) (t_ 96), none, [95, 96], 12, [10, 11], 0, 0, []⟩,
  ⟨(some 98), .loadN 3 (t_ 97), none, [97], 13, [12], 0, 0, []⟩,
  ⟨(some 99), .idxS 3 (t_ 85) (t_ 86), none, [85, 86], 14, [0, 1, 0, 1, 5, 6, 7, 8, 9, 13], 0, 0, []⟩,
  ⟨(some 100), .idxS 3 (t_ 87) (t_ 89), none, [87, 89], 16, [2, 4, 0, 1, 2, 3, 4, 5, 6, 7, 8, 9, 10, 11, 12, 13, 14, 15], 0, 0, []⟩]
def c192_16b : List SOper := [⟨none, .storeN 3 (t_ 99) (t_ 94), none, [99, 94], 15, [14, 9, 0, 1, 5, 6, 7, 8, 9, 13], 0, 0, [9, 13]⟩,
  ⟨none, .storeN 3 (t_ 100) (t_ 98), none, [100, 98], 17, [16, 13, 15, 0, 1, 2, 3, 4, 5, 6, 7, 8, 9, 10, 11, 12, 13, 14, 15], 0, 0, [9, 13]⟩]
def c192_17 : List SOper := [o_ 70 (.mov (t_ 11)),
  o_ 71 (.bin .sub (t_ 70) (k_ 1)),
  o_ 11 (.mov (t_ 71))]
def c192_18 : SCode := (.seq (.seq (.reg [0, 1, 2, 3, 9, 10, 11, 69] c192_14) (.cond (t_ 69) .skip (.exit 4))) (.seq (.block 5 (.seq (.seq (.dreg [0, 1, 2, 3, 9, 10, 11, 84] c192_15 c192_15b) (.cond (t_ 84) (.exit 4) .skip)) (.dreg [0, 1, 2, 3, 9, 10, 11] c192_16 c192_16b))) (.reg [0, 1, 2, 3, 9, 10, 11] c192_17)))
def c192_19 : List SOper := [o_ 101 (.mov (t_ 2)),
  o_ 102 (.mov (t_ 9)),
  o_ 103 (.bin .sub (t_ 101) (t_ 102)),
  o_ 104 (.bin .geq (t_ 103) (k_ 2))]
def c192_20 : List SOper := [o_ 105 (.mov (t_ 9)),
  o_ 106 (.bin .add (t_ 105) (k_ 1)),
  o_ 12 (.mov (t_ 106))]
def c192_21 : List SOper := [o_ 107 (.mov (t_ 12)),
  o_ 108 (.mov (t_ 2)),
  o_ 109 (.bin .lss (t_ 107) (t_ 108))]
def c192_22 : List SOper := [⟨(some 112), .mov (t_ 3), none, [3], 0, [], 0, 0, []⟩,
  ⟨(some 113), .mov (t_ 0), none, [0], 1, [], 0, 0, []⟩,
  ⟨(some 114), .mov (t_ 12), none, [12], 2, [], 0, 0, []⟩,
  ⟨(some 115), .idxS 3 (t_ 113) (t_ 114), none, [113, 114], 3, [1, 2], 0, 0, []⟩,
  ⟨(some 116), .loadN 3 (t_ 115), none, [115], 4, [3], 0, 0, []⟩,
  ⟨(some 117), .mov (t_ 0), none, [0], 5, [], 0, 0, []⟩,
  ⟨(some 118), .mov (t_ 12), none, [12], 6, [], 0, 0, []⟩,
  ⟨(some 119), .bin .sub (t_ 118) (k_ 1), none, [118], 7, [6], 0, 0, []⟩,
  ⟨(some 120), .idxS 3 (t_ 117) (t_ 119), none, [117, 119], 8, [5, 7], 0, 0, []⟩,
  ⟨(some 121), .loadN 3 (t_ 120), none, [120], 9, [8], 0, 0, []⟩,
  ⟨(some 122), .callv (t_ 112) [(t_ 116), (t_ 121)], none, [112, 116, 121], 10, [0, 4, 9], 0, 0, []⟩,
  ⟨(some 123), .bin .lss (t_ 122) (k_ 0), none, [122], 11, [10], 0, 0, []⟩,
  ⟨(some 124), .un .not (t_ 123), none, [123], 12, [11], 0, 0, []⟩]
def c192_22b : List SOper := []
def c192_23 : List SOper := [⟨(some 125), .mov (t_ 0), none, [0], 0, [], 0, 0, []⟩,
  ⟨(some 126), .mov (t_ 12), none, [12], 1, [], 0, 0, []⟩,
  ⟨(some 127), .mov (t_ 0), none, [0], 2, [], 0, 0, []⟩,
  ⟨(some 128), .mov (t_ 12), none, [12], 3, [], 0, 0, []⟩,
  ⟨(some 129), .bin .sub (t_ 128) (k_ 1), none, [128], 4, [3], 0, 0, []⟩,
  ⟨(some 130), .mov (t_ 0), none, [0], 5, [], 0, 0, []⟩,
  ⟨(some 131), .mov (t_ 12), none, [12], 6, [], 0, 0, []⟩,
  ⟨(some 132), .bin .sub (t_ 131) (k_ 1), none, [131], 7, [6], 0, 0, []⟩,
  ⟨(some 133), .idxS 3 (t_ 130) (t_ 132), none, [130, 132], 8, [5, 7], 0, 0, []⟩,
  ⟨(some 134), .loadN 3 (t_ 133), none, [133], 9, [8], 0, 0, []⟩,
  ⟨(some 135), .mov (t_ 0), none, [0], 10, [], 0, 0, []⟩,
  ⟨(some 136), .mov (t_ 12), none, [12], 11, [], 0, 0, []⟩,
  ⟨(some 137), .idxS 3 (t_ 135) (t_ 136), none, [135, 136], 12, [10, 11], 0, 0, []⟩,
  ⟨(some 138), .loadN 3 (t_ 137), none, [137], 13, [12], 0, 0, []⟩,
  ⟨(some 139), .idxS 3 (t_ 125) (t_ 126), none, [125, 126], 14, [0, 1, 0, 1, 5, 6, 7, 8, 9, 13], 0, 0, []⟩,
  ⟨(some 140), .idxS 3 (t_ 127) (t_ 129), none, [127, 129], 16, [2, 4, 0, 1, 2, 3, 4, 5, 6, 7, 8, 9, 10, 11, 12, 13, 14, 15], 0, 0, []⟩]
def c192_23b : List SOper := [⟨none, .storeN 3 (t_ 139) (t_ 134), none, [139, 134], 15, [14, 9, 0, 1, 5, 6, 7, 8, 9, 13], 0, 0, [9, 13]⟩,
  ⟨none, .storeN 3 (t_ 140) (t_ 138), none, [140, 138], 17, [16, 13, 15, 0, 1, 2, 3, 4, 5, 6, 7, 8, 9, 10, 11, 12, 13, 14, 15], 0, 0, [9, 13]⟩]
def c192_24 : List SOper := [o_ 110 (.mov (t_ 12)),
  o_ 111 (.bin .add (t_ 110) (k_ 1)),
  o_ 12 (.mov (t_ 111))]
def c192_25 : SCode := (.seq (.seq (.reg [0, 1, 2, 3, 9, 10, 12, 109] c192_21) (.cond (t_ 109) .skip (.exit 6))) (.seq (.block 7 (.seq (.seq (.dreg [0, 1, 2, 3, 9, 10, 12, 124] c192_22 c192_22b) (.cond (t_ 124) (.exit 6) .skip)) (.dreg [0, 1, 2, 3, 9, 10, 12] c192_23 c192_23b))) (.reg [0, 1, 2, 3, 9, 10, 12] c192_24)))
def c192_26 : List SOper := [o_ 17 (.mov (t_ 10)),
  o_ 18 (.bin .add (t_ 17) (k_ 1)),
  o_ 10 (.mov (t_ 18))]
def c192_27 : SCode := (.seq (.seq (.reg [0, 1, 2, 3, 9, 10, 16] c192_3) (.cond (t_ 16) .skip (.exit 0))) (.seq (.block 1 (.seq (.block 2 (.loop [0, 1, 2, 3, 9, 10] c192_6)) (.seq (.seq (.reg [0, 1, 2, 3, 9, 10, 41] c192_7) (.cond (t_ 41) (.seq (.reg [8] c192_8) .ret) .skip)) (.seq (.seq (.reg [0, 1, 2, 3, 9, 10, 45] c192_9) (.cond (t_ 45) (.seq (.reg [8] c192_10) .ret) .skip)) (.seq (.dreg [0, 1, 2, 3, 9, 10] c192_11 c192_11b) (.seq (.seq (.reg [0, 1, 2, 3, 9, 10, 65] c192_12) (.cond (t_ 65) (.seq (.reg [0, 1, 2, 3, 9, 10, 11] c192_13) (.block 4 (.loop [0, 1, 2, 3, 9, 10, 11] c192_18))) .skip)) (.seq (.reg [0, 1, 2, 3, 9, 10, 104] c192_19) (.cond (t_ 104) (.seq (.reg [0, 1, 2, 3, 9, 10, 12] c192_20) (.block 6 (.loop [0, 1, 2, 3, 9, 10, 12] c192_25))) .skip)))))))) (.reg [0, 1, 2, 3, 9, 10] c192_26)))
def c192_28 : List SOper := [o_ 8 (.mov (.const (.bool false)))]
def c192_body : SCode := (.seq (.reg [0, 1, 2, 3] c192_0) (.seq (.reg [0, 1, 2, 3, 9] c192_1) (.seq (.seq (.reg [0, 1, 2, 3, 9, 10] c192_2) (.block 0 (.loop [0, 1, 2, 3, 9, 10] c192_27))) (.seq (.reg [8] c192_28) .ret))))
def c192 : SFunc := ⟨4, 141, c192_body, [.tmp 8]⟩
/- slices.partitionEqualCmpFunc[jacquard/api.Exec] -/
def c193_0 : List SOper := [o_ 10 (.mov (k_ 0))]
def c193_1 : List SOper := [⟨(some 13), .mov (t_ 0), none, [0], 0, [], 0, 0, []⟩,
  ⟨(some 14), .mov (t_ 1), none, [1], 1, [], 0, 0, []⟩,
  ⟨(some 15), .mov (t_ 0), none, [0], 2, [], 0, 0, []⟩,
  ⟨(some 16), .mov (t_ 3), none, [3], 3, [], 0, 0, []⟩,
  ⟨(some 17), .mov (t_ 0), none, [0], 4, [], 0, 0, []⟩,
  ⟨(some 18), .mov (t_ 3), none, [3], 5, [], 0, 0, []⟩,
  ⟨(some 19), .idxS 3 (t_ 17) (t_ 18), none, [17, 18], 6, [4, 5], 0, 0, []⟩,
  ⟨(some 20), .loadN 3 (t_ 19), none, [19], 7, [6], 0, 0, []⟩,
  ⟨(some 21), .mov (t_ 0), none, [0], 8, [], 0, 0, []⟩,
  ⟨(some 22), .mov (t_ 1), none, [1], 9, [], 0, 0, []⟩,
  ⟨(some 23), .idxS 3 (t_ 21) (t_ 22), none, [21, 22], 10, [8, 9], 0, 0, []⟩,
  ⟨(some 24), .loadN 3 (t_ 23), none, [23], 11, [10], 0, 0, []⟩,
  ⟨(some 25), .idxS 3 (t_ 13) (t_ 14), none, [13, 14], 12, [0, 1, 0, 1, 4, 5, 6, 7, 11], 0, 0, []⟩,
  ⟨(some 26), .idxS 3 (t_ 15) (t_ 16), none, [15, 16], 14, [2, 3, 0, 1, 2, 3, 4, 5, 6, 7, 8, 9, 10, 11, 12, 13], 0, 0, []⟩]
def c193_1b : List SOper := [⟨none, .storeN 3 (t_ 25) (t_ 20), none, [25, 20], 13, [12, 7, 0, 1, 4, 5, 6, 7, 11], 0, 0, [7, 11]⟩,
  ⟨none, .storeN 3 (t_ 26) (t_ 24), none, [26, 24], 15, [14, 11, 13, 0, 1, 2, 3, 4, 5, 6, 7, 8, 9, 10, 11, 12, 13], 0, 0, [7, 11]⟩]
def c193_2 : List SOper := [o_ 27 (.mov (t_ 1)),
  o_ 28 (.bin .add (t_ 27) (k_ 1)),
  o_ 29 (.mov (t_ 2)),
  o_ 30 (.bin .sub (t_ 29) (k_ 1)),
  o_ 11 (.mov (t_ 28)),
  o_ 12 (.mov (t_ 30))]
def c193_3 : List SOper := [⟨(some 31), .mov (t_ 11), none, [11], 0, [], 0, 0, []⟩,
  ⟨(some 32), .mov (t_ 12), none, [12], 1, [], 0, 0, []⟩,
  ⟨(some 33), .bin .leq (t_ 31) (t_ 32), none, [31, 32], 2, [0, 1], 0, 0, []⟩,
  ⟨(some 34), .mov (t_ 33), none, [33], 3, [2], 0, 0, []⟩,
  ⟨(some 35), .mov (t_ 4), (some (34, true)), [4, 34], 4, [3], 0, 0, []⟩,
  ⟨(some 36), .mov (t_ 0), (some (34, true)), [0, 34], 5, [3], 0, 0, []⟩,
  ⟨(some 37), .mov (t_ 1), (some (34, true)), [1, 34], 6, [3], 0, 0, []⟩,
  ⟨(some 38), .idxS 3 (t_ 36) (t_ 37), (some (34, true)), [36, 37, 34], 7, [5, 6, 3], 0, 0, []⟩,
  ⟨(some 39), .loadN 3 (t_ 38), (some (34, true)), [38, 34], 8, [7, 3], 0, 0, []⟩,
  ⟨(some 40), .mov (t_ 0), (some (34, true)), [0, 34], 9, [3], 0, 0, []⟩,
  ⟨(some 41), .mov (t_ 11), (some (34, true)), [11, 34], 10, [3], 0, 0, []⟩,
  ⟨(some 42), .idxS 3 (t_ 40) (t_ 41), (some (34, true)), [40, 41, 34], 11, [9, 10, 3], 0, 0, []⟩,
  ⟨(some 43), .loadN 3 (t_ 42), (some (34, true)), [42, 34], 12, [11, 3], 0, 0, []⟩,
  ⟨(some 44), .callv (t_ 35) [(t_ 39), (t_ 43)], (some (34, true)), [35, 39, 43, 34], 13, [4, 8, 12, 3, 3], 0, 0, []⟩,
  ⟨(some 45), .bin .lss (t_ 44) (k_ 0), (some (34, true)), [44, 34], 14, [13, 3], 0, 0, []⟩,
  ⟨(some 46), .un .not (t_ 45), (some (34, true)), [45, 34], 15, [14, 3], 0, 0, []⟩,
  ⟨(some 47), .pick (t_ 34) (t_ 46) (.const (.bool false)), none, [34, 46], 16, [3, 15], 0, 0, []⟩]
def c193_3b : List SOper := []
def c193_4 : List SOper := [o_ 48 (.mov (t_ 11)),
  o_ 49 (.bin .add (t_ 48) (k_ 1)),
  o_ 11 (.mov (t_ 49))]
def c193_5 : SCode := (.seq (.seq (.dreg [0, 1, 4, 11, 12, 47] c193_3 c193_3b) (.cond (t_ 47) .skip (.exit 2))) (.block 3 (.reg [0, 1, 4, 11, 12] c193_4)))
def c193_6 : List SOper := [⟨(some 50), .mov (t_ 11), none, [11], 0, [], 0, 0, []⟩,
  ⟨(some 51), .mov (t_ 12), none, [12], 1, [], 0, 0, []⟩,
  ⟨(some 52), .bin .leq (t_ 50) (t_ 51), none, [50, 51], 2, [0, 1], 0, 0, []⟩,
  ⟨(some 53), .mov (t_ 52), none, [52], 3, [2], 0, 0, []⟩,
  ⟨(some 54), .mov (t_ 4), (some (53, true)), [4, 53], 4, [3], 0, 0, []⟩,
  ⟨(some 55), .mov (t_ 0), (some (53, true)), [0, 53], 5, [3], 0, 0, []⟩,
  ⟨(some 56), .mov (t_ 1), (some (53, true)), [1, 53], 6, [3], 0, 0, []⟩,
  ⟨(some 57), .idxS 3 (t_ 55) (t_ 56), (some (53, true)), [55, 56, 53], 7, [5, 6, 3], 0, 0, []⟩,
  ⟨(some 58), .loadN 3 (t_ 57), (some (53, true)), [57, 53], 8, [7, 3], 0, 0, []⟩,
  ⟨(some 59), .mov (t_ 0), (some (53, true)), [0, 53], 9, [3], 0, 0, []⟩,
  ⟨(some 60), .mov (t_ 12), (some (53, true)), [12, 53], 10, [3], 0, 0, []⟩,
  ⟨(some 61), .idxS 3 (t_ 59) (t_ 60), (some (53, true)), [59, 60, 53], 11, [9, 10, 3], 0, 0, []⟩,
  ⟨(some 62), .loadN 3 (t_ 61), (some (53, true)), [61, 53], 12, [11, 3], 0, 0, []⟩,
  ⟨(some 63), .callv (t_ 54) [(t_ 58), (t_ 62)], (some (53, true)), [54, 58, 62, 53], 13, [4, 8, 12, 3, 3], 0, 0, []⟩,
  ⟨(some 64), .bin .lss (t_ 63) (k_ 0), (some (53, true)), [63, 53], 14, [13, 3], 0, 0, []⟩,
  ⟨(some 65), .pick (t_ 53) (t_ 64) (.const (.bool false)), none, [53, 64], 15, [3, 14], 0, 0, []⟩]
def c193_6b : List SOper := []
def c193_7 : List SOper := [o_ 66 (.mov (t_ 12)),
  o_ 67 (.bin .sub (t_ 66) (k_ 1)),
  o_ 12 (.mov (t_ 67))]
def c193_8 : SCode := (.seq (.seq (.dreg [0, 1, 4, 11, 12, 65] c193_6 c193_6b) (.cond (t_ 65) .skip (.exit 4))) (.block 5 (.reg [0, 1, 4, 11, 12] c193_7)))
def c193_9 : List SOper := [o_ 68 (.mov (t_ 11)),
  o_ 69 (.mov (t_ 12)),
  o_ 70 (.bin .gtr (t_ 68) (t_ 69))]
def c193_10 : List SOper := [⟨(some 71), .mov (t_ 0), none, [0], 0, [], 0, 0, []⟩,
  ⟨(some 72), .mov (t_ 11), none, [11], 1, [], 0, 0, []⟩,
  ⟨(some 73), .mov (t_ 0), none, [0], 2, [], 0, 0, []⟩,
  ⟨(some 74), .mov (t_ 12), none, [12], 3, [], 0, 0, []⟩,
  ⟨(some 75), .mov (t_ 0), none, [0], 4, [], 0, 0, []⟩,
  ⟨(some 76), .mov (t_ 12), none, [12], 5, [], 0, 0, []⟩,
  ⟨(some 77), .idxS 3 (t_ 75) (t_ 76), none, [75, 76], 6, [4, 5], 0, 0, []⟩,
  ⟨(some 78), .loadN 3 (t_ 77), none, [77], 7, [6], 0, 0, []⟩,
  ⟨(some 79), .mov (t_ 0), none, [0], 8, [], 0, 0, []⟩,
  ⟨(some 80), .mov (t_ 11), none, [11], 9, [], 0, 0, []⟩,
  ⟨(some 81), .idxS 3 (t_ 79) (t_ 80), none, [79, 80], 10, [8, 9], 0, 0, []⟩,
  ⟨(some 82), .loadN 3 (t_ 81), none, [81], 11, [10], 0, 0, []⟩,
  ⟨(some 83), .idxS 3 (t_ 71) (t_ 72), none, [71, 72], 12, [0, 1, 0, 1, 4, 5, 6, 7, 11], 0, 0, []⟩,
  ⟨(some 84), .idxS 3 (t_ 73) (t_ 74), none, [73, 74], 14, [2, 3, 0, 1, 2, 3, 4, 5, 6, 7, 8, 9, 10, 11, 12, 13], 0, 0, []⟩]
def c193_10b : List SOper := [⟨none, .storeN 3 (t_ 83) (t_ 78), none, [83, 78], 13, [12, 7, 0, 1, 4, 5, 6, 7, 11], 0, 0, [7, 11]⟩,
  ⟨none, .storeN 3 (t_ 84) (t_ 82), none, [84, 82], 15, [14, 11, 13, 0, 1, 2, 3, 4, 5, 6, 7, 8, 9, 10, 11, 12, 13], 0, 0, [7, 11]⟩]
def c193_11 : List SOper := [o_ 85 (.mov (t_ 11)),
  o_ 86 (.bin .add (t_ 85) (k_ 1)),
  o_ 11 (.mov (t_ 86))]
def c193_12 : List SOper := [o_ 87 (.mov (t_ 12)),
  o_ 88 (.bin .sub (t_ 87) (k_ 1)),
  o_ 12 (.mov (t_ 88))]
def c193_13 : SCode := (.block 1 (.seq (.block 2 (.loop [0, 1, 4, 11, 12] c193_5)) (.seq (.block 4 (.loop [0, 1, 4, 11, 12] c193_8)) (.seq (.seq (.reg [0, 1, 4, 11, 12, 70] c193_9) (.cond (t_ 70) (.exit 0) .skip)) (.seq (.dreg [0, 1, 4, 11, 12] c193_10 c193_10b) (.seq (.reg [0, 1, 4, 11, 12] c193_11) (.reg [0, 1, 4, 11, 12] c193_12)))))))
def c193_14 : List SOper := [o_ 89 (.mov (t_ 11)),
  o_ 10 (.mov (t_ 89))]
def c193_body : SCode := (.seq (.reg [0, 1, 2, 3, 4] c193_0) (.seq (.dreg [0, 1, 2, 4] c193_1 c193_1b) (.seq (.reg [0, 1, 4, 11, 12] c193_2) (.seq (.block 0 (.loop [0, 1, 4, 11, 12] c193_13)) (.seq (.reg [10] c193_14) .ret)))))
def c193 : SFunc := ⟨5, 90, c193_body, [.tmp 10]⟩
/- slices.partitionCmpFunc[jacquard/api.Exec] -/
def c194_0 : List SOper := [o_ 10 (.mov (k_ 0)),
  o_ 11 (.mov (.const (.bool false)))]
def c194_1 : List SOper := [⟨(some 14), .mov (t_ 0), none, [0], 0, [], 0, 0, []⟩,
  ⟨(some 15), .mov (t_ 1), none, [1], 1, [], 0, 0, []⟩,
  ⟨(some 16), .mov (t_ 0), none, [0], 2, [], 0, 0, []⟩,
  ⟨(some 17), .mov (t_ 3), none, [3], 3, [], 0, 0, []⟩,
  ⟨(some 18), .mov (t_ 0), none, [0], 4, [], 0, 0, []⟩,
  ⟨(some 19), .mov (t_ 3), none, [3], 5, [], 0, 0, []⟩,
  ⟨(some 20), .idxS 3 (t_ 18) (t_ 19), none, [18, 19], 6, [4, 5], 0, 0, []⟩,
  ⟨(some 21), .loadN 3 (t_ 20), none, [20], 7, [6], 0, 0, []⟩,
  ⟨(some 22), .mov (t_ 0), none, [0], 8, [], 0, 0, []⟩,
  ⟨(some 23), .mov (t_ 1), none, [1], 9, [], 0, 0, []⟩,
  ⟨(some 24), .idxS 3 (t_ 22) (t_ 23), none, [22, 23], 10, [8, 9], 0, 0, []⟩,
  ⟨(some 25), .loadN 3 (t_ 24), none, [24], 11, [10], 0, 0, []⟩,
  ⟨(some 26), .idxS 3 (t_ 14) (t_ 15), none, [14, 15], 12, [0, 1, 0, 1, 4, 5, 6, 7, 11], 0, 0, []⟩,
  ⟨(some 27), .idxS 3 (t_ 16) (t_ 17), none, [16, 17], 14, [2, 3, 0, 1, 2, 3, 4, 5, 6, 7, 8, 9, 10, 11, 12, 13], 0, 0, []⟩]
def c194_1b : List SOper := [⟨none, .storeN 3 (t_ 26) (t_ 21), none, [26, 21], 13, [12, 7, 0, 1, 4, 5, 6, 7, 11], 0, 0, [7, 11]⟩,
  ⟨none, .storeN 3 (t_ 27) (t_ 25), none, [27, 25], 15, [14, 11, 13, 0, 1, 2, 3, 4, 5, 6, 7, 8, 9, 10, 11, 12, 13], 0, 0, [7, 11]⟩]
def c194_2 : List SOper := [o_ 28 (.mov (t_ 1)),
  o_ 29 (.bin .add (t_ 28) (k_ 1)),
  o_ 30 (.mov (t_ 2)),
  o_ 31 (.bin .sub (t_ 30) (k_ 1)),
  o_ 12 (.mov (t_ 29)),
  o_ 13 (.mov (t_ 31))]
def c194_3 : List SOper := [⟨(some 32), .mov (t_ 12), none, [12], 0, [], 0, 0, []⟩,
  ⟨(some 33), .mov (t_ 13), none, [13], 1, [], 0, 0, []⟩,
  ⟨(some 34), .bin .leq (t_ 32) (t_ 33), none, [32, 33], 2, [0, 1], 0, 0, []⟩,
  ⟨(some 35), .mov (t_ 34), none, [34], 3, [2], 0, 0, []⟩,
  ⟨(some 36), .mov (t_ 4), (some (35, true)), [4, 35], 4, [3], 0, 0, []⟩,
  ⟨(some 37), .mov (t_ 0), (some (35, true)), [0, 35], 5, [3], 0, 0, []⟩,
  ⟨(some 38), .mov (t_ 12), (some (35, true)), [12, 35], 6, [3], 0, 0, []⟩,
  ⟨(some 39), .idxS 3 (t_ 37) (t_ 38), (some (35, true)), [37, 38, 35], 7, [5, 6, 3], 0, 0, []⟩,
  ⟨(some 40), .loadN 3 (t_ 39), (some (35, true)), [39, 35], 8, [7, 3], 0, 0, []⟩,
  ⟨(some 41), .mov (t_ 0), (some (35, true)), [0, 35], 9, [3], 0, 0, []⟩,
  ⟨(some 42), .mov (t_ 1), (some (35, true)), [1, 35], 10, [3], 0, 0, []⟩,
  ⟨(some 43), .idxS 3 (t_ 41) (t_ 42), (some (35, true)), [41, 42, 35], 11, [9, 10, 3], 0, 0, []⟩,
  ⟨(some 44), .loadN 3 (t_ 43), (some (35, true)), [43, 35], 12, [11, 3], 0, 0, []⟩,
  ⟨(some 45), .callv (t_ 36) [(t_ 40), (t_ 44)], (some (35, true)), [36, 40, 44, 35], 13, [4, 8, 12, 3, 3], 0, 0, []⟩,
  ⟨(some 46), .bin .lss (t_ 45) (k_ 0), (some (35, true)), [45, 35], 14, [13, 3], 0, 0, []⟩,
  ⟨(some 47), .pick (t_ 35) (t_ 46) (.const (.bool false)), none, [35, 46], 15, [3, 14], 0, 0, []⟩]
def c194_3b : List SOper := []
def c194_4 : List SOper := [o_ 48 (.mov (t_ 12)),
  o_ 49 (.bin .add (t_ 48) (k_ 1)),
  o_ 12 (.mov (t_ 49))]
def c194_5 : SCode := (.seq (.seq (.dreg [0, 1, 4, 12, 13, 47] c194_3 c194_3b) (.cond (t_ 47) .skip (.exit 0))) (.block 1 (.reg [0, 1, 4, 12, 13] c194_4)))
def c194_6 : List SOper := [⟨(some 50), .mov (t_ 12), none, [12], 0, [], 0, 0, []⟩,
  ⟨(some 51), .mov (t_ 13), none, [13], 1, [], 0, 0, []⟩,
  ⟨(some 52), .bin .leq (t_ 50) (t_ 51), none, [50, 51], 2, [0, 1], 0, 0, []⟩,
  ⟨(some 53), .mov (t_ 52), none, [52], 3, [2], 0, 0, []⟩,
  ⟨(some 54), .mov (t_ 4), (some (53, true)), [4, 53], 4, [3], 0, 0, []⟩,
  ⟨(some 55), .mov (t_ 0), (some (53, true)), [0, 53], 5, [3], 0, 0, []⟩,
  ⟨(some 56), .mov (t_ 13), (some (53, true)), [13, 53], 6, [3], 0, 0, []⟩,
  ⟨(some 57), .idxS 3 (t_ 55) (t_ 56), (some (53, true)), [55, 56, 53], 7, [5, 6, 3], 0, 0, []⟩,
  ⟨(some 58), .loadN 3 (t_ 57), (some (53, true)), [57, 53], 8, [7, 3], 0, 0, []⟩,
  ⟨(some 59), .mov (t_ 0), (some (53, true)), [0, 53], 9, [3], 0, 0, []⟩,
  ⟨(some 60), .mov (t_ 1), (some (53, true)), [1, 53], 10, [3], 0, 0, []⟩,
  ⟨(some 61), .idxS 3 (t_ 59) (t_ 60), (some (53, true)), [59, 60, 53], 11, [9, 10, 3], 0, 0, []⟩,
  ⟨(some 62), .loadN 3 (t_ 61), (some (53, true)), [61, 53], 12, [11, 3], 0, 0, []⟩,
  ⟨(some 63), .callv (t_ 54) [(t_ 58), (t_ 62)], (some (53, true)), [54, 58, 62, 53], 13, [4, 8, 12, 3, 3], 0, 0, []⟩,
  ⟨(some 64), .bin .lss (t_ 63) (k_ 0), (some (53, true)), [63, 53], 14, [13, 3], 0, 0, []⟩,
  ⟨(some 65), .un .not (t_ 64), (some (53, true)), [64, 53], 15, [14, 3], 0, 0, []⟩,
  ⟨(some 66), .pick (t_ 53) (t_ 65) (.const (.bool false)), none, [53, 65], 16, [3, 15], 0, 0, []⟩]
def c194_6b : List SOper := []
def c194_7 : List SOper := [o_ 67 (.mov (t_ 13)),
  o_ 68 (.bin .sub (t_ 67) (k_ 1)),
  o_ 13 (.mov (t_ 68))]
def c194_8 : SCode := (.seq (.seq (.dreg [0, 1, 4, 12, 13, 66] c194_6 c194_6b) (.cond (t_ 66) .skip (.exit 2))) (.block 3 (.reg [0, 1, 4, 12, 13] c194_7)))
def c194_9 : List SOper := [o_ 69 (.mov (t_ 12)),
  o_ 70 (.mov (t_ 13)),
  o_ 71 (.bin .gtr (t_ 69) (t_ 70))]
def c194_10 : List SOper := [⟨(some 72), .mov (t_ 0), none, [0], 0, [], 0, 0, []⟩,
  ⟨(some 73), .mov (t_ 13), none, [13], 1, [], 0, 0, []⟩,
  ⟨(some 74), .mov (t_ 0), none, [0], 2, [], 0, 0, []⟩,
  ⟨(some 75), .mov (t_ 1), none, [1], 3, [], 0, 0, []⟩,
  ⟨(some 76), .mov (t_ 0), none, [0], 4, [], 0, 0, []⟩,
  ⟨(some 77), .mov (t_ 1), none, [1], 5, [], 0, 0, []⟩,
  ⟨(some 78), .idxS 3 (t_ 76) (t_ 77), none, [76, 77], 6, [4, 5], 0, 0, []⟩,
  ⟨(some 79), .loadN 3 (t_ 78), none, [78], 7, [6], 0, 0, []⟩,
  ⟨(some 80), .mov (t_ 0), none, [0], 8, [], 0, 0, []⟩,
  ⟨(some 81), .mov (t_ 13), none, [13], 9, [], 0, 0, []⟩,
  ⟨(some 82), .idxS 3 (t_ 80) (t_ 81), none, [80, 81], 10, [8, 9], 0, 0, []⟩,
  ⟨(some 83), .loadN 3 (t_ 82), none, [82], 11, [10], 0, 0, []⟩,
  ⟨(some 84), .idxS 3 (t_ 72) (t_ 73), none, [72, 73], 12, [0, 1, 0, 1, 4, 5, 6, 7, 11], 0, 0, []⟩,
  ⟨(some 85), .idxS 3 (t_ 74) (t_ 75), none, [74, 75], 14, [2, 3, 0, 1, 2, 3, 4, 5, 6, 7, 8, 9, 10, 11, 12, 13], 0, 0, []⟩]
def c194_10b : List SOper := [⟨none, .storeN 3 (t_ 84) (t_ 79), none, [84, 79], 13, [12, 7, 0, 1, 4, 5, 6, 7, 11], 0, 0, [7, 11]⟩,
  ⟨none, .storeN 3 (t_ 85) (t_ 83), none, [85, 83], 15, [14, 11, 13, 0, 1, 2, 3, 4, 5, 6, 7, 8, 9, 10, 11, 12, 13], 0, 0, [7, 11]⟩]
def c194_11 : List SOper := [o_ 86 (.mov (t_ 13)),
  o_ 10 (.mov (t_ 86)),
  o_ 11 (.mov (.const (.bool true)))]
def c194_12 : List SOper := [⟨(some 87), .mov (t_ 0), none, [0], 0, [], 0, 0, []⟩,
  ⟨(some 88), .mov (t_ 12), none, [12], 1, [], 0, 0, []⟩,
  ⟨(some 89), .mov (t_ 0), none, [0], 2, [], 0, 0, []⟩,
  ⟨(some 90), .mov (t_ 13), none, [13], 3, [], 0, 0, []⟩,
  ⟨(some 91), .mov (t_ 0), none, [0], 4, [], 0, 0, []⟩,
  ⟨(some 92), .mov (t_ 13), none, [13], 5, [], 0, 0, []⟩,
  ⟨(some 93), .idxS 3 (t_ 91) (t_ 92), none, [91, 92], 6, [4, 5], 0, 0, []⟩,
  ⟨(some 94), .loadN 3 (t_ 93), none, [93], 7, [6], 0, 0, []⟩,
  ⟨(some 95), .mov (t_ 0), none, [0], 8, [], 0, 0, []⟩,
  ⟨(some 96), .mov (t_ 12), none, [12], 9, [], 0, 0, []⟩,
  ⟨(some 97), .idxS 3 (t_ 95) (t_ 96), none, [95, 96], 10, [8, 9], 0, 0, []⟩,
  ⟨(some 98), .loadN 3 (t_ 97), none, [97], 11, [10], 0, 0, []⟩,
  ⟨(some 99), .idxS 3 (t_ 87) (t_ 88), none, [87, 88], 12, [0, 1, 0, 1, 4, 5, 6, 7, 11], 0, 0, []⟩,
  ⟨(some 100), .idxS 3 (t_ 89) (t_ 90), none, [89, 90], 14, [2, 3, 0, 1, 2, 3, 4, 5, 6, 7, 8, 9, 10, 11, 12, 13], 0, 0, []⟩]
def c194_12b : List SOper := [⟨none, .storeN 3 (t_ 99) (t_ 94), none, [99, 94], 13, [12, 7, 0, 1, 4, 5, 6, 7, 11], 0, 0, [7, 11]⟩,
  ⟨none, .storeN 3 (t_ 100) (t_ 98), none, [100, 98], 15, [14, 11, 13, 0, 1, 2, 3, 4, 5, 6, 7, 8, 9, 10, 11, 12, 13], 0, 0, [7, 11]⟩]
def c194_13 : List SOper := [o_ 101 (.mov (t_ 12)),
  o_ 102 (.bin .add (t_ 101) (k_ 1)),
  o_ 12 (.mov (t_ 102))]
def c194_14 : List SOper := [o_ 103 (.mov (t_ 13)),
  o_ 104 (.bin .sub (t_ 103) (k_ 1)),
  o_ 13 (.mov (t_ 104))]
def c194_15 : List SOper := [⟨(some 105), .mov (t_ 12), none, [12], 0, [], 0, 0, []⟩,
  ⟨(some 106), .mov (t_ 13), none, [13], 1, [], 0, 0, []⟩,
  ⟨(some 107), .bin .leq (t_ 105) (t_ 106), none, [105, 106], 2, [0, 1], 0, 0, []⟩,
  ⟨(some 108), .mov (t_ 107), none, [107], 3, [2], 0, 0, []⟩,
  ⟨(some 109), .mov (t_ 4), (some (108, true)), [4, 108], 4, [3], 0, 0, []⟩,
  ⟨(some 110), .mov (t_ 0), (some (108, true)), [0, 108], 5, [3], 0, 0, []⟩,
  ⟨(some 111), .mov (t_ 12), (some (108, true)), [12, 108], 6, [3], 0, 0, []⟩,
  ⟨(some 112), .idxS 3 (t_ 110) (t_ 111), (some (108, true)), [110, 111, 108], 7, [5, 6, 3], 0, 0, []⟩,
  ⟨(some 113), .loadN 3 (t_ 112), (some (108, true)), [112, 108], 8, [7, 3], 0, 0, []⟩,
  ⟨(some 114), .mov (t_ 0), (some (108, true)), [0, 108], 9, [3], 0, 0, []⟩,
  ⟨(some 115), .mov (t_ 1), (some (108, true)), [1, 108], 10, [3], 0, 0, []⟩,
  ⟨(some 116), .idxS 3 (t_ 114) (t_ 115), (some (108, true)), [114, 115, 108], 11, [9, 10, 3], 0, 0, []⟩,
  ⟨(some 117), .loadN 3 (t_ 116), (some (108, true)), [116, 108], 12, [11, 3], 0, 0, []⟩,
  ⟨(some 118), .callv (t_ 109) [(t_ 113), (t_ 117)], (some (108, true)), [109, 113, 117, 108], 13, [4, 8, 12, 3, 3], 0, 0, []⟩,
  ⟨(some 119), .bin .lss (t_ 118) (k_ 0), (some (108, true)), [118, 108], 14, [13, 3], 0, 0, []⟩,
  ⟨(some 120), .pick (t_ 108) (t_ 119) (.const (.bool false)), none, [108, 119], 15, [3, 14], 0, 0, []⟩]
def c194_15b : List SOper := []
def c194_16 : List SOper := [o_ 121 (.mov (t_ 12)),
  o_ 122 (.bin .add (t_ 121) (k_ 1)),
  o_ 12 (.mov (t_ 122))]
def c194_17 : SCode := (.seq (.seq (.dreg [0, 1, 4, 12, 13, 120] c194_15 c194_15b) (.cond (t_ 120) .skip (.exit 6))) (.block 7 (.reg [0, 1, 4, 12, 13] c194_16)))
def c194_18 : List SOper := [⟨(some 123), .mov (t_ 12), none, [12], 0, [], 0, 0, []⟩,
  ⟨(some 124), .mov (t_ 13), none, [13], 1, [], 0, 0, []⟩,
  ⟨(some 125), .bin .leq (t_ 123) (t_ 124), none, [123, 124], 2, [0, 1], 0, 0, []⟩,
  ⟨(some 126), .mov (t_ 125), none, [125], 3, [2], 0, 0, []⟩,
  ⟨(some 127), .mov (t_ 4), (some (126, true)), [4, 126], 4, [3], 0, 0, []⟩,
  ⟨(some 128), .mov (t_ 0), (some (126, true)), [0, 126], 5, [3], 0, 0, []⟩,
  ⟨(some 129), .mov (t_ 13), (some (126, true)), [13, 126], 6, [3], 0, 0, []⟩,
  ⟨(some 130), .idxS 3 (t_ 128) (t_ 129), (some (126, true)), [128, 129, 126], 7, [5, 6, 3], 0, 0, []⟩,
  ⟨(some 131), .loadN 3 (t_ 130), (some (126, true)), [130, 126], 8, [7, 3], 0, 0, []⟩,
  ⟨(some 132), .mov (t_ 0), (some (126, true)), [0, 126], 9, [3], 0, 0, []⟩,
  ⟨(some 133), .mov (t_ 1), (some (126, true)), [1, 126], 10, [3], 0, 0, []⟩,
  ⟨(some 134), .idxS 3 (t_ 132) (t_ 133), (some (126, true)), [132, 133, 126], 11, [9, 10, 3], 0, 0, []⟩,
  ⟨(some 135), .loadN 3 (t_ 134), (some (126, true)), [134, 126], 12, [11, 3], 0, 0, []⟩,
  ⟨(some 136), .callv (t_ 127) [(t_ 131), (t_ 135)], (some (126, true)), [127, 131, 135, 126], 13, [4, 8, 12, 3, 3], 0, 0, []⟩,
  ⟨(some 137), .bin .lss (t_ 136) (k_ 0), (some (126, true)), [136, 126], 14, [13, 3], 0, 0, []⟩,
  ⟨(some 138), .un .not (t_ 137), (some (126, true)), [137, 126], 15, [14, 3], 0, 0, []⟩,
  ⟨(some 139), .pick (t_ 126) (t_ 138) (.const (.bool false)), none, [126, 138], 16, [3, 15], 0, 0, []⟩]
def c194_18b : List SOper := []
def c194_19 : List SOper := [o_ 140 (.mov (t_ 13)),
  o_ 141 (.bin .sub (t_ 140) (k_ 1)),
  o_ 13 (.mov (t_ 141))]
def c194_20 : SCode := (.seq (.seq (.dreg [0, 1, 4, 12, 13, 139] c194_18 c194_18b) (.cond (t_ 139) .skip (.exit 8))) (.block 9 (.reg [0, 1, 4, 12, 13] c194_19)))
def c194_21 : List SOper := [o_ 142 (.mov (t_ 12)),
  o_ 143 (.mov (t_ 13)),
  o_ 144 (.bin .gtr (t_ 142) (t_ 143))]
def c194_22 : List SOper := [⟨(some 145), .mov (t_ 0), none, [0], 0, [], 0, 0, []⟩,
  ⟨(some 146), .mov (t_ 12), none, [12], 1, [], 0, 0, []⟩,
  ⟨(some 147), .mov (t_ 0), none, [0], 2, [], 0, 0, []⟩,
  ⟨(some 148), .mov (t_ 13), none, [13], 3, [], 0, 0, []⟩,
  ⟨(some 149), .mov (t_ 0), none, [0], 4, [], 0, 0, []⟩,
  ⟨(some 150), .mov (t_ 13), none, [13], 5, [], 0, 0, []⟩,
  ⟨(some 151), .idxS 3 (t_ 149) (t_ 150), none, [149, 150], 6, [4, 5], 0, 0, []⟩,
  ⟨(some 152), .loadN 3 (t_ 151), none, [151], 7, [6], 0, 0, []⟩,
  ⟨(some 153), .mov (t_ 0), none, [0], 8, [], 0, 0, []⟩,
  ⟨(some 154), .mov (t_ 12), none, [12], 9, [], 0, 0, []⟩,
  ⟨(some 155), .idxS 3 (t_ 153) (t_ 154), none, [153, 154], 10, [8, 9], 0, 0, []⟩,
  ⟨(some 156), .loadN 3 (t_ 155), none, [155], 11, [10], 0, 0, []⟩,
  ⟨(some 157), .idxS 3 (t_ 145) (t_ 146), none, [145, 146], 12, [0, 1, 0, 1, 4, 5, 6, 7, 11], 0, 0, []⟩,
  ⟨(some 158), .idxS 3 (t_ 147) (t_ 148), none, [147, 148], 14, [2, 3, 0, 1, 2, 3, 4, 5, 6, 7, 8, 9, 10, 11, 12, 13], 0, 0, []⟩]
def c194_22b : List SOper := [⟨none, .storeN 3 (t_ 157) (t_ 152), none, [157, 152], 13, [12, 7, 0, 1, 4, 5, 6, 7, 11], 0, 0, [7, 11]⟩,
  ⟨none, .storeN 3 (t_ 158) (t_ 156), none, [158, 156], 15, [14, 11, 13, 0, 1, 2, 3, 4, 5, 6, 7, 8, 9, 10, 11, 12, 13], 0, 0, [7, 11]⟩]
def c194_23 : List SOper := [o_ 159 (.mov (t_ 12)),
  o_ 160 (.bin .add (t_ 159) (k_ 1)),
  o_ 12 (.mov (t_ 160))]
def c194_24 : List SOper := [o_ 161 (.mov (t_ 13)),
  o_ 162 (.bin .sub (t_ 161) (k_ 1)),
  o_ 13 (.mov (t_ 162))]
def c194_25 : SCode := (.block 5 (.seq (.block 6 (.loop [0, 1, 4, 12, 13] c194_17)) (.seq (.block 8 (.loop [0, 1, 4, 12, 13] c194_20)) (.seq (.seq (.reg [0, 1, 4, 12, 13, 144] c194_21) (.cond (t_ 144) (.exit 4) .skip)) (.seq (.dreg [0, 1, 4, 12, 13] c194_22 c194_22b) (.seq (.reg [0, 1, 4, 12, 13] c194_23) (.reg [0, 1, 4, 12, 13] c194_24)))))))
def c194_26 : List SOper := [⟨(some 163), .mov (t_ 0), none, [0], 0, [], 0, 0, []⟩,
  ⟨(some 164), .mov (t_ 13), none, [13], 1, [], 0, 0, []⟩,
  ⟨(some 165), .mov (t_ 0), none, [0], 2, [], 0, 0, []⟩,
  ⟨(some 166), .mov (t_ 1), none, [1], 3, [], 0, 0, []⟩,
  ⟨(some 167), .mov (t_ 0), none, [0], 4, [], 0, 0, []⟩,
  ⟨(some 168), .mov (t_ 1), none, [1], 5, [], 0, 0, []⟩,
  ⟨(some 169), .idxS 3 (t_ 167) (t_ 168), none, [167, 168], 6, [4, 5], 0, 0, []⟩,
  ⟨(some 170), .loadN 3 (t_ 169), none, [169], 7, [6], 0, 0, []⟩,
  ⟨(some 171), .mov (t_ 0), none, [0], 8, [], 0, 0, []⟩,
  ⟨(some 172), .mov (t_ 13), none, [13], 9, [], 0, 0, []⟩,
  ⟨(some 173), .idxS 3 (t_ 171) (t_ 172), none, [171, 172], 10, [8, 9], 0, 0, []⟩,
  ⟨(some 174), .loadN 3 (t_ 173), none, [173], 11, [10], 0, 0, []⟩,
  ⟨(some 175), .idxS 3 (t_ 163) (t_ 164), none, [163, 164], 12, [0, 1, 0, 1, 4, 5, 6, 7, 11], 0, 0, []⟩,
  ⟨(some 176), .idxS 3 (t_ 165) (t_ 166), none, [165, 166], 14, [2, 3, 0, 1, 2, 3, 4, 5, 6, 7, 8, 9, 10, 11, 12, 13], 0, 0, []⟩]
def c194_26b : List SOper := [⟨none, .storeN 3 (t_ 175) (t_ 170), none, [175, 170], 13, [12, 7, 0, 1, 4, 5, 6, 7, 11], 0, 0, [7, 11]⟩,
  ⟨none, .storeN 3 (t_ 176) (t_ 174), none, [176, 174], 15, [14, 11, 13, 0, 1, 2, 3, 4, 5, 6, 7, 8, 9, 10, 11, 12, 13], 0, 0, [7, 11]⟩]
def c194_27 : List SOper := [o_ 177 (.mov (t_ 13)),
  o_ 10 (.mov (t_ 177)),
  o_ 11 (.mov (.const (.bool false)))]
def c194_body : SCode := (.seq (.reg [0, 1, 2, 3, 4] c194_0) (.seq (.dreg [0, 1, 2, 4] c194_1 c194_1b) (.seq (.reg [0, 1, 4, 12, 13] c194_2) (.seq (.block 0 (.loop [0, 1, 4, 12, 13] c194_5)) (.seq (.block 2 (.loop [0, 1, 4, 12, 13] c194_8)) (.seq (.seq (.reg [0, 1, 4, 12, 13, 71] c194_9) (.cond (t_ 71) (.seq (.dreg [13] c194_10 c194_10b) (.seq (.reg [10, 11] c194_11) .ret)) .skip)) (.seq (.dreg [0, 1, 4, 12, 13] c194_12 c194_12b) (.seq (.reg [0, 1, 4, 12, 13] c194_13) (.seq (.reg [0, 1, 4, 12, 13] c194_14) (.seq (.block 4 (.loop [0, 1, 4, 12, 13] c194_25)) (.seq (.dreg [13] c194_26 c194_26b) (.seq (.reg [10, 11] c194_27) .ret))))))))))))
def c194 : SFunc := ⟨5, 178, c194_body, [.tmp 10, .tmp 11]⟩
/- math/bits.Len32 -/
def c195_0 : List SOper := [o_ 2 (.mov (k_ 0))]
def c195_1 : List SOper := [o_ 3 (.mov (t_ 0)),
  o_ 4 (.bin .geq (t_ 3) (.const (.int .u32 (65536))))]
def c195_2 : List SOper := [o_ 5 (.mov (t_ 0)),
  o_ 6 (.bin .shr (t_ 5) (.const (.int .u64 (16)))),
  o_ 0 (.mov (t_ 6))]
def c195_3 : List SOper := [o_ 2 (.mov (k_ 16))]
def c195_4 : List SOper := [o_ 7 (.mov (t_ 0)),
  o_ 8 (.bin .geq (t_ 7) (.const (.int .u32 (256))))]
def c195_5 : List SOper := [o_ 9 (.mov (t_ 0)),
  o_ 10 (.bin .shr (t_ 9) (.const (.int .u64 (8)))),
  o_ 0 (.mov (t_ 10))]
def c195_6 : List SOper := [o_ 11 (.mov (t_ 2)),
  o_ 12 (.bin .add (t_ 11) (k_ 8)),
  o_ 2 (.mov (t_ 12))]
def c195_7 : List SOper := [o_ 13 (.mov (t_ 2)),
  o_ 14 (.mov (t_ 0)),
  o_ 15 (.conv .u8 (t_ 14)),
  o_ 16 (.idxT (.const (.string ⟨#[0, 1, 2, 2, 3, 3, 3, 3, 4, 4, 4, 4, 4, 4, 4, 4, 5, 5, 5, 5, 5, 5, 5, 5, 5, 5, 5, 5, 5, 5, 5, 5, 6, 6, 6, 6, 6, 6, 6, 6, 6, 6, 6, 6, 6, 6, 6, 6, 6, 6, 6, 6, 6, 6, 6, 6, 6, 6, 6, 6, 6, 6, 6, 6, 7, 7, 7, 7, 7, 7, 7, 7, 7, 7, 7, 7, 7, 7, 7, 7, 7, 7, 7, 7, 7, 7, 7, 7, 7, 7, 7, 7, 7, 7, 7, 7, 7, 7, 7, 7, 7, 7, 7, 7, 7, 7, 7, 7, 7, 7, 7, 7, 7, 7, 7, 7, 7, 7, 7, 7, 7, 7, 7, 7, 7, 7, 7, 7, 8, 8, 8, 8, 8, 8, 8, 8, 8, 8, 8, 8, 8, 8, 8, 8, 8, 8, 8, 8, 8, 8, 8, 8, 8, 8, 8, 8, 8, 8, 8, 8, 8, 8, 8, 8, 8, 8, 8, 8, 8, 8, 8, 8, 8, 8, 8, 8, 8, 8, 8, 8, 8, 8, 8, 8, 8, 8, 8, 8, 8, 8, 8, 8, 8, 8, 8, 8, 8, 8, 8, 8, 8, 8, 8, 8, 8, 8, 8, 8, 8, 8, 8, 8, 8, 8, 8, 8, 8, 8, 8, 8, 8, 8, 8, 8, 8, 8, 8, 8, 8, 8, 8, 8, 8, 8, 8, 8, 8, 8, 8, 8, 8, 8, 8, 8, 8, 8, 8, 8, 8, 8, 8, 8, 8, 8, 8, 8]⟩)) (t_ 15)),
  o_ 17 (.conv .i64 (t_ 16)),
  o_ 18 (.bin .add (t_ 13) (t_ 17)),
  o_ 2 (.mov (t_ 18))]
def c195_body : SCode := (.seq (.reg [0, 2] c195_0) (.seq (.seq (.reg [0, 2, 4] c195_1) (.cond (t_ 4) (.seq (.reg [0] c195_2) (.reg [0, 2] c195_3)) .skip)) (.seq (.seq (.reg [0, 2, 8] c195_4) (.cond (t_ 8) (.seq (.reg [0, 2] c195_5) (.reg [0, 2] c195_6)) .skip)) (.seq (.reg [2] c195_7) .ret))))
def c195 : SFunc := ⟨1, 19, c195_body, [.tmp 2]⟩
/- math/bits.Len64 -/
def c196_0 : List SOper := [o_ 2 (.mov (k_ 0))]
def c196_1 : List SOper := [o_ 3 (.mov (t_ 0)),
  o_ 4 (.bin .geq (t_ 3) (.const (.int .u64 (4294967296))))]
def c196_2 : List SOper := [o_ 5 (.mov (t_ 0)),
  o_ 6 (.bin .shr (t_ 5) (.const (.int .u64 (32)))),
  o_ 0 (.mov (t_ 6))]
def c196_3 : List SOper := [o_ 2 (.mov (k_ 32))]
def c196_4 : List SOper := [o_ 7 (.mov (t_ 0)),
  o_ 8 (.bin .geq (t_ 7) (.const (.int .u64 (65536))))]
def c196_5 : List SOper := [o_ 9 (.mov (t_ 0)),
  o_ 10 (.bin .shr (t_ 9) (.const (.int .u64 (16)))),
  o_ 0 (.mov (t_ 10))]
def c196_6 : List SOper := [o_ 11 (.mov (t_ 2)),
  o_ 12 (.bin .add (t_ 11) (k_ 16)),
  o_ 2 (.mov (t_ 12))]
def c196_7 : List SOper := [o_ 13 (.mov (t_ 0)),
  o_ 14 (.bin .geq (t_ 13) (.const (.int .u64 (256))))]
def c196_8 : List SOper := [o_ 15 (.mov (t_ 0)),
  o_ 16 (.bin .shr (t_ 15) (.const (.int .u64 (8)))),
  o_ 0 (.mov (t_ 16))]
def c196_9 : List SOper := [o_ 17 (.mov (t_ 2)),
  o_ 18 (.bin .add (t_ 17) (k_ 8)),
  o_ 2 (.mov (t_ 18))]
def c196_10 : List SOper := [o_ 19 (.mov (t_ 2)),
  o_ 20 (.mov (t_ 0)),
  o_ 21 (.conv .u8 (t_ 20)),
  o_ 22 (.idxT (.const (.string ⟨#[0, 1, 2, 2, 3, 3, 3, 3, 4, 4, 4, 4, 4, 4, 4, 4, 5, 5, 5, 5, 5, 5, 5, 5, 5, 5, 5, 5, 5, 5, 5, 5, 6, 6, 6, 6, 6, 6, 6, 6, 6, 6, 6, 6, 6, 6, 6, 6, 6, 6, 6, 6, 6, 6, 6, 6, 6, 6, 6, 6, 6, 6, 6, 6, 7, 7, 7, 7, 7, 7, 7, 7, 7, 7, 7, 7, 7, 7, 7, 7, 7, 7, 7, 7, 7, 7, 7, 7, 7, 7, 7, 7, 7, 7, 7, 7, 7, 7, 7, 7, 7, 7, 7, 7, 7, 7, 7, 7, 7, 7, 7, 7, 7, 7, 7, 7, 7, 7, 7, 7, 7, 7, 7, 7, 7, 7, 7, 7, 8, 8, 8, 8, 8, 8, 8, 8, 8, 8, 8, 8, 8, 8, 8, 8, 8, 8, 8, 8, 8, 8, 8, 8, 8, 8, 8, 8, 8, 8, 8, 8, 8, 8, 8, 8, 8, 8, 8, 8, 8, 8, 8, 8, 8, 8, 8, 8, 8, 8, 8, 8, 8, 8, 8, 8, 8, 8, 8, 8, 8, 8, 8, 8, 8, 8, 8, 8, 8, 8, 8, 8, 8, 8, 8, 8, 8, 8, 8, 8, 8, 8, 8, 8, 8, 8, 8, 8, 8, 8, 8, 8, 8, 8, 8, 8, 8, 8, 8, 8, 8, 8, 8, 8, 8, 8, 8, 8, 8, 8, 8, 8, 8, 8, 8, 8, 8, 8, 8, 8, 8, 8, 8, 8, 8, 8, 8, 8]⟩)) (t_ 21)),
  o_ 23 (.conv .i64 (t_ 22)),
  o_ 24 (.bin .add (t_ 19) (t_ 23)),
  o_ 2 (.mov (t_ 24))]
def c196_body : SCode := (.seq (.reg [0, 2] c196_0) (.seq (.seq (.reg [0, 2, 4] c196_1) (.cond (t_ 4) (.seq (.reg [0] c196_2) (.reg [0, 2] c196_3)) .skip)) (.seq (.seq (.reg [0, 2, 8] c196_4) (.cond (t_ 8) (.seq (.reg [0, 2] c196_5) (.reg [0, 2] c196_6)) .skip)) (.seq (.seq (.reg [0, 2, 14] c196_7) (.cond (t_ 14) (.seq (.reg [0, 2] c196_8) (.reg [0, 2] c196_9)) .skip)) (.seq (.reg [2] c196_10) .ret)))))
def c196 : SFunc := ⟨1, 25, c196_body, [.tmp 2]⟩
/- cmp.Compare[int] -/
def c197_0 : List SOper := [o_ 4 (.mov (k_ 0))]
def c197_1 : List SOper := [o_ 7 (.mov (t_ 0)),
  o_ 8 (.call 229 [(t_ 7)]),
  o_ 5 (.mov (t_ 8))]
def c197_2 : List SOper := [o_ 9 (.mov (t_ 1)),
  o_ 10 (.call 229 [(t_ 9)]),
  o_ 6 (.mov (t_ 10))]
def c197_3 : List SOper := [o_ 11 (.mov (t_ 5))]
def c197_4 : List SOper := [o_ 12 (.mov (t_ 6))]
def c197_5 : List SOper := [o_ 4 (.mov (k_ 0))]
def c197_6 : List SOper := [o_ 4 (.mov (k_ (-1)))]
def c197_7 : List SOper := [o_ 13 (.mov (t_ 6))]
def c197_8 : List SOper := [o_ 4 (.mov (k_ 1))]
def c197_9 : List SOper := [o_ 14 (.mov (t_ 0)),
  o_ 15 (.mov (t_ 1)),
  o_ 16 (.bin .lss (t_ 14) (t_ 15))]
def c197_10 : List SOper := [o_ 4 (.mov (k_ (-1)))]
def c197_11 : List SOper := [o_ 17 (.mov (t_ 0)),
  o_ 18 (.mov (t_ 1)),
  o_ 19 (.bin .gtr (t_ 17) (t_ 18))]
def c197_12 : List SOper := [o_ 4 (.mov (k_ 1))]
def c197_13 : List SOper := [o_ 4 (.mov (k_ 0))]
def c197_body : SCode := (.seq (.reg [0, 1] c197_0) (.seq (.reg [0, 1, 5] c197_1) (.seq (.reg [0, 1, 5, 6] c197_2) (.seq (.seq (.reg [0, 1, 6, 11] c197_3) (.cond (t_ 11) (.seq (.seq (.reg [12] c197_4) (.cond (t_ 12) (.seq (.reg [4] c197_5) .ret) .skip)) (.seq (.reg [4] c197_6) .ret)) .skip)) (.seq (.seq (.reg [0, 1, 13] c197_7) (.cond (t_ 13) (.seq (.reg [4] c197_8) .ret) .skip)) (.seq (.seq (.reg [0, 1, 16] c197_9) (.cond (t_ 16) (.seq (.reg [4] c197_10) .ret) .skip)) (.seq (.seq (.reg [19] c197_11) (.cond (t_ 19) (.seq (.reg [4] c197_12) .ret) .skip)) (.seq (.reg [4] c197_13) .ret))))))))
def c197 : SFunc := ⟨2, 20, c197_body, [.tmp 4]⟩
/- cmp.Compare[int64] -/
def c198_0 : List SOper := [o_ 4 (.mov (k_ 0))]
def c198_1 : List SOper := [o_ 7 (.mov (t_ 0)),
  o_ 8 (.call 230 [(t_ 7)]),
  o_ 5 (.mov (t_ 8))]
def c198_2 : List SOper := [o_ 9 (.mov (t_ 1)),
  o_ 10 (.call 230 [(t_ 9)]),
  o_ 6 (.mov (t_ 10))]
def c198_3 : List SOper := [o_ 11 (.mov (t_ 5))]
def c198_4 : List SOper := [o_ 12 (.mov (t_ 6))]
def c198_5 : List SOper := [o_ 4 (.mov (k_ 0))]
def c198_6 : List SOper := [o_ 4 (.mov (k_ (-1)))]
def c198_7 : List SOper := [o_ 13 (.mov (t_ 6))]
def c198_8 : List SOper := [o_ 4 (.mov (k_ 1))]
def c198_9 : List SOper := [o_ 14 (.mov (t_ 0)),
  o_ 15 (.mov (t_ 1)),
  o_ 16 (.bin .lss (t_ 14) (t_ 15))]
def c198_10 : List SOper := [o_ 4 (.mov (k_ (-1)))]
def c198_11 : List SOper := [o_ 17 (.mov (t_ 0)),
  o_ 18 (.mov (t_ 1)),
  o_ 19 (.bin .gtr (t_ 17) (t_ 18))]
def c198_12 : List SOper := [o_ 4 (.mov (k_ 1))]
def c198_13 : List SOper := [o_ 4 (.mov (k_ 0))]
def c198_body : SCode := (.seq (.reg [0, 1] c198_0) (.seq (.reg [0, 1, 5] c198_1) (.seq (.reg [0, 1, 5, 6] c198_2) (.seq (.seq (.reg [0, 1, 6, 11] c198_3) (.cond (t_ 11) (.seq (.seq (.reg [12] c198_4) (.cond (t_ 12) (.seq (.reg [4] c198_5) .ret) .skip)) (.seq (.reg [4] c198_6) .ret)) .skip)) (.seq (.seq (.reg [0, 1, 13] c198_7) (.cond (t_ 13) (.seq (.reg [4] c198_8) .ret) .skip)) (.seq (.seq (.reg [0, 1, 16] c198_9) (.cond (t_ 16) (.seq (.reg [4] c198_10) .ret) .skip)) (.seq (.seq (.reg [19] c198_11) (.cond (t_ 19) (.seq (.reg [4] c198_12) .ret) .skip)) (.seq (.reg [4] c198_13) .ret))))))))
def c198 : SFunc := ⟨2, 20, c198_body, [.tmp 4]⟩
/- slices.Equal[[]jacquard/api.Ev,jacquard/api.Ev] -/
def c199_0 : List SOper := [o_ 4 (.mov (.const (.bool false)))]
def c199_1 : List SOper := [o_ 6 (.mov (t_ 0)),
  o_ 7 (.lenS (t_ 6)),
  o_ 8 (.mov (t_ 1)),
  o_ 9 (.lenS (t_ 8)),
  o_ 10 (.bin .neq (t_ 7) (t_ 9))]
def c199_2 : List SOper := [o_ 4 (.mov (.const (.bool false)))]
def c199_3 : List SOper := [o_ 11 (.mov (t_ 0)),
  o_ 12 (.lenS (t_ 11)),
  o_ 13 (.mov (k_ 0))]
def c199_4 : List SOper := [o_ 14 (.bin .lss (t_ 13) (t_ 12))]
def c199_5 : List SOper := [o_ 15 (.mov (t_ 13)),
  o_ 5 (.mov (t_ 15))]
def c199_6 : List SOper := [⟨(some 16), .mov (t_ 0), none, [0], 0, [], 0, 0, []⟩,
  ⟨(some 17), .mov (t_ 5), none, [5], 1, [], 0, 0, []⟩,
  ⟨(some 18), .idxS 6 (t_ 16) (t_ 17), none, [16, 17], 2, [0, 1], 0, 0, []⟩,
  ⟨(some 19), .loadN 6 (t_ 18), none, [18], 3, [2], 0, 0, []⟩,
  ⟨(some 20), .mov (t_ 1), none, [1], 4, [], 0, 0, []⟩,
  ⟨(some 21), .mov (t_ 5), none, [5], 5, [], 0, 0, []⟩,
  ⟨(some 22), .idxS 6 (t_ 20) (t_ 21), none, [20, 21], 6, [4, 5], 0, 0, []⟩,
  ⟨(some 23), .loadN 6 (t_ 22), none, [22], 7, [6], 0, 0, []⟩,
  ⟨(some 24), .eqN true [0, 0, 0, 0, 0, 0] (t_ 19) (t_ 23), none, [19, 23], 8, [3, 7], 0, 0, []⟩]
def c199_7 : List SOper := [o_ 4 (.mov (.const (.bool false)))]
def c199_8 : List SOper := [o_ 25 (.bin .add (t_ 13) (k_ 1)),
  o_ 13 (.mov (t_ 25))]
def c199_9 : SCode := (.seq (.reg [0, 1, 12, 13, 14] c199_4) (.seq (.cond (t_ 14) .skip (.exit 0)) (.seq (.block 1 (.seq (.reg [0, 1, 5, 12, 13] c199_5) (.seq (.qreg [0, 1, 12, 13, 24] c199_6) (.cond (t_ 24) (.seq (.reg [4] c199_7) .ret) .skip)))) (.reg [0, 1, 12, 13] c199_8))))
def c199_10 : List SOper := [o_ 4 (.mov (.const (.bool true)))]
def c199_body : SCode := (.seq (.reg [0, 1] c199_0) (.seq (.seq (.reg [0, 1, 10] c199_1) (.cond (t_ 10) (.seq (.reg [4] c199_2) .ret) .skip)) (.seq (.seq (.reg [0, 1, 12, 13] c199_3) (.block 0 (.loop [0, 1, 12, 13] c199_9))) (.seq (.reg [4] c199_10) .ret))))
def c199 : SFunc := ⟨2, 26, c199_body, [.tmp 4]⟩
/- (jacquard/rel.Rel).Closure -/
def c57_0 : List SOper := [o_ 1 (.box (t_ 0)),
  o_ 2 (.alloc [(.int .i64 (0)), (.int .u64 (0)), (.int .u64 (0)), (.int .u64 (0)), (.int .u64 (0)), (.int .u64 (0)), (.int .u64 (0)), (.int .u64 (0)), (.int .u64 (0)), (.int .u64 (0)), (.int .u64 (0)), (.int .u64 (0)), (.int .u64 (0)), (.int .u64 (0)), (.int .u64 (0)), (.int .u64 (0)), (.int .u64 (0)), (.int .u64 (0)), (.int .u64 (0)), (.int .u64 (0)), (.int .u64 (0)), (.int .u64 (0)), (.int .u64 (0)), (.int .u64 (0)), (.int .u64 (0)), (.int .u64 (0)), (.int .u64 (0)), (.int .u64 (0)), (.int .u64 (0)), (.int .u64 (0)), (.int .u64 (0)), (.int .u64 (0)), (.int .u64 (0)), (.int .u64 (0)), (.int .u64 (0)), (.int .u64 (0)), (.int .u64 (0)), (.int .u64 (0)), (.int .u64 (0)), (.int .u64 (0)), (.int .u64 (0)), (.int .u64 (0)), (.int .u64 (0)), (.int .u64 (0)), (.int .u64 (0)), (.int .u64 (0)), (.int .u64 (0)), (.int .u64 (0)), (.int .u64 (0)), (.int .u64 (0)), (.int .u64 (0)), (.int .u64 (0)), (.int .u64 (0)), (.int .u64 (0)), (.int .u64 (0)), (.int .u64 (0)), (.int .u64 (0)), (.int .u64 (0)), (.int .u64 (0)), (.int .u64 (0)), (.int .u64 (0)), (.int .u64 (0)), (.int .u64 (0)), (.int .u64 (0)), (.int .u64 (0))])]
def c57_1 : List SOper := [o_ 5 (.fld 0 (t_ 1)),
  o_ 6 (.load1 (t_ 5)),
  o_ 7 (.mov (k_ 0))]
def c57_2 : List SOper := [o_ 8 (.bin .lss (t_ 7) (t_ 6))]
def c57_3 : List SOper := [o_ 9 (.mov (t_ 7)),
  o_ 3 (.mov (t_ 9))]
def c57_4 : List SOper := [o_ 10 (.fld 0 (t_ 1)),
  o_ 11 (.load1 (t_ 10)),
  o_ 12 (.mov (k_ 0))]
def c57_5 : List SOper := [o_ 13 (.bin .lss (t_ 12) (t_ 11))]
def c57_6 : List SOper := [o_ 14 (.mov (t_ 12)),
  o_ 4 (.mov (t_ 14))]
def c57_7 : List SOper := [o_ 15 (.mov (t_ 4)),
  o_ 16 (.fld 1 (t_ 1)),
  o_ 17 (.idxA 64 1 (t_ 16) (t_ 15)),
  o_ 18 (.load1 (t_ 17)),
  o_ 19 (.mov (t_ 3)),
  o_ 20 (.call 58 [(t_ 18), (t_ 19)])]
def c57_8 : List SOper := [⟨(some 21), .mov (t_ 4), none, [4], 0, [], 0, 0, []⟩,
  ⟨(some 22), .fld 1 (t_ 1), none, [1], 1, [], 0, 0, []⟩,
  ⟨(some 23), .idxA 64 1 (t_ 22) (t_ 21), none, [22, 21], 2, [1, 0], 0, 0, []⟩,
  ⟨(some 24), .load1 (t_ 23), none, [23], 3, [2], 0, 0, []⟩,
  ⟨(some 25), .mov (t_ 3), none, [3], 4, [], 0, 0, []⟩,
  ⟨(some 26), .fld 1 (t_ 1), none, [1], 5, [], 0, 0, []⟩,
  ⟨(some 27), .idxA 64 1 (t_ 26) (t_ 25), none, [26, 25], 6, [5, 4], 0, 0, []⟩,
  ⟨(some 28), .load1 (t_ 27), none, [27], 7, [6], 0, 0, []⟩,
  ⟨(some 29), .bin .or (t_ 24) (t_ 28), none, [24, 28], 8, [3, 7], 0, 0, []⟩,
  ⟨(some 30), .fld 1 (t_ 1), none, [1], 9, [], 0, 0, []⟩,
  ⟨(some 31), .idxA 64 1 (t_ 30) (t_ 21), none, [30, 21], 10, [9, 0, 0, 1, 2, 3, 4, 5, 6, 7, 8], 0, 0, []⟩]
def c57_8b : List SOper := [⟨none, .store1 (t_ 31) (t_ 29), none, [31, 29], 11, [10, 8, 0, 1, 2, 3, 4, 5, 6, 7, 8], 0, 0, [3, 7]⟩]
def c57_9 : List SOper := [o_ 32 (.bin .add (t_ 12) (k_ 1)),
  o_ 12 (.mov (t_ 32))]
def c57_10 : SCode := (.seq (.reg [1, 2, 3, 6, 7, 11, 12, 13] c57_5) (.seq (.cond (t_ 13) .skip (.exit 2)) (.seq (.block 3 (.seq (.reg [1, 2, 3, 4, 6, 7, 11, 12] c57_6) (.seq (.reg [1, 2, 3, 4, 6, 7, 11, 12, 20] c57_7) (.cond (t_ 20) (.dreg [1, 2, 3, 6, 7, 11, 12] c57_8 c57_8b) .skip)))) (.reg [1, 2, 3, 6, 7, 11, 12] c57_9))))
def c57_11 : List SOper := [o_ 33 (.bin .add (t_ 7) (k_ 1)),
  o_ 7 (.mov (t_ 33))]
def c57_12 : SCode := (.seq (.reg [1, 2, 6, 7, 8] c57_2) (.seq (.cond (t_ 8) .skip (.exit 0)) (.seq (.block 1 (.seq (.reg [1, 2, 3, 6, 7] c57_3) (.seq (.reg [1, 2, 3, 6, 7, 11, 12] c57_4) (.block 2 (.loop [1, 2, 3, 6, 7, 11, 12] c57_10))))) (.reg [1, 2, 6, 7] c57_11))))
def c57_13 : List SOper := [o_ 34 (.loadN 65 (t_ 1)),
  n_ (.storeN 65 (t_ 2) (t_ 34))]
def c57_body : SCode := (.seq (.reg [1, 2] c57_0) (.seq (.seq (.reg [1, 2, 6, 7] c57_1) (.block 0 (.loop [1, 2, 6, 7] c57_12))) (.seq (.reg [2] c57_13) .ret)))
def c57 : SFunc := ⟨1, 35, c57_body, [.cellN 2 65]⟩
/- slices.AppendSeq[[]int,int] -/
def c200 : SFunc := ⟨1, 1, .native 4, []⟩
/- slices.pdqsortOrdered[int] -/
def c201_0 : List SOper := [o_ 8 (.mov (.const (.bool true)))]
def c201_1 : List SOper := [o_ 9 (.mov (.const (.bool true)))]
def c201_2 : List SOper := [o_ 19 (.mov (t_ 2)),
  o_ 20 (.mov (t_ 1)),
  o_ 21 (.bin .sub (t_ 19) (t_ 20)),
  o_ 10 (.mov (t_ 21))]
def c201_3 : List SOper := [o_ 22 (.mov (t_ 10)),
  o_ 23 (.bin .leq (t_ 22) (k_ 12))]
def c201_4 : List SOper := [o_ 24 (.mov (t_ 0)),
  o_ 25 (.mov (t_ 1)),
  o_ 26 (.mov (t_ 2)),
  o_ 27 (.call 231 [(t_ 24), (t_ 25), (t_ 26)])]
def c201_5 : List SOper := [o_ 28 (.mov (t_ 3)),
  o_ 29 (.bin .eql (t_ 28) (k_ 0))]
def c201_6 : List SOper := [o_ 30 (.mov (t_ 0)),
  o_ 31 (.mov (t_ 1)),
  o_ 32 (.mov (t_ 2)),
  o_ 33 (.call 232 [(t_ 30), (t_ 31), (t_ 32)])]
def c201_7 : List SOper := [o_ 34 (.mov (t_ 8)),
  o_ 35 (.un .not (t_ 34))]
def c201_8 : List SOper := [o_ 36 (.mov (t_ 0)),
  o_ 37 (.mov (t_ 1)),
  o_ 38 (.mov (t_ 2)),
  o_ 39 (.call 233 [(t_ 36), (t_ 37), (t_ 38)])]
def c201_9 : List SOper := [o_ 40 (.mov (t_ 3)),
  o_ 41 (.bin .sub (t_ 40) (k_ 1)),
  o_ 3 (.mov (t_ 41))]
def c201_10 : List SOper := [o_ 43 (.mov (t_ 0)),
  o_ 44 (.mov (t_ 1)),
  o_ 45 (.mov (t_ 2)),
  o_ 46 (.call 234 [(t_ 43), (t_ 44), (t_ 45)]),
  o_ 42 (.mov (t_ 46)),
  o_ 47 (.extr (t_ 42) 0),
  o_ 48 (.extr (t_ 42) 1),
  o_ 11 (.mov (t_ 47)),
  o_ 12 (.mov (t_ 48))]
def c201_11 : List SOper := [o_ 49 (.mov (t_ 12)),
  o_ 50 (.bin .eql (t_ 49) (k_ 2))]
def c201_12 : List SOper := [o_ 51 (.mov (t_ 0)),
  o_ 52 (.mov (t_ 1)),
  o_ 53 (.mov (t_ 2)),
  o_ 54 (.call 235 [(t_ 51), (t_ 52), (t_ 53)])]
def c201_13 : List SOper := [o_ 55 (.mov (t_ 2)),
  o_ 56 (.bin .sub (t_ 55) (k_ 1)),
  o_ 57 (.mov (t_ 11)),
  o_ 58 (.mov (t_ 1)),
  o_ 59 (.bin .sub (t_ 57) (t_ 58)),
  o_ 60 (.bin .sub (t_ 56) (t_ 59)),
  o_ 11 (.mov (t_ 60))]
def c201_14 : List SOper := [o_ 12 (.mov (k_ 1))]
def c201_15 : List SOper := [o_ 61 (.mov (t_ 8)),
  o_ 62 (.mov (t_ 61)),
  g_ 63 62 true (.mov (t_ 9)),
  o_ 64 (.pick (t_ 62) (t_ 63) (.const (.bool false))),
  o_ 65 (.mov (t_ 64)),
  g_ 66 65 true (.mov (t_ 12)),
  g_ 67 65 true (.bin .eql (t_ 66) (k_ 1)),
  o_ 68 (.pick (t_ 65) (t_ 67) (.const (.bool false)))]
def c201_16 : List SOper := [o_ 69 (.mov (t_ 0)),
  o_ 70 (.mov (t_ 1)),
  o_ 71 (.mov (t_ 2)),
  o_ 72 (.call 236 [(t_ 69), (t_ 70), (t_ 71)])]
def c201_17 : List SOper := [⟨(some 73), .mov (t_ 1), none, [1], 0, [], 0, 0, []⟩,
  ⟨(some 74), .bin .gtr (t_ 73) (k_ 0), none, [73], 1, [0], 0, 0, []⟩,
  ⟨(some 75), .mov (t_ 74), none, [74], 2, [1], 0, 0, []⟩,
  ⟨(some 76), .mov (t_ 0), (some (75, true)), [0, 75], 3, [2], 0, 0, []⟩,
  ⟨(some 77), .mov (t_ 1), (some (75, true)), [1, 75], 4, [2], 0, 0, []⟩,
  ⟨(some 78), .bin .sub (t_ 77) (k_ 1), (some (75, true)), [77, 75], 5, [4, 2], 0, 0, []⟩,
  ⟨(some 79), .idxS 1 (t_ 76) (t_ 78), (some (75, true)), [76, 78, 75], 6, [3, 5, 2], 0, 0, []⟩,
  ⟨(some 80), .load1 (t_ 79), (some (75, true)), [79, 75], 7, [6, 2], 0, 0, []⟩,
  ⟨(some 81), .mov (t_ 0), (some (75, true)), [0, 75], 8, [2], 0, 0, []⟩,
  ⟨(some 82), .mov (t_ 11), (some (75, true)), [11, 75], 9, [2], 0, 0, []⟩,
  ⟨(some 83), .idxS 1 (t_ 81) (t_ 82), (some (75, true)), [81, 82, 75], 10, [8, 9, 2], 0, 0, []⟩,
  ⟨(some 84), .load1 (t_ 83), (some (75, true)), [83, 75], 11, [10, 2], 0, 0, []⟩,
  ⟨(some 85), .call 237 [(t_ 80), (t_ 84)], (some (75, true)), [80, 84, 75], 12, [7, 11, 2, 2], 0, 0, []⟩,
  ⟨(some 86), .un .not (t_ 85), (some (75, true)), [85, 75], 13, [12, 2], 0, 0, []⟩,
  ⟨(some 87), .pick (t_ 75) (t_ 86) (.const (.bool false)), none, [75, 86], 14, [2, 13], 0, 0, []⟩]
def c201_17b : List SOper := []
def c201_18 : List SOper := [o_ 88 (.mov (t_ 0)),
  o_ 89 (.mov (t_ 1)),
  o_ 90 (.mov (t_ 2)),
  o_ 91 (.mov (t_ 11)),
  o_ 92 (.call 238 [(t_ 88), (t_ 89), (t_ 90), (t_ 91)]),
  o_ 13 (.mov (t_ 92))]
def c201_19 : List SOper := [o_ 93 (.mov (t_ 13)),
  o_ 1 (.mov (t_ 93))]
def c201_20 : List SOper := [o_ 95 (.mov (t_ 0)),
  o_ 96 (.mov (t_ 1)),
  o_ 97 (.mov (t_ 2)),
  o_ 98 (.mov (t_ 11)),
  o_ 99 (.call 239 [(t_ 95), (t_ 96), (t_ 97), (t_ 98)]),
  o_ 94 (.mov (t_ 99)),
  o_ 100 (.extr (t_ 94) 0),
  o_ 101 (.extr (t_ 94) 1),
  o_ 14 (.mov (t_ 100)),
  o_ 15 (.mov (t_ 101))]
def c201_21 : List SOper := [o_ 102 (.mov (t_ 15)),
  o_ 9 (.mov (t_ 102))]
def c201_22 : List SOper := [o_ 103 (.mov (t_ 14)),
  o_ 104 (.mov (t_ 1)),
  o_ 105 (.bin .sub (t_ 103) (t_ 104)),
  o_ 106 (.mov (t_ 2)),
  o_ 107 (.mov (t_ 14)),
  o_ 108 (.bin .sub (t_ 106) (t_ 107)),
  o_ 16 (.mov (t_ 105)),
  o_ 17 (.mov (t_ 108))]
def c201_23 : List SOper := [o_ 109 (.mov (t_ 10)),
  o_ 110 (.bin .quo (t_ 109) (k_ 8)),
  o_ 18 (.mov (t_ 110))]
def c201_24 : List SOper := [o_ 111 (.mov (t_ 16)),
  o_ 112 (.mov (t_ 17)),
  o_ 113 (.bin .lss (t_ 111) (t_ 112))]
def c201_25 : List SOper := [o_ 114 (.mov (t_ 16)),
  o_ 115 (.mov (t_ 18)),
  o_ 116 (.bin .geq (t_ 114) (t_ 115)),
  o_ 8 (.mov (t_ 116))]
def c201_26 : List SOper := [o_ 117 (.mov (t_ 0)),
  o_ 118 (.mov (t_ 1)),
  o_ 119 (.mov (t_ 14)),
  o_ 120 (.mov (t_ 3)),
  o_ 121 (.call 201 [(t_ 117), (t_ 118), (t_ 119), (t_ 120)])]
def c201_27 : List SOper := [o_ 122 (.mov (t_ 14)),
  o_ 123 (.bin .add (t_ 122) (k_ 1)),
  o_ 1 (.mov (t_ 123))]
def c201_28 : List SOper := [o_ 124 (.mov (t_ 17)),
  o_ 125 (.mov (t_ 18)),
  o_ 126 (.bin .geq (t_ 124) (t_ 125)),
  o_ 8 (.mov (t_ 126))]
def c201_29 : List SOper := [o_ 127 (.mov (t_ 0)),
  o_ 128 (.mov (t_ 14)),
  o_ 129 (.bin .add (t_ 128) (k_ 1)),
  o_ 130 (.mov (t_ 2)),
  o_ 131 (.mov (t_ 3)),
  o_ 132 (.call 201 [(t_ 127), (t_ 129), (t_ 130), (t_ 131)])]
def c201_30 : List SOper := [o_ 133 (.mov (t_ 14)),
  o_ 2 (.mov (t_ 133))]
def c201_31 : SCode := (.block 1 (.seq (.reg [0, 1, 2, 3, 8, 9, 10] c201_2) (.seq (.seq (.reg [0, 1, 2, 3, 8, 9, 10, 23] c201_3) (.cond (t_ 23) (.seq (.reg [] c201_4) .ret) .skip)) (.seq (.seq (.reg [0, 1, 2, 3, 8, 9, 10, 29] c201_5) (.cond (t_ 29) (.seq (.reg [] c201_6) .ret) .skip)) (.seq (.seq (.reg [0, 1, 2, 3, 8, 9, 10, 35] c201_7) (.cond (t_ 35) (.seq (.reg [0, 1, 2, 3, 8, 9, 10] c201_8) (.reg [0, 1, 2, 3, 8, 9, 10] c201_9)) .skip)) (.seq (.reg [0, 1, 2, 3, 8, 9, 10, 11, 12] c201_10) (.seq (.seq (.reg [0, 1, 2, 3, 8, 9, 10, 11, 12, 50] c201_11) (.cond (t_ 50) (.seq (.reg [0, 1, 2, 3, 8, 9, 10, 11] c201_12) (.seq (.reg [0, 1, 2, 3, 8, 9, 10, 11] c201_13) (.reg [0, 1, 2, 3, 8, 9, 10, 11, 12] c201_14))) .skip)) (.seq (.seq (.reg [0, 1, 2, 3, 8, 9, 10, 11, 68] c201_15) (.cond (t_ 68) (.seq (.reg [0, 1, 2, 3, 8, 9, 10, 11, 72] c201_16) (.cond (t_ 72) .ret .skip)) .skip)) (.seq (.seq (.dreg [0, 1, 2, 3, 8, 9, 10, 11, 87] c201_17 c201_17b) (.cond (t_ 87) (.seq (.reg [0, 2, 3, 8, 9, 13] c201_18) (.seq (.reg [0, 1, 2, 3, 8, 9] c201_19) (.exit 1))) .skip)) (.seq (.reg [0, 1, 2, 3, 10, 14, 15] c201_20) (.seq (.reg [0, 1, 2, 3, 9, 10, 14] c201_21) (.seq (.reg [0, 1, 2, 3, 9, 10, 14, 16, 17] c201_22) (.seq (.reg [0, 1, 2, 3, 9, 14, 16, 17, 18] c201_23) (.seq (.reg [0, 1, 2, 3, 9, 14, 16, 17, 18, 113] c201_24) (.cond (t_ 113) (.seq (.reg [0, 1, 2, 3, 8, 9, 14] c201_25) (.seq (.reg [0, 2, 3, 8, 9, 14] c201_26) (.reg [0, 1, 2, 3, 8, 9] c201_27))) (.seq (.reg [0, 1, 2, 3, 8, 9, 14] c201_28) (.seq (.reg [0, 1, 3, 8, 9, 14] c201_29) (.reg [0, 1, 2, 3, 8, 9] c201_30))))))))))))))))))
def c201_body : SCode := (.seq (.reg [0, 1, 2, 3, 8] c201_0) (.seq (.reg [0, 1, 2, 3, 8, 9] c201_1) (.block 0 (.loop [0, 1, 2, 3, 8, 9] c201_31))))
def c201 : SFunc := ⟨4, 134, c201_body, []⟩
/- jacquard/num.one -/
def c222_0 : List SOper := [o_ 2 (.mov (k_ 0))]
def c222_1 : List SOper := [o_ 3 (.mov (t_ 0))]
def c222_2 : List SOper := [o_ 2 (.mov (k_ 1))]
def c222_3 : List SOper := [o_ 2 (.mov (k_ 0))]
def c222_body : SCode := (.seq (.reg [0] c222_0) (.seq (.seq (.reg [3] c222_1) (.cond (t_ 3) (.seq (.reg [2] c222_2) .ret) .skip)) (.seq (.reg [2] c222_3) .ret)))
def c222 : SFunc := ⟨1, 4, c222_body, [.tmp 2]⟩
/- math/bits.Mul -/
def c223_0 : List SOper := [o_ 4 (.mov (.const (.int .u64 (0)))),
  o_ 5 (.mov (.const (.int .u64 (0))))]
def c223_1 : List SOper := [o_ 11 (.mov (t_ 0)),
  o_ 12 (.conv .u32 (t_ 11)),
  o_ 13 (.mov (t_ 1)),
  o_ 14 (.conv .u32 (t_ 13)),
  o_ 15 (.call 249 [(t_ 12), (t_ 14)]),
  o_ 10 (.mov (t_ 15)),
  o_ 16 (.extr (t_ 10) 0),
  o_ 17 (.extr (t_ 10) 1),
  o_ 6 (.mov (t_ 16)),
  o_ 7 (.mov (t_ 17))]
def c223_2 : List SOper := [o_ 18 (.mov (t_ 6)),
  o_ 19 (.conv .u64 (t_ 18)),
  o_ 20 (.mov (t_ 7)),
  o_ 21 (.conv .u64 (t_ 20)),
  o_ 4 (.mov (t_ 19)),
  o_ 5 (.mov (t_ 21))]
def c223_3 : List SOper := [o_ 23 (.mov (t_ 0)),
  o_ 24 (.mov (t_ 1)),
  o_ 25 (.call 250 [(t_ 23), (t_ 24)]),
  o_ 22 (.mov (t_ 25)),
  o_ 26 (.extr (t_ 22) 0),
  o_ 27 (.extr (t_ 22) 1),
  o_ 8 (.mov (t_ 26)),
  o_ 9 (.mov (t_ 27))]
def c223_4 : List SOper := [o_ 28 (.mov (t_ 8)),
  o_ 29 (.mov (t_ 9)),
  o_ 4 (.mov (t_ 28)),
  o_ 5 (.mov (t_ 29))]
def c223_body : SCode := (.seq (.reg [0, 1] c223_0) (.seq (.cond (.const (.bool false)) (.seq (.reg [6, 7] c223_1) (.seq (.reg [4, 5] c223_2) .ret)) .skip) (.seq (.reg [8, 9] c223_3) (.seq (.reg [4, 5] c223_4) .ret))))
def c223 : SFunc := ⟨2, 30, c223_body, [.tmp 4, .tmp 5]⟩
/- slices.siftDownCmpFunc[jacquard/api.Exec] -/
def c224_0 : List SOper := [o_ 12 (.mov (t_ 1)),
  o_ 10 (.mov (t_ 12))]
def c224_1 : List SOper := [o_ 13 (.mov (t_ 10)),
  o_ 14 (.bin .mul (k_ 2) (t_ 13)),
  o_ 15 (.bin .add (t_ 14) (k_ 1)),
  o_ 11 (.mov (t_ 15))]
def c224_2 : List SOper := [o_ 16 (.mov (t_ 11)),
  o_ 17 (.mov (t_ 2)),
  o_ 18 (.bin .geq (t_ 16) (t_ 17))]
def c224_3 : List SOper := [⟨(some 19), .mov (t_ 11), none, [11], 0, [], 0, 0, []⟩,
  ⟨(some 20), .bin .add (t_ 19) (k_ 1), none, [19], 1, [0], 0, 0, []⟩,
  ⟨(some 21), .mov (t_ 2), none, [2], 2, [], 0, 0, []⟩,
  ⟨(some 22), .bin .lss (t_ 20) (t_ 21), none, [20, 21], 3, [1, 2], 0, 0, []⟩,
  ⟨(some 23), .mov (t_ 22), none, [22], 4, [3], 0, 0, []⟩,
  ⟨(some 24), .mov (t_ 4), (some (23, true)), [4, 23], 5, [4], 0, 0, []⟩,
  ⟨(some 25), .mov (t_ 0), (some (23, true)), [0, 23], 6, [4], 0, 0, []⟩,
  ⟨(some 26), .mov (t_ 3), (some (23, true)), [3, 23], 7, [4], 0, 0, []⟩,
  ⟨(some 27), .mov (t_ 11), (some (23, true)), [11, 23], 8, [4], 0, 0, []⟩,
  ⟨(some 28), .bin .add (t_ 26) (t_ 27), (some (23, true)), [26, 27, 23], 9, [7, 8, 4], 0, 0, []⟩,
  ⟨(some 29), .idxS 3 (t_ 25) (t_ 28), (some (23, true)), [25, 28, 23], 10, [6, 9, 4], 0, 0, []⟩,
  ⟨(some 30), .loadN 3 (t_ 29), (some (23, true)), [29, 23], 11, [10, 4], 0, 0, []⟩,
  ⟨(some 31), .mov (t_ 0), (some (23, true)), [0, 23], 12, [4], 0, 0, []⟩,
  ⟨(some 32), .mov (t_ 3), (some (23, true)), [3, 23], 13, [4], 0, 0, []⟩,
  ⟨(some 33), .mov (t_ 11), (some (23, true)), [11, 23], 14, [4], 0, 0, []⟩,
  ⟨(some 34), .bin .add (t_ 32) (t_ 33), (some (23, true)), [32, 33, 23], 15, [13, 14, 4], 0, 0, []⟩,
  ⟨(some 35), .bin .add (t_ 34) (k_ 1), (some (23, true)), [34, 23], 16, [15, 4], 0, 0, []⟩,
  ⟨(some 36), .idxS 3 (t_ 31) (t_ 35), (some (23, true)), [31, 35, 23], 17, [12, 16, 4], 0, 0, []⟩,
  ⟨(some 37), .loadN 3 (t_ 36), (some (23, true)), [36, 23], 18, [17, 4], 0, 0, []⟩,
  ⟨(some 38), .callv (t_ 24) [(t_ 30), (t_ 37)], (some (23, true)), [24, 30, 37, 23], 19, [5, 11, 18, 4, 4], 0, 0, []⟩,
  ⟨(some 39), .bin .lss (t_ 38) (k_ 0), (some (23, true)), [38, 23], 20, [19, 4], 0, 0, []⟩,
  ⟨(some 40), .pick (t_ 23) (t_ 39) (.const (.bool false)), none, [23, 39], 21, [4, 20], 0, 0, []⟩]
def c224_3b : List SOper := []
def c224_4 : List SOper := [o_ 41 (.mov (t_ 11)),
  o_ 42 (.bin .add (t_ 41) (k_ 1)),
  o_ 11 (.mov (t_ 42))]
def c224_5 : List SOper := [⟨(some 43), .mov (t_ 4), none, [4], 0, [], 0, 0, []⟩,
  ⟨(some 44), .mov (t_ 0), none, [0], 1, [], 0, 0, []⟩,
  ⟨(some 45), .mov (t_ 3), none, [3], 2, [], 0, 0, []⟩,
  ⟨(some 46), .mov (t_ 10), none, [10], 3, [], 0, 0, []⟩,
  ⟨(some 47), .bin .add (t_ 45) (t_ 46), none, [45, 46], 4, [2, 3], 0, 0, []⟩,
  ⟨(some 48), .idxS 3 (t_ 44) (t_ 47), none, [44, 47], 5, [1, 4], 0, 0, []⟩,
  ⟨(some 49), .loadN 3 (t_ 48), none, [48], 6, [5], 0, 0, []⟩,
  ⟨(some 50), .mov (t_ 0), none, [0], 7, [], 0, 0, []⟩,
  ⟨(some 51), .mov (t_ 3), none, [3], 8, [], 0, 0, []⟩,
  ⟨(some 52), .mov (t_ 11), none, [11], 9, [], 0, 0, []⟩,
  ⟨(some 53), .bin .add (t_ 51) (t_ 52), none, [51, 52], 10, [8, 9], 0, 0, []⟩,
  ⟨(some 54), .idxS 3 (t_ 50) (t_ 53), none, [50, 53], 11, [7, 10], 0, 0, []⟩,
  ⟨(some 55), .loadN 3 (t_ 54), none, [54], 12, [11], 0, 0, []⟩,
  ⟨(some 56), .callv (t_ 43) [(t_ 49), (t_ 55)], none, [43, 49, 55], 13, [0, 6, 12], 0, 0, []⟩,
  ⟨(some 57), .bin .lss (t_ 56) (k_ 0), none, [56], 14, [13], 0, 0, []⟩,
  ⟨(some 58), .un .not (t_ 57), none, [57], 15, [14], 0, 0, []⟩]
def c224_5b : List SOper := []
def c224_6 : List SOper := [⟨(some 59), .mov (t_ 0), none, [0], 0, [], 0, 0, []⟩,
  ⟨(some 60), .mov (t_ 3), none, [3], 1, [], 0, 0, []⟩,
  ⟨(some 61), .mov (t_ 10), none, [10], 2, [], 0, 0, []⟩,
  ⟨(some 62), .bin .add (t_ 60) (t_ 61), none, [60, 61], 3, [1, 2], 0, 0, []⟩,
  ⟨(some 63), .mov (t_ 0), none, [0], 4, [], 0, 0, []⟩,
  ⟨(some 64), .mov (t_ 3), none, [3], 5, [], 0, 0, []⟩,
  ⟨(some 65), .mov (t_ 11), none, [11], 6, [], 0, 0, []⟩,
  ⟨(some 66), .bin .add (t_ 64) (t_ 65), none, [64, 65], 7, [5, 6], 0, 0, []⟩,
  ⟨(some 67), .mov (t_ 0), none, [0], 8, [], 0, 0, []⟩,
  ⟨(some 68), .mov (t_ 3), none, [3], 9, [], 0, 0, []⟩,
  ⟨(some 69), .mov (t_ 11), none, [11], 10, [], 0, 0, []⟩,
  ⟨(some 70), .bin .add (t_ 68) (t_ 69), none, [68, 69], 11, [9, 10], 0, 0, []⟩,
  ⟨(some 71), .idxS 3 (t_ 67) (t_ 70), none, [67, 70], 12, [8, 11], 0, 0, []⟩,
  ⟨(some 72), .loadN 3 (t_ 71), none, [71], 13, [12], 0, 0, []⟩,
  ⟨(some 73), .mov (t_ 0), none, [0], 14, [], 0, 0, []⟩,
  ⟨(some 74), .mov (t_ 3), none, [3], 15, [], 0, 0, []⟩,
  ⟨(some 75), .mov (t_ 10), none, [10], 16, [], 0, 0, []⟩,
  ⟨(some 76), .bin .add (t_ 74) (t_ 75), none, [74, 75], 17, [15, 16], 0, 0, []⟩,
  ⟨(some 77), .idxS 3 (t_ 73) (t_ 76), none, [73, 76], 18, [14, 17], 0, 0, []⟩,
  ⟨(some 78), .loadN 3 (t_ 77), none, [77], 19, [18], 0, 0, []⟩,
  ⟨(some 79), .idxS 3 (t_ 59) (t_ 62), none, [59, 62], 20, [0, 3, 0, 1, 2, 3, 8, 9, 10, 11, 12, 13, 19], 0, 0, []⟩,
  ⟨(some 80), .idxS 3 (t_ 63) (t_ 66), none, [63, 66], 22, [4, 7, 0, 1, 2, 3, 4, 5, 6, 7, 8, 9, 10, 11, 12, 13, 14, 15, 16, 17, 18, 19, 20, 21], 0, 0, []⟩]
def c224_6b : List SOper := [⟨none, .storeN 3 (t_ 79) (t_ 72), none, [79, 72], 21, [20, 13, 0, 1, 2, 3, 8, 9, 10, 11, 12, 13, 19], 0, 0, [13, 19]⟩,
  ⟨none, .storeN 3 (t_ 80) (t_ 78), none, [80, 78], 23, [22, 19, 21, 0, 1, 2, 3, 4, 5, 6, 7, 8, 9, 10, 11, 12, 13, 14, 15, 16, 17, 18, 19, 20, 21], 0, 0, [13, 19]⟩]
def c224_7 : List SOper := [o_ 81 (.mov (t_ 11)),
  o_ 10 (.mov (t_ 81))]
def c224_8 : SCode := (.block 1 (.seq (.reg [0, 2, 3, 4, 10, 11] c224_1) (.seq (.seq (.reg [0, 2, 3, 4, 10, 11, 18] c224_2) (.cond (t_ 18) (.exit 0) .skip)) (.seq (.seq (.dreg [0, 2, 3, 4, 10, 11, 40] c224_3 c224_3b) (.cond (t_ 40) (.reg [0, 2, 3, 4, 10, 11] c224_4) .skip)) (.seq (.seq (.dreg [0, 2, 3, 4, 10, 11, 58] c224_5 c224_5b) (.cond (t_ 58) .ret .skip)) (.seq (.dreg [0, 2, 3, 4, 11] c224_6 c224_6b) (.reg [0, 2, 3, 4, 10] c224_7)))))))
def c224_body : SCode := (.seq (.reg [0, 2, 3, 4, 10] c224_0) (.block 0 (.loop [0, 2, 3, 4, 10] c224_8)))
def c224 : SFunc := ⟨5, 82, c224_body, []⟩
/- slices.nextPowerOfTwo -/
def c225_0 : List SOper := [o_ 2 (.mov (.const (.int .u64 (0))))]
def c225_1 : List SOper := [o_ 3 (.mov (t_ 0)),
  o_ 4 (.conv .u64 (t_ 3)),
  o_ 5 (.call 141 [(t_ 4)]),
  o_ 6 (.bin .shl (.const (.int .u64 (1))) (t_ 5)),
  o_ 2 (.mov (t_ 6))]
def c225_body : SCode := (.seq (.reg [0] c225_0) (.seq (.reg [2] c225_1) .ret))
def c225 : SFunc := ⟨1, 7, c225_body, [.tmp 2]⟩
/- (*slices.xorshift).Next -/
def c226_0 : List SOper := [o_ 2 (.mov (.const (.int .u64 (0))))]
def c226_1 : List SOper := [⟨(some 3), .mov (t_ 0), none, [0], 0, [], 0, 0, []⟩,
  ⟨(some 4), .nilchk (t_ 3), none, [3], 1, [0], 0, 0, []⟩,
  ⟨(some 5), .load1 (t_ 4), none, [4], 2, [1], 0, 0, []⟩,
  ⟨(some 6), .mov (t_ 0), none, [0], 3, [], 0, 0, []⟩,
  ⟨(some 7), .nilchk (t_ 6), none, [6], 4, [3], 0, 0, []⟩,
  ⟨(some 8), .load1 (t_ 7), none, [7], 5, [4], 0, 0, []⟩,
  ⟨(some 9), .bin .shl (t_ 8) (.const (.int .u64 (13))), none, [8], 6, [5], 0, 0, []⟩,
  ⟨(some 10), .bin .xor (t_ 5) (t_ 9), none, [5, 9], 7, [2, 6], 0, 0, []⟩,
  ⟨(some 11), .nilchk (t_ 3), none, [3], 8, [0, 0, 1, 2, 3, 4, 5, 6, 7], 0, 0, []⟩]
def c226_1b : List SOper := [⟨none, .store1 (t_ 11) (t_ 10), none, [11, 10], 9, [8, 7, 0, 1, 2, 3, 4, 5, 6, 7], 0, 0, [2, 5]⟩]
def c226_2 : List SOper := [⟨(some 12), .mov (t_ 0), none, [0], 0, [], 0, 0, []⟩,
  ⟨(some 13), .nilchk (t_ 12), none, [12], 1, [0], 0, 0, []⟩,
  ⟨(some 14), .load1 (t_ 13), none, [13], 2, [1], 0, 0, []⟩,
  ⟨(some 15), .mov (t_ 0), none, [0], 3, [], 0, 0, []⟩,
  ⟨(some 16), .nilchk (t_ 15), none, [15], 4, [3], 0, 0, []⟩,
  ⟨(some 17), .load1 (t_ 16), none, [16], 5, [4], 0, 0, []⟩,
  ⟨(some 18), .bin .shr (t_ 17) (.const (.int .u64 (7))), none, [17], 6, [5], 0, 0, []⟩,
  ⟨(some 19), .bin .xor (t_ 14) (t_ 18), none, [14, 18], 7, [2, 6], 0, 0, []⟩,
  ⟨(some 20), .nilchk (t_ 12), none, [12], 8, [0, 0, 1, 2, 3, 4, 5, 6, 7], 0, 0, []⟩]
def c226_2b : List SOper := [⟨none, .store1 (t_ 20) (t_ 19), none, [20, 19], 9, [8, 7, 0, 1, 2, 3, 4, 5, 6, 7], 0, 0, [2, 5]⟩]
def c226_3 : List SOper := [⟨(some 21), .mov (t_ 0), none, [0], 0, [], 0, 0, []⟩,
  ⟨(some 22), .nilchk (t_ 21), none, [21], 1, [0], 0, 0, []⟩,
  ⟨(some 23), .load1 (t_ 22), none, [22], 2, [1], 0, 0, []⟩,
  ⟨(some 24), .mov (t_ 0), none, [0], 3, [], 0, 0, []⟩,
  ⟨(some 25), .nilchk (t_ 24), none, [24], 4, [3], 0, 0, []⟩,
  ⟨(some 26), .load1 (t_ 25), none, [25], 5, [4], 0, 0, []⟩,
  ⟨(some 27), .bin .shl (t_ 26) (.const (.int .u64 (17))), none, [26], 6, [5], 0, 0, []⟩,
  ⟨(some 28), .bin .xor (t_ 23) (t_ 27), none, [23, 27], 7, [2, 6], 0, 0, []⟩,
  ⟨(some 29), .nilchk (t_ 21), none, [21], 8, [0, 0, 1, 2, 3, 4, 5, 6, 7], 0, 0, []⟩]
def c226_3b : List SOper := [⟨none, .store1 (t_ 29) (t_ 28), none, [29, 28], 9, [8, 7, 0, 1, 2, 3, 4, 5, 6, 7], 0, 0, [2, 5]⟩]
def c226_4 : List SOper := [o_ 30 (.mov (t_ 0)),
  o_ 31 (.nilchk (t_ 30)),
  o_ 32 (.load1 (t_ 31)),
  o_ 2 (.mov (t_ 32))]
def c226_body : SCode := (.seq (.reg [0] c226_0) (.seq (.dreg [0] c226_1 c226_1b) (.seq (.dreg [0] c226_2 c226_2b) (.seq (.dreg [0] c226_3 c226_3b) (.seq (.reg [2] c226_4) .ret)))))
def c226 : SFunc := ⟨1, 33, c226_body, [.tmp 2]⟩
/- slices.medianAdjacentCmpFunc[jacquard/api.Exec] -/
def c227_0 : List SOper := [o_ 8 (.mov (k_ 0))]
def c227_1 : List SOper := [o_ 9 (.mov (t_ 0)),
  o_ 10 (.mov (t_ 1)),
  o_ 11 (.bin .sub (t_ 10) (k_ 1)),
  o_ 12 (.mov (t_ 1)),
  o_ 13 (.mov (t_ 1)),
  o_ 14 (.bin .add (t_ 13) (k_ 1)),
  o_ 15 (.mov (t_ 2)),
  o_ 16 (.mov (t_ 3)),
  o_ 17 (.call 228 [(t_ 9), (t_ 11), (t_ 12), (t_ 14), (t_ 15), (t_ 16)]),
  o_ 8 (.mov (t_ 17))]
def c227_body : SCode := (.seq (.reg [0, 1, 2, 3] c227_0) (.seq (.reg [8] c227_1) .ret))
def c227 : SFunc := ⟨4, 18, c227_body, [.tmp 8]⟩
/- slices.medianCmpFunc[jacquard/api.Exec] -/
def c228_0 : List SOper := [o_ 12 (.mov (k_ 0))]
def c228_1 : List SOper := [o_ 14 (.mov (t_ 0)),
  o_ 15 (.mov (t_ 1)),
  o_ 16 (.mov (t_ 2)),
  o_ 17 (.mov (t_ 4)),
  o_ 18 (.mov (t_ 5)),
  o_ 19 (.call 251 [(t_ 14), (t_ 15), (t_ 16), (t_ 17), (t_ 18)]),
  o_ 13 (.mov (t_ 19)),
  o_ 20 (.extr (t_ 13) 0),
  o_ 21 (.extr (t_ 13) 1),
  o_ 1 (.mov (t_ 20)),
  o_ 2 (.mov (t_ 21))]
def c228_2 : List SOper := [o_ 23 (.mov (t_ 0)),
  o_ 24 (.mov (t_ 2)),
  o_ 25 (.mov (t_ 3)),
  o_ 26 (.mov (t_ 4)),
  o_ 27 (.mov (t_ 5)),
  o_ 28 (.call 251 [(t_ 23), (t_ 24), (t_ 25), (t_ 26), (t_ 27)]),
  o_ 22 (.mov (t_ 28)),
  o_ 29 (.extr (t_ 22) 0),
  o_ 30 (.extr (t_ 22) 1),
  o_ 2 (.mov (t_ 29)),
  o_ 3 (.mov (t_ 30))]
def c228_3 : List SOper := [o_ 32 (.mov (t_ 0)),
  o_ 33 (.mov (t_ 1)),
  o_ 34 (.mov (t_ 2)),
  o_ 35 (.mov (t_ 4)),
  o_ 36 (.mov (t_ 5)),
  o_ 37 (.call 251 [(t_ 32), (t_ 33), (t_ 34), (t_ 35), (t_ 36)]),
  o_ 31 (.mov (t_ 37)),
  o_ 38 (.extr (t_ 31) 0),
  o_ 39 (.extr (t_ 31) 1),
  o_ 1 (.mov (t_ 38)),
  o_ 2 (.mov (t_ 39))]
def c228_4 : List SOper := [o_ 40 (.mov (t_ 2)),
  o_ 12 (.mov (t_ 40))]
def c228_body : SCode := (.seq (.reg [0, 1, 2, 3, 4, 5] c228_0) (.seq (.reg [0, 1, 2, 3, 4, 5] c228_1) (.seq (.reg [0, 1, 2, 4, 5] c228_2) (.seq (.reg [2] c228_3) (.seq (.reg [12] c228_4) .ret)))))
def c228 : SFunc := ⟨6, 41, c228_body, [.tmp 12]⟩
/- cmp.isNaN[int] -/
def c229_0 : List SOper := [o_ 2 (.mov (.const (.bool false)))]
def c229_1 : List SOper := [o_ 3 (.mov (t_ 0)),
  o_ 4 (.mov (t_ 0)),
  o_ 5 (.bin .neq (t_ 3) (t_ 4)),
  o_ 2 (.mov (t_ 5))]
def c229_body : SCode := (.seq (.reg [0] c229_0) (.seq (.reg [2] c229_1) .ret))
def c229 : SFunc := ⟨1, 6, c229_body, [.tmp 2]⟩
/- cmp.isNaN[int64] -/
def c230_0 : List SOper := [o_ 2 (.mov (.const (.bool false)))]
def c230_1 : List SOper := [o_ 3 (.mov (t_ 0)),
  o_ 4 (.mov (t_ 0)),
  o_ 5 (.bin .neq (t_ 3) (t_ 4)),
  o_ 2 (.mov (t_ 5))]
def c230_body : SCode := (.seq (.reg [0] c230_0) (.seq (.reg [2] c230_1) .ret))
def c230 : SFunc := ⟨1, 6, c230_body, [.tmp 2]⟩
/- slices.insertionSortOrdered[int] -/
def c231_0 : List SOper := [o_ 8 (.mov (t_ 1)),
  o_ 9 (.bin .add (t_ 8) (k_ 1)),
  o_ 6 (.mov (t_ 9))]
def c231_1 : List SOper := [o_ 10 (.mov (t_ 6)),
  o_ 11 (.mov (t_ 2)),
  o_ 12 (.bin .lss (t_ 10) (t_ 11))]
def c231_2 : List SOper := [o_ 15 (.mov (t_ 6)),
  o_ 7 (.mov (t_ 15))]
def c231_3 : List SOper := [⟨(some 16), .mov (t_ 7), none, [7], 0, [], 0, 0, []⟩,
  ⟨(some 17), .mov (t_ 1), none, [1], 1, [], 0, 0, []⟩,
  ⟨(some 18), .bin .gtr (t_ 16) (t_ 17), none, [16, 17], 2, [0, 1], 0, 0, []⟩,
  ⟨(some 19), .mov (t_ 18), none, [18], 3, [2], 0, 0, []⟩,
  ⟨(some 20), .mov (t_ 0), (some (19, true)), [0, 19], 4, [3], 0, 0, []⟩,
  ⟨(some 21), .mov (t_ 7), (some (19, true)), [7, 19], 5, [3], 0, 0, []⟩,
  ⟨(some 22), .idxS 1 (t_ 20) (t_ 21), (some (19, true)), [20, 21, 19], 6, [4, 5, 3], 0, 0, []⟩,
  ⟨(some 23), .load1 (t_ 22), (some (19, true)), [22, 19], 7, [6, 3], 0, 0, []⟩,
  ⟨(some 24), .mov (t_ 0), (some (19, true)), [0, 19], 8, [3], 0, 0, []⟩,
  ⟨(some 25), .mov (t_ 7), (some (19, true)), [7, 19], 9, [3], 0, 0, []⟩,
  ⟨(some 26), .bin .sub (t_ 25) (k_ 1), (some (19, true)), [25, 19], 10, [9, 3], 0, 0, []⟩,
  ⟨(some 27), .idxS 1 (t_ 24) (t_ 26), (some (19, true)), [24, 26, 19], 11, [8, 10, 3], 0, 0, []⟩,
  ⟨(some 28), .load1 (t_ 27), (some (19, true)), [27, 19], 12, [11, 3], 0, 0, []⟩,
  ⟨(some 29), .call 237 [(t_ 23), (t_ 28)], (some (19, true)), [23, 28, 19], 13, [7, 12, 3, 3], 0, 0, []⟩,
  ⟨(some 30), .pick (t_ 19) (t_ 29) (.const (.bool false)), none, [19, 29], 14, [3, 13], 0, 0, []⟩]
def c231_3b : List SOper := []
def c231_4 : List SOper := [⟨(some 33), .mov (t_ 0), none, [0], 0, [], 0, 0, []⟩,
  ⟨(some 34), .mov (t_ 7), none, [7], 1, [], 0, 0, []⟩,
  ⟨(some 35), .mov (t_ 0), none, [0], 2, [], 0, 0, []⟩,
  ⟨(some 36), .mov (t_ 7), none, [7], 3, [], 0, 0, []⟩,
  ⟨(some 37), .bin .sub (t_ 36) (k_ 1), none, [36], 4, [3], 0, 0, []⟩,
  ⟨(some 38), .mov (t_ 0), none, [0], 5, [], 0, 0, []⟩,
  ⟨(some 39), .mov (t_ 7), none, [7], 6, [], 0, 0, []⟩,
  ⟨(some 40), .bin .sub (t_ 39) (k_ 1), none, [39], 7, [6], 0, 0, []⟩,
  ⟨(some 41), .idxS 1 (t_ 38) (t_ 40), none, [38, 40], 8, [5, 7], 0, 0, []⟩,
  ⟨(some 42), .load1 (t_ 41), none, [41], 9, [8], 0, 0, []⟩,
  ⟨(some 43), .mov (t_ 0), none, [0], 10, [], 0, 0, []⟩,
  ⟨(some 44), .mov (t_ 7), none, [7], 11, [], 0, 0, []⟩,
  ⟨(some 45), .idxS 1 (t_ 43) (t_ 44), none, [43, 44], 12, [10, 11], 0, 0, []⟩,
  ⟨(some 46), .load1 (t_ 45), none, [45], 13, [12], 0, 0, []⟩,
  ⟨(some 47), .idxS 1 (t_ 33) (t_ 34), none, [33, 34], 14, [0, 1, 0, 1, 5, 6, 7, 8, 9, 13], 0, 0, []⟩,
  ⟨(some 48), .idxS 1 (t_ 35) (t_ 37), none, [35, 37], 16, [2, 4, 0, 1, 2, 3, 4, 5, 6, 7, 8, 9, 10, 11, 12, 13, 14, 15], 0, 0, []⟩]
def c231_4b : List SOper := [⟨none, .store1 (t_ 47) (t_ 42), none, [47, 42], 15, [14, 9, 0, 1, 5, 6, 7, 8, 9, 13], 0, 0, [9, 13]⟩,
  ⟨none, .store1 (t_ 48) (t_ 46), none, [48, 46], 17, [16, 13, 15, 0, 1, 2, 3, 4, 5, 6, 7, 8, 9, 10, 11, 12, 13, 14, 15], 0, 0, [9, 13]⟩]
def c231_5 : List SOper := [o_ 31 (.mov (t_ 7)),
  o_ 32 (.bin .sub (t_ 31) (k_ 1)),
  o_ 7 (.mov (t_ 32))]
def c231_6 : SCode := (.seq (.seq (.dreg [0, 1, 2, 6, 7, 30] c231_3 c231_3b) (.cond (t_ 30) .skip (.exit 2))) (.seq (.block 3 (.dreg [0, 1, 2, 6, 7] c231_4 c231_4b)) (.reg [0, 1, 2, 6, 7] c231_5)))
def c231_7 : List SOper := [o_ 13 (.mov (t_ 6)),
  o_ 14 (.bin .add (t_ 13) (k_ 1)),
  o_ 6 (.mov (t_ 14))]
def c231_8 : SCode := (.seq (.seq (.reg [0, 1, 2, 6, 12] c231_1) (.cond (t_ 12) .skip (.exit 0))) (.seq (.block 1 (.seq (.reg [0, 1, 2, 6, 7] c231_2) (.block 2 (.loop [0, 1, 2, 6, 7] c231_6)))) (.reg [0, 1, 2, 6] c231_7)))
def c231_body : SCode := (.seq (.reg [0, 1, 2, 6] c231_0) (.block 0 (.loop [0, 1, 2, 6] c231_8)))
def c231 : SFunc := ⟨3, 49, c231_body, []⟩
/- slices.heapSortOrdered[int] -/
def c232_0 : List SOper := [o_ 11 (.mov (t_ 1)),
  o_ 6 (.mov (t_ 11))]
def c232_1 : List SOper := [o_ 7 (.mov (k_ 0))]
def c232_2 : List SOper := [o_ 12 (.mov (t_ 2)),
  o_ 13 (.mov (t_ 1)),
  o_ 14 (.bin .sub (t_ 12) (t_ 13)),
  o_ 8 (.mov (t_ 14))]
def c232_3 : List SOper := [o_ 15 (.mov (t_ 8)),
  o_ 16 (.bin .sub (t_ 15) (k_ 1)),
  o_ 17 (.bin .quo (t_ 16) (k_ 2)),
  o_ 9 (.mov (t_ 17))]
def c232_4 : List SOper := [o_ 18 (.mov (t_ 9)),
  o_ 19 (.bin .geq (t_ 18) (k_ 0))]
def c232_5 : List SOper := [o_ 22 (.mov (t_ 0)),
  o_ 23 (.mov (t_ 9)),
  o_ 24 (.mov (t_ 8)),
  o_ 25 (.mov (t_ 6)),
  o_ 26 (.call 252 [(t_ 22), (t_ 23), (t_ 24), (t_ 25)])]
def c232_6 : List SOper := [o_ 20 (.mov (t_ 9)),
  o_ 21 (.bin .sub (t_ 20) (k_ 1)),
  o_ 9 (.mov (t_ 21))]
def c232_7 : SCode := (.seq (.seq (.reg [0, 6, 7, 8, 9, 19] c232_4) (.cond (t_ 19) .skip (.exit 0))) (.seq (.block 1 (.reg [0, 6, 7, 8, 9] c232_5)) (.reg [0, 6, 7, 8, 9] c232_6)))
def c232_8 : List SOper := [o_ 27 (.mov (t_ 8)),
  o_ 28 (.bin .sub (t_ 27) (k_ 1)),
  o_ 10 (.mov (t_ 28))]
def c232_9 : List SOper := [o_ 29 (.mov (t_ 10)),
  o_ 30 (.bin .geq (t_ 29) (k_ 0))]
def c232_10 : List SOper := [⟨(some 33), .mov (t_ 0), none, [0], 0, [], 0, 0, []⟩,
  ⟨(some 34), .mov (t_ 6), none, [6], 1, [], 0, 0, []⟩,
  ⟨(some 35), .mov (t_ 0), none, [0], 2, [], 0, 0, []⟩,
  ⟨(some 36), .mov (t_ 6), none, [6], 3, [], 0, 0, []⟩,
  ⟨(some 37), .mov (t_ 10), none, [10], 4, [], 0, 0, []⟩,
  ⟨(some 38), .bin .add (t_ 36) (t_ 37), none, [36, 37], 5, [3, 4], 0, 0, []⟩,
  ⟨(some 39), .mov (t_ 0), none, [0], 6, [], 0, 0, []⟩,
  ⟨(some 40), .mov (t_ 6), none, [6], 7, [], 0, 0, []⟩,
  ⟨(some 41), .mov (t_ 10), none, [10], 8, [], 0, 0, []⟩,
  ⟨(some 42), .bin .add (t_ 40) (t_ 41), none, [40, 41], 9, [7, 8], 0, 0, []⟩,
  ⟨(some 43), .idxS 1 (t_ 39) (t_ 42), none, [39, 42], 10, [6, 9], 0, 0, []⟩,
  ⟨(some 44), .load1 (t_ 43), none, [43], 11, [10], 0, 0, []⟩,
  ⟨(some 45), .mov (t_ 0), none, [0], 12, [], 0, 0, []⟩,
  ⟨(some 46), .mov (t_ 6), none, [6], 13, [], 0, 0, []⟩,
  ⟨(some 47), .idxS 1 (t_ 45) (t_ 46), none, [45, 46], 14, [12, 13], 0, 0, []⟩,
  ⟨(some 48), .load1 (t_ 47), none, [47], 15, [14], 0, 0, []⟩,
  ⟨(some 49), .idxS 1 (t_ 33) (t_ 34), none, [33, 34], 16, [0, 1, 0, 1, 6, 7, 8, 9, 10, 11, 15], 0, 0, []⟩,
  ⟨(some 50), .idxS 1 (t_ 35) (t_ 38), none, [35, 38], 18, [2, 5, 0, 1, 2, 3, 4, 5, 6, 7, 8, 9, 10, 11, 12, 13, 14, 15, 16, 17], 0, 0, []⟩]
def c232_10b : List SOper := [⟨none, .store1 (t_ 49) (t_ 44), none, [49, 44], 17, [16, 11, 0, 1, 6, 7, 8, 9, 10, 11, 15], 0, 0, [11, 15]⟩,
  ⟨none, .store1 (t_ 50) (t_ 48), none, [50, 48], 19, [18, 15, 17, 0, 1, 2, 3, 4, 5, 6, 7, 8, 9, 10, 11, 12, 13, 14, 15, 16, 17], 0, 0, [11, 15]⟩]
def c232_11 : List SOper := [o_ 51 (.mov (t_ 0)),
  o_ 52 (.mov (t_ 7)),
  o_ 53 (.mov (t_ 10)),
  o_ 54 (.mov (t_ 6)),
  o_ 55 (.call 252 [(t_ 51), (t_ 52), (t_ 53), (t_ 54)])]
def c232_12 : List SOper := [o_ 31 (.mov (t_ 10)),
  o_ 32 (.bin .sub (t_ 31) (k_ 1)),
  o_ 10 (.mov (t_ 32))]
def c232_13 : SCode := (.seq (.seq (.reg [0, 6, 7, 10, 30] c232_9) (.cond (t_ 30) .skip (.exit 2))) (.seq (.block 3 (.seq (.dreg [0, 6, 7, 10] c232_10 c232_10b) (.reg [0, 6, 7, 10] c232_11))) (.reg [0, 6, 7, 10] c232_12)))
def c232_body : SCode := (.seq (.reg [0, 1, 2, 6] c232_0) (.seq (.reg [0, 1, 2, 6, 7] c232_1) (.seq (.reg [0, 6, 7, 8] c232_2) (.seq (.seq (.reg [0, 6, 7, 8, 9] c232_3) (.block 0 (.loop [0, 6, 7, 8, 9] c232_7))) (.seq (.reg [0, 6, 7, 10] c232_8) (.block 2 (.loop [0, 6, 7, 10] c232_13)))))))
def c232 : SFunc := ⟨3, 56, c232_body, []⟩
/- slices.breakPatternsOrdered[int] -/
def c233_0 : List SOper := [o_ 11 (.mov (t_ 2)),
  o_ 12 (.mov (t_ 1)),
  o_ 13 (.bin .sub (t_ 11) (t_ 12)),
  o_ 6 (.mov (t_ 13))]
def c233_1 : List SOper := [o_ 14 (.mov (t_ 6)),
  o_ 15 (.bin .geq (t_ 14) (k_ 8))]
def c233_2 : List SOper := [o_ 16 (.mov (t_ 6)),
  o_ 17 (.conv .u64 (t_ 16)),
  o_ 7 (.alloc [(.int .u64 (0))]),
  n_ (.store1 (t_ 7) (t_ 17))]
def c233_3 : List SOper := [o_ 18 (.mov (t_ 6)),
  o_ 19 (.call 225 [(t_ 18)]),
  o_ 8 (.mov (t_ 19))]
def c233_4 : List SOper := [o_ 20 (.mov (t_ 1)),
  o_ 21 (.mov (t_ 6)),
  o_ 22 (.bin .quo (t_ 21) (k_ 4)),
  o_ 23 (.bin .mul (t_ 22) (k_ 2)),
  o_ 24 (.bin .add (t_ 20) (t_ 23)),
  o_ 25 (.bin .sub (t_ 24) (k_ 1)),
  o_ 9 (.mov (t_ 25))]
def c233_5 : List SOper := [o_ 26 (.mov (t_ 9)),
  o_ 27 (.mov (t_ 1)),
  o_ 28 (.mov (t_ 6)),
  o_ 29 (.bin .quo (t_ 28) (k_ 4)),
  o_ 30 (.bin .mul (t_ 29) (k_ 2)),
  o_ 31 (.bin .add (t_ 27) (t_ 30)),
  o_ 32 (.bin .add (t_ 31) (k_ 1)),
  o_ 33 (.bin .leq (t_ 26) (t_ 32))]
def c233_6 : List SOper := [o_ 36 (.call 226 [(t_ 7)]),
  o_ 37 (.mov (t_ 8)),
  o_ 38 (.bin .sub (t_ 37) (.const (.int .u64 (1)))),
  o_ 39 (.bin .and (t_ 36) (t_ 38)),
  o_ 40 (.conv .i64 (t_ 39)),
  o_ 10 (.mov (t_ 40))]
def c233_7 : List SOper := [o_ 41 (.mov (t_ 10)),
  o_ 42 (.mov (t_ 6)),
  o_ 43 (.bin .geq (t_ 41) (t_ 42))]
def c233_8 : List SOper := [o_ 44 (.mov (t_ 10)),
  o_ 45 (.mov (t_ 6)),
  o_ 46 (.bin .sub (t_ 44) (t_ 45)),
  o_ 10 (.mov (t_ 46))]
def c233_9 : List SOper := [⟨(some 47), .mov (t_ 0), none, [0], 0, [], 0, 0, []⟩,
  ⟨(some 48), .mov (t_ 9), none, [9], 1, [], 0, 0, []⟩,
  ⟨(some 49), .mov (t_ 0), none, [0], 2, [], 0, 0, []⟩,
  ⟨(some 50), .mov (t_ 1), none, [1], 3, [], 0, 0, []⟩,
  ⟨(some 51), .mov (t_ 10), none, [10], 4, [], 0, 0, []⟩,
  ⟨(some 52), .bin .add (t_ 50) (t_ 51), none, [50, 51], 5, [3, 4], 0, 0, []⟩,
  ⟨(some 53), .mov (t_ 0), none, [0], 6, [], 0, 0, []⟩,
  ⟨(some 54), .mov (t_ 1), none, [1], 7, [], 0, 0, []⟩,
  ⟨(some 55), .mov (t_ 10), none, [10], 8, [], 0, 0, []⟩,
  ⟨(some 56), .bin .add (t_ 54) (t_ 55), none, [54, 55], 9, [7, 8], 0, 0, []⟩,
  ⟨(some 57), .idxS 1 (t_ 53) (t_ 56), none, [53, 56], 10, [6, 9], 0, 0, []⟩,
  ⟨(some 58), .load1 (t_ 57), none, [57], 11, [10], 0, 0, []⟩,
  ⟨(some 59), .mov (t_ 0), none, [0], 12, [], 0, 0, []⟩,
  ⟨(some 60), .mov (t_ 9), none, [9], 13, [], 0, 0, []⟩,
  ⟨(some 61), .idxS 1 (t_ 59) (t_ 60), none, [59, 60], 14, [12, 13], 0, 0, []⟩,
  ⟨(some 62), .load1 (t_ 61), none, [61], 15, [14], 0, 0, []⟩,
  ⟨(some 63), .idxS 1 (t_ 47) (t_ 48), none, [47, 48], 16, [0, 1, 0, 1, 6, 7, 8, 9, 10, 11, 15], 0, 0, []⟩,
  ⟨(some 64), .idxS 1 (t_ 49) (t_ 52), none, [49, 52], 18, [2, 5, 0, 1, 2, 3, 4, 5, 6, 7, 8, 9, 10, 11, 12, 13, 14, 15, 16, 17], 0, 0, []⟩]
def c233_9b : List SOper := [⟨none, .store1 (t_ 63) (t_ 58), none, [63, 58], 17, [16, 11, 0, 1, 6, 7, 8, 9, 10, 11, 15], 0, 0, [11, 15]⟩,
  ⟨none, .store1 (t_ 64) (t_ 62), none, [64, 62], 19, [18, 15, 17, 0, 1, 2, 3, 4, 5, 6, 7, 8, 9, 10, 11, 12, 13, 14, 15, 16, 17], 0, 0, [11, 15]⟩]
def c233_10 : List SOper := [o_ 34 (.mov (t_ 9)),
  o_ 35 (.bin .add (t_ 34) (k_ 1)),
  o_ 9 (.mov (t_ 35))]
def c233_11 : SCode := (.seq (.seq (.reg [0, 1, 6, 7, 8, 9, 33] c233_5) (.cond (t_ 33) .skip (.exit 0))) (.seq (.block 1 (.seq (.reg [0, 1, 6, 7, 8, 9, 10] c233_6) (.seq (.seq (.reg [0, 1, 6, 7, 8, 9, 10, 43] c233_7) (.cond (t_ 43) (.reg [0, 1, 6, 7, 8, 9, 10] c233_8) .skip)) (.dreg [0, 1, 6, 7, 8, 9] c233_9 c233_9b)))) (.reg [0, 1, 6, 7, 8, 9] c233_10)))
def c233_body : SCode := (.seq (.reg [0, 1, 6] c233_0) (.seq (.reg [0, 1, 6, 15] c233_1) (.cond (t_ 15) (.seq (.reg [0, 1, 6, 7] c233_2) (.seq (.reg [0, 1, 6, 7, 8] c233_3) (.seq (.reg [0, 1, 6, 7, 8, 9] c233_4) (.block 0 (.loop [0, 1, 6, 7, 8, 9] c233_11))))) .skip)))
def c233 : SFunc := ⟨3, 65, c233_body, []⟩
/- slices.choosePivotOrdered[int] -/
def c234_0 : List SOper := [o_ 6 (.mov (k_ 0)),
  o_ 7 (.mov (k_ 0))]
def c234_1 : List SOper := [o_ 13 (.mov (t_ 2)),
  o_ 14 (.mov (t_ 1)),
  o_ 15 (.bin .sub (t_ 13) (t_ 14)),
  o_ 8 (.mov (t_ 15))]
def c234_2 : List SOper := [o_ 9 (.alloc [(.int .i64 (0))])]
def c234_3 : List SOper := [o_ 16 (.mov (t_ 1)),
  o_ 17 (.mov (t_ 8)),
  o_ 18 (.bin .quo (t_ 17) (k_ 4)),
  o_ 19 (.bin .mul (t_ 18) (k_ 1)),
  o_ 20 (.bin .add (t_ 16) (t_ 19)),
  o_ 10 (.mov (t_ 20))]
def c234_4 : List SOper := [o_ 21 (.mov (t_ 1)),
  o_ 22 (.mov (t_ 8)),
  o_ 23 (.bin .quo (t_ 22) (k_ 4)),
  o_ 24 (.bin .mul (t_ 23) (k_ 2)),
  o_ 25 (.bin .add (t_ 21) (t_ 24)),
  o_ 11 (.mov (t_ 25))]
def c234_5 : List SOper := [o_ 26 (.mov (t_ 1)),
  o_ 27 (.mov (t_ 8)),
  o_ 28 (.bin .quo (t_ 27) (k_ 4)),
  o_ 29 (.bin .mul (t_ 28) (k_ 3)),
  o_ 30 (.bin .add (t_ 26) (t_ 29)),
  o_ 12 (.mov (t_ 30))]
def c234_6 : List SOper := [o_ 31 (.mov (t_ 8)),
  o_ 32 (.bin .geq (t_ 31) (k_ 8))]
def c234_7 : List SOper := [o_ 33 (.mov (t_ 8)),
  o_ 34 (.bin .geq (t_ 33) (k_ 50))]
def c234_8 : List SOper := [o_ 35 (.mov (t_ 0)),
  o_ 36 (.mov (t_ 10)),
  o_ 37 (.call 253 [(t_ 35), (t_ 36), (t_ 9)]),
  o_ 10 (.mov (t_ 37))]
def c234_9 : List SOper := [o_ 38 (.mov (t_ 0)),
  o_ 39 (.mov (t_ 11)),
  o_ 40 (.call 253 [(t_ 38), (t_ 39), (t_ 9)]),
  o_ 11 (.mov (t_ 40))]
def c234_10 : List SOper := [o_ 41 (.mov (t_ 0)),
  o_ 42 (.mov (t_ 12)),
  o_ 43 (.call 253 [(t_ 41), (t_ 42), (t_ 9)]),
  o_ 12 (.mov (t_ 43))]
def c234_11 : List SOper := [o_ 44 (.mov (t_ 0)),
  o_ 45 (.mov (t_ 10)),
  o_ 46 (.mov (t_ 11)),
  o_ 47 (.mov (t_ 12)),
  o_ 48 (.call 254 [(t_ 44), (t_ 45), (t_ 46), (t_ 47), (t_ 9)]),
  o_ 11 (.mov (t_ 48))]
def c234_12 : List SOper := [o_ 49 (.load1 (t_ 9))]
def c234_13 : List SOper := [o_ 52 (.bin .eql (t_ 49) (k_ 0)),
  o_ 51 (.mov (t_ 52))]
def c234_14 : List SOper := [o_ 53 (.mov (t_ 11)),
  o_ 6 (.mov (t_ 53)),
  o_ 7 (.mov (k_ 1))]
def c234_15 : List SOper := [o_ 55 (.bin .eql (t_ 49) (k_ 12)),
  o_ 54 (.mov (t_ 55))]
def c234_16 : List SOper := [o_ 56 (.mov (t_ 11)),
  o_ 6 (.mov (t_ 56)),
  o_ 7 (.mov (k_ 2))]
def c234_17 : List SOper := [o_ 50 (.mov (t_ 11)),
  o_ 6 (.mov (t_ 50)),
  o_ 7 (.mov (k_ 0))]
def c234_body : SCode := (.seq (.reg [0, 1, 2] c234_0) (.seq (.reg [0, 1, 8] c234_1) (.seq (.reg [0, 1, 8, 9] c234_2) (.seq (.reg [0, 1, 8, 9, 10] c234_3) (.seq (.reg [0, 1, 8, 9, 10, 11] c234_4) (.seq (.reg [0, 8, 9, 10, 11, 12] c234_5) (.seq (.seq (.reg [0, 8, 9, 10, 11, 12, 32] c234_6) (.cond (t_ 32) (.seq (.seq (.reg [0, 9, 10, 11, 12, 34] c234_7) (.cond (t_ 34) (.seq (.reg [0, 9, 10, 11, 12] c234_8) (.seq (.reg [0, 9, 10, 11, 12] c234_9) (.reg [0, 9, 10, 11, 12] c234_10))) .skip)) (.reg [9, 11] c234_11)) .skip)) (.seq (.reg [11, 49] c234_12) (.block 0 (.seq (.reg [11, 49, 51] c234_13) (.cond (t_ 51) (.seq (.reg [6, 7] c234_14) .ret) (.seq (.reg [11, 54] c234_15) (.cond (t_ 54) (.seq (.reg [6, 7] c234_16) .ret) (.seq (.reg [6, 7] c234_17) .ret))))))))))))))
def c234 : SFunc := ⟨3, 57, c234_body, [.tmp 6, .tmp 7]⟩
/- slices.reverseRangeOrdered[int] -/
def c235_0 : List SOper := [o_ 8 (.mov (t_ 1)),
  o_ 6 (.mov (t_ 8))]
def c235_1 : List SOper := [o_ 9 (.mov (t_ 2)),
  o_ 10 (.bin .sub (t_ 9) (k_ 1)),
  o_ 7 (.mov (t_ 10))]
def c235_2 : List SOper := [o_ 11 (.mov (t_ 6)),
  o_ 12 (.mov (t_ 7)),
  o_ 13 (.bin .lss (t_ 11) (t_ 12))]
def c235_3 : List SOper := [⟨(some 14), .mov (t_ 0), none, [0], 0, [], 0, 0, []⟩,
  ⟨(some 15), .mov (t_ 6), none, [6], 1, [], 0, 0, []⟩,
  ⟨(some 16), .mov (t_ 0), none, [0], 2, [], 0, 0, []⟩,
  ⟨(some 17), .mov (t_ 7), none, [7], 3, [], 0, 0, []⟩,
  ⟨(some 18), .mov (t_ 0), none, [0], 4, [], 0, 0, []⟩,
  ⟨(some 19), .mov (t_ 7), none, [7], 5, [], 0, 0, []⟩,
  ⟨(some 20), .idxS 1 (t_ 18) (t_ 19), none, [18, 19], 6, [4, 5], 0, 0, []⟩,
  ⟨(some 21), .load1 (t_ 20), none, [20], 7, [6], 0, 0, []⟩,
  ⟨(some 22), .mov (t_ 0), none, [0], 8, [], 0, 0, []⟩,
  ⟨(some 23), .mov (t_ 6), none, [6], 9, [], 0, 0, []⟩,
  ⟨(some 24), .idxS 1 (t_ 22) (t_ 23), none, [22, 23], 10, [8, 9], 0, 0, []⟩,
  ⟨(some 25), .load1 (t_ 24), none, [24], 11, [10], 0, 0, []⟩,
  ⟨(some 26), .idxS 1 (t_ 14) (t_ 15), none, [14, 15], 12, [0, 1, 0, 1, 4, 5, 6, 7, 11], 0, 0, []⟩,
  ⟨(some 27), .idxS 1 (t_ 16) (t_ 17), none, [16, 17], 14, [2, 3, 0, 1, 2, 3, 4, 5, 6, 7, 8, 9, 10, 11, 12, 13], 0, 0, []⟩]
def c235_3b : List SOper := [⟨none, .store1 (t_ 26) (t_ 21), none, [26, 21], 13, [12, 7, 0, 1, 4, 5, 6, 7, 11], 0, 0, [7, 11]⟩,
  ⟨none, .store1 (t_ 27) (t_ 25), none, [27, 25], 15, [14, 11, 13, 0, 1, 2, 3, 4, 5, 6, 7, 8, 9, 10, 11, 12, 13], 0, 0, [7, 11]⟩]
def c235_4 : List SOper := [o_ 28 (.mov (t_ 6)),
  o_ 29 (.bin .add (t_ 28) (k_ 1)),
  o_ 6 (.mov (t_ 29))]
def c235_5 : List SOper := [o_ 30 (.mov (t_ 7)),
  o_ 31 (.bin .sub (t_ 30) (k_ 1)),
  o_ 7 (.mov (t_ 31))]
def c235_6 : SCode := (.seq (.seq (.reg [0, 6, 7, 13] c235_2) (.cond (t_ 13) .skip (.exit 0))) (.block 1 (.seq (.dreg [0, 6, 7] c235_3 c235_3b) (.seq (.reg [0, 6, 7] c235_4) (.reg [0, 6, 7] c235_5)))))
def c235_body : SCode := (.seq (.reg [0, 2, 6] c235_0) (.seq (.reg [0, 6, 7] c235_1) (.block 0 (.loop [0, 6, 7] c235_6))))
def c235 : SFunc := ⟨3, 32, c235_body, []⟩
/- slices.partialInsertionSortOrdered[int] -/
def c236_0 : List SOper := [o_ 6 (.mov (.const (.bool false)))]
def c236_1 : List SOper := [o_ 11 (.mov (t_ 1)),
  o_ 12 (.bin .add (t_ 11) (k_ 1)),
  o_ 7 (.mov (t_ 12))]
def c236_2 : List SOper := [o_ 8 (.mov (k_ 0))]
def c236_3 : List SOper := [o_ 13 (.mov (t_ 8)),
  o_ 14 (.bin .lss (t_ 13) (k_ 5))]
def c236_4 : List SOper := [⟨(some 17), .mov (t_ 7), none, [7], 0, [], 0, 0, []⟩,
  ⟨(some 18), .mov (t_ 2), none, [2], 1, [], 0, 0, []⟩,
  ⟨(some 19), .bin .lss (t_ 17) (t_ 18), none, [17, 18], 2, [0, 1], 0, 0, []⟩,
  ⟨(some 20), .mov (t_ 19), none, [19], 3, [2], 0, 0, []⟩,
  ⟨(some 21), .mov (t_ 0), (some (20, true)), [0, 20], 4, [3], 0, 0, []⟩,
  ⟨(some 22), .mov (t_ 7), (some (20, true)), [7, 20], 5, [3], 0, 0, []⟩,
  ⟨(some 23), .idxS 1 (t_ 21) (t_ 22), (some (20, true)), [21, 22, 20], 6, [4, 5, 3], 0, 0, []⟩,
  ⟨(some 24), .load1 (t_ 23), (some (20, true)), [23, 20], 7, [6, 3], 0, 0, []⟩,
  ⟨(some 25), .mov (t_ 0), (some (20, true)), [0, 20], 8, [3], 0, 0, []⟩,
  ⟨(some 26), .mov (t_ 7), (some (20, true)), [7, 20], 9, [3], 0, 0, []⟩,
  ⟨(some 27), .bin .sub (t_ 26) (k_ 1), (some (20, true)), [26, 20], 10, [9, 3], 0, 0, []⟩,
  ⟨(some 28), .idxS 1 (t_ 25) (t_ 27), (some (20, true)), [25, 27, 20], 11, [8, 10, 3], 0, 0, []⟩,
  ⟨(some 29), .load1 (t_ 28), (some (20, true)), [28, 20], 12, [11, 3], 0, 0, []⟩,
  ⟨(some 30), .call 237 [(t_ 24), (t_ 29)], (some (20, true)), [24, 29, 20], 13, [7, 12, 3, 3], 0, 0, []⟩,
  ⟨(some 31), .un .not (t_ 30), (some (20, true)), [30, 20], 14, [13, 3], 0, 0, []⟩,
  ⟨(some 32), .pick (t_ 20) (t_ 31) (.const (.bool false)), none, [20, 31], 15, [3, 14], 0, 0, []⟩]
def c236_4b : List SOper := []
def c236_5 : List SOper := [o_ 33 (.mov (t_ 7)),
  o_ 34 (.bin .add (t_ 33) (k_ 1)),
  o_ 7 (.mov (t_ 34))]
def c236_6 : SCode := (.seq (.seq (.dreg [0, 1, 2, 7, 8, 32] c236_4 c236_4b) (.cond (t_ 32) .skip (.exit 2))) (.block 3 (.reg [0, 1, 2, 7, 8] c236_5)))
def c236_7 : List SOper := [o_ 35 (.mov (t_ 7)),
  o_ 36 (.mov (t_ 2)),
  o_ 37 (.bin .eql (t_ 35) (t_ 36))]
def c236_8 : List SOper := [o_ 6 (.mov (.const (.bool true)))]
def c236_9 : List SOper := [o_ 38 (.mov (t_ 2)),
  o_ 39 (.mov (t_ 1)),
  o_ 40 (.bin .sub (t_ 38) (t_ 39)),
  o_ 41 (.bin .lss (t_ 40) (k_ 50))]
def c236_10 : List SOper := [o_ 6 (.mov (.const (.bool false)))]
def c236_11 : List SOper := [⟨(some 42), .mov (t_ 0), none, [0], 0, [], 0, 0, []⟩,
  ⟨(some 43), .mov (t_ 7), none, [7], 1, [], 0, 0, []⟩,
  ⟨(some 44), .mov (t_ 0), none, [0], 2, [], 0, 0, []⟩,
  ⟨(some 45), .mov (t_ 7), none, [7], 3, [], 0, 0, []⟩,
  ⟨(some 46), .bin .sub (t_ 45) (k_ 1), none, [45], 4, [3], 0, 0, []⟩,
  ⟨(some 47), .mov (t_ 0), none, [0], 5, [], 0, 0, []⟩,
  ⟨(some 48), .mov (t_ 7), none, [7], 6, [], 0, 0, []⟩,
  ⟨(some 49), .bin .sub (t_ 48) (k_ 1), none, [48], 7, [6], 0, 0, []⟩,
  ⟨(some 50), .idxS 1 (t_ 47) (t_ 49), none, [47, 49], 8, [5, 7], 0, 0, []⟩,
  ⟨(some 51), .load1 (t_ 50), none, [50], 9, [8], 0, 0, []⟩,
  ⟨(some 52), .mov (t_ 0), none, [0], 10, [], 0, 0, []⟩,
  ⟨(some 53), .mov (t_ 7), none, [7], 11, [], 0, 0, []⟩,
  ⟨(some 54), .idxS 1 (t_ 52) (t_ 53), none, [52, 53], 12, [10, 11], 0, 0, []⟩,
  ⟨(some 55), .load1 (t_ 54), none, [54], 13, [12], 0, 0, []⟩,
  ⟨(some 56), .idxS 1 (t_ 42) (t_ 43), none, [42, 43], 14, [0, 1, 0, 1, 5, 6, 7, 8, 9, 13], 0, 0, []⟩,
  ⟨(some 57), .idxS 1 (t_ 44) (t_ 46), none, [44, 46], 16, [2, 4, 0, 1, 2, 3, 4, 5, 6, 7, 8, 9, 10, 11, 12, 13, 14, 15], 0, 0, []⟩]
def c236_11b : List SOper := [⟨none, .store1 (t_ 56) (t_ 51), none, [56, 51], 15, [14, 9, 0, 1, 5, 6, 7, 8, 9, 13], 0, 0, [9, 13]⟩,
  ⟨none, .store1 (t_ 57) (t_ 55), none, [57, 55], 17, [16, 13, 15, 0, 1, 2, 3, 4, 5, 6, 7, 8, 9, 10, 11, 12, 13, 14, 15], 0, 0, [9, 13]⟩]
def c236_12 : List SOper := [o_ 58 (.mov (t_ 7)),
  o_ 59 (.mov (t_ 1)),
  o_ 60 (.bin .sub (t_ 58) (t_ 59)),
  o_ 61 (.bin .geq (t_ 60) (k_ 2))]
def c236_13 : List SOper := [o_ 62 (.mov (t_ 7)),
  o_ 63 (.bin .sub (t_ 62) (k_ 1)),
  o_ 9 (.mov (t_ 63))]
def c236_14 : List SOper := [o_ 64 (.mov (t_ 9)),
  o_ 65 (.bin .geq (t_ 64) (k_ 1))]
def c236_15 : List SOper := [⟨(some 68), .mov (t_ 0), none, [0], 0, [], 0, 0, []⟩,
  ⟨(some 69), .mov (t_ 9), none, [9], 1, [], 0, 0, []⟩,
  ⟨(some 70), .idxS 1 (t_ 68) (t_ 69), none, [68, 69], 2, [0, 1], 0, 0, []⟩,
  ⟨(some 71), .load1 (t_ 70), none, [70], 3, [2], 0, 0, []⟩,
  ⟨(some 72), .mov (t_ 0), none, [0], 4, [], 0, 0, []⟩,
  ⟨(some 73), .mov (t_ 9), none, [9], 5, [], 0, 0, []⟩,
  ⟨(some 74), .bin .sub (t_ 73) (k_ 1), none, [73], 6, [5], 0, 0, []⟩,
  ⟨(some 75), .idxS 1 (t_ 72) (t_ 74), none, [72, 74], 7, [4, 6], 0, 0, []⟩,
  ⟨(some 76), .load1 (t_ 75), none, [75], 8, [7], 0, 0, []⟩,
  ⟨(some 77), .call 237 [(t_ 71), (t_ 76)], none, [71, 76], 9, [3, 8], 0, 0, []⟩,
  ⟨(some 78), .un .not (t_ 77), none, [77], 10, [9], 0, 0, []⟩]
def c236_15b : List SOper := []
def c236_16 : List SOper := [⟨(some 79), .mov (t_ 0), none, [0], 0, [], 0, 0, []⟩,
  ⟨(some 80), .mov (t_ 9), none, [9], 1, [], 0, 0, []⟩,
  ⟨(some 81), .mov (t_ 0), none, [0], 2, [], 0, 0, []⟩,
  ⟨(some 82), .mov (t_ 9), none, [9], 3, [], 0, 0, []⟩,
  ⟨(some 83), .bin .sub (t_ 82) (k_ 1), none, [82], 4, [3], 0, 0, []⟩,
  ⟨(some 84), .mov (t_ 0), none, [0], 5, [], 0, 0, []⟩,
  ⟨(some 85), .mov (t_ 9), none, [9], 6, [], 0, 0, []⟩,
  ⟨(some 86), .bin .sub (t_ 85) (k_ 1), none, [85], 7, [6], 0, 0, []⟩,
  ⟨(some 87), .idxS 1 (t_ 84) (t_ 86), none, [84, 86], 8, [5, 7], 0, 0, []⟩,
  ⟨(some 88), .load1 (t_ 87), none, [87], 9, [8], 0, 0, []⟩,
  ⟨(some 89), .mov (t_ 0), none, [0], 10, [], 0, 0, []⟩,
  ⟨(some 90), .mov (t_ 9), none, [9], 11, [], 0, 0, []⟩,
  ⟨(some 91), .idxS 1 (t_ 89) (t_ 90), none, [89, 90], 12, [10, 11], 0, 0, []⟩,
  ⟨(some 92), .load1 (t_ 91), none, [91], 13, [12], 0, 0, []⟩,
  ⟨(some 93), .idxS 1 (t_ 79) (t_ 80), none, [79, 80], 14, [0, 1, 0, 1, 5, 6, 7, 8, 9, 13], 0, 0, []⟩,
  ⟨(some 94), .idxS 1 (t_ 81) (t_ 83), none, [81, 83], 16, [2, 4, 0, 1, 2, 3, 4, 5, 6, 7, 8, 9, 10, 11, 12, 13, 14, 15], 0, 0, []⟩]
def c236_16b : List SOper := [⟨none, .store1 (t_ 93) (t_ 88), none, [93, 88], 15, [14, 9, 0, 1, 5, 6, 7, 8, 9, 13], 0, 0, [9, 13]⟩,
  ⟨none, .store1 (t_ 94) (t_ 92), none, [94, 92], 17, [16, 13, 15, 0, 1, 2, 3, 4, 5, 6, 7, 8, 9, 10, 11, 12, 13, 14, 15], 0, 0, [9, 13]⟩]
def c236_17 : List SOper := [o_ 66 (.mov (t_ 9)),
  o_ 67 (.bin .sub (t_ 66) (k_ 1)),
  o_ 9 (.mov (t_ 67))]
def c236_18 : SCode := (.seq (.seq (.reg [0, 1, 2, 7, 8, 9, 65] c236_14) (.cond (t_ 65) .skip (.exit 4))) (.seq (.block 5 (.seq (.seq (.dreg [0, 1, 2, 7, 8, 9, 78] c236_15 c236_15b) (.cond (t_ 78) (.exit 4) .skip)) (.dreg [0, 1, 2, 7, 8, 9] c236_16 c236_16b))) (.reg [0, 1, 2, 7, 8, 9] c236_17)))
def c236_19 : List SOper := [o_ 95 (.mov (t_ 2)),
  o_ 96 (.mov (t_ 7)),
  o_ 97 (.bin .sub (t_ 95) (t_ 96)),
  o_ 98 (.bin .geq (t_ 97) (k_ 2))]
def c236_20 : List SOper := [o_ 99 (.mov (t_ 7)),
  o_ 100 (.bin .add (t_ 99) (k_ 1)),
  o_ 10 (.mov (t_ 100))]
def c236_21 : List SOper := [o_ 101 (.mov (t_ 10)),
  o_ 102 (.mov (t_ 2)),
  o_ 103 (.bin .lss (t_ 101) (t_ 102))]
def c236_22 : List SOper := [⟨(some 106), .mov (t_ 0), none, [0], 0, [], 0, 0, []⟩,
  ⟨(some 107), .mov (t_ 10), none, [10], 1, [], 0, 0, []⟩,
  ⟨(some 108), .idxS 1 (t_ 106) (t_ 107), none, [106, 107], 2, [0, 1], 0, 0, []⟩,
  ⟨(some 109), .load1 (t_ 108), none, [108], 3, [2], 0, 0, []⟩,
  ⟨(some 110), .mov (t_ 0), none, [0], 4, [], 0, 0, []⟩,
  ⟨(some 111), .mov (t_ 10), none, [10], 5, [], 0, 0, []⟩,
  ⟨(some 112), .bin .sub (t_ 111) (k_ 1), none, [111], 6, [5], 0, 0, []⟩,
  ⟨(some 113), .idxS 1 (t_ 110) (t_ 112), none, [110, 112], 7, [4, 6], 0, 0, []⟩,
  ⟨(some 114), .load1 (t_ 113), none, [113], 8, [7], 0, 0, []⟩,
  ⟨(some 115), .call 237 [(t_ 109), (t_ 114)], none, [109, 114], 9, [3, 8], 0, 0, []⟩,
  ⟨(some 116), .un .not (t_ 115), none, [115], 10, [9], 0, 0, []⟩]
def c236_22b : List SOper := []
def c236_23 : List SOper := [⟨(some 117), .mov (t_ 0), none, [0], 0, [], 0, 0, []⟩,
  ⟨(some 118), .mov (t_ 10), none, [10], 1, [], 0, 0, []⟩,
  ⟨(some 119), .mov (t_ 0), none, [0], 2, [], 0, 0, []⟩,
  ⟨(some 120), .mov (t_ 10), none, [10], 3, [], 0, 0, []⟩,
  ⟨(some 121), .bin .sub (t_ 120) (k_ 1), none, [120], 4, [3], 0, 0, []⟩,
  ⟨(some 122), .mov (t_ 0), none, [0], 5, [], 0, 0, []⟩,
  ⟨(some 123), .mov (t_ 10), none, [10], 6, [], 0, 0, []⟩,
  ⟨(some 124), .bin .sub (t_ 123) (k_ 1), none, [123], 7, [6], 0, 0, []⟩,
  ⟨(some 125), .idxS 1 (t_ 122) (t_ 124), none, [122, 124], 8, [5, 7], 0, 0, []⟩,
  ⟨(some 126), .load1 (t_ 125), none, [125], 9, [8], 0, 0, []⟩,
  ⟨(some 127), .mov (t_ 0), none, [0], 10, [], 0, 0, []⟩,
  ⟨(some 128), .mov (t_ 10), none, [10], 11, [], 0, 0, []⟩,
  ⟨(some 129), .idxS 1 (t_ 127) (t_ 128), none, [127, 128], 12, [10, 11], 0, 0, []⟩,
  ⟨(some 130), .load1 (t_ 129), none, [129], 13, [12], 0, 0, []⟩,
  ⟨(some 131), .idxS 1 (t_ 117) (t_ 118), none, [117, 118], 14, [0, 1, 0, 1, 5, 6, 7, 8, 9, 13], 0, 0, []⟩,
  ⟨(some 132), .idxS 1 (t_ 119) (t_ 121), none, [119, 121], 16, [2, 4, 0, 1, 2, 3, 4, 5, 6, 7, 8, 9, 10, 11, 12, 13, 14, 15], 0, 0, []⟩]
def c236_23b : List SOper := [⟨none, .store1 (t_ 131) (t_ 126), none, [131, 126], 15, [14, 9, 0, 1, 5, 6, 7, 8, 9, 13], 0, 0, [9, 13]⟩,
  ⟨none, .store1 (t_ 132) (t_ 130), none, [132, 130], 17, [16, 13, 15, 0, 1, 2, 3, 4, 5, 6, 7, 8, 9, 10, 11, 12, 13, 14, 15], 0, 0, [9, 13]⟩]
def c236_24 : List SOper := [o_ 104 (.mov (t_ 10)),
  o_ 105 (.bin .add (t_ 104) (k_ 1)),
  o_ 10 (.mov (t_ 105))]
def c236_25 : SCode := (.seq (.seq (.reg [0, 1, 2, 7, 8, 10, 103] c236_21) (.cond (t_ 103) .skip (.exit 6))) (.seq (.block 7 (.seq (.seq (.dreg [0, 1, 2, 7, 8, 10, 116] c236_22 c236_22b) (.cond (t_ 116) (.exit 6) .skip)) (.dreg [0, 1, 2, 7, 8, 10] c236_23 c236_23b))) (.reg [0, 1, 2, 7, 8, 10] c236_24)))
def c236_26 : List SOper := [o_ 15 (.mov (t_ 8)),
  o_ 16 (.bin .add (t_ 15) (k_ 1)),
  o_ 8 (.mov (t_ 16))]
def c236_27 : SCode := (.seq (.seq (.reg [0, 1, 2, 7, 8, 14] c236_3) (.cond (t_ 14) .skip (.exit 0))) (.seq (.block 1 (.seq (.block 2 (.loop [0, 1, 2, 7, 8] c236_6)) (.seq (.seq (.reg [0, 1, 2, 7, 8, 37] c236_7) (.cond (t_ 37) (.seq (.reg [6] c236_8) .ret) .skip)) (.seq (.seq (.reg [0, 1, 2, 7, 8, 41] c236_9) (.cond (t_ 41) (.seq (.reg [6] c236_10) .ret) .skip)) (.seq (.dreg [0, 1, 2, 7, 8] c236_11 c236_11b) (.seq (.seq (.reg [0, 1, 2, 7, 8, 61] c236_12) (.cond (t_ 61) (.seq (.reg [0, 1, 2, 7, 8, 9] c236_13) (.block 4 (.loop [0, 1, 2, 7, 8, 9] c236_18))) .skip)) (.seq (.reg [0, 1, 2, 7, 8, 98] c236_19) (.cond (t_ 98) (.seq (.reg [0, 1, 2, 7, 8, 10] c236_20) (.block 6 (.loop [0, 1, 2, 7, 8, 10] c236_25))) .skip)))))))) (.reg [0, 1, 2, 7, 8] c236_26)))
def c236_28 : List SOper := [o_ 6 (.mov (.const (.bool false)))]
def c236_body : SCode := (.seq (.reg [0, 1, 2] c236_0) (.seq (.reg [0, 1, 2, 7] c236_1) (.seq (.seq (.reg [0, 1, 2, 7, 8] c236_2) (.block 0 (.loop [0, 1, 2, 7, 8] c236_27))) (.seq (.reg [6] c236_28) .ret))))
def c236 : SFunc := ⟨3, 133, c236_body, [.tmp 6]⟩
/- cmp.Less[int] -/
def c237_0 : List SOper := [o_ 4 (.mov (.const (.bool false)))]
def c237_1 : List SOper := [o_ 5 (.mov (t_ 0)),
  o_ 6 (.call 229 [(t_ 5)]),
  o_ 7 (.mov (t_ 6)),
  g_ 8 7 true (.mov (t_ 1)),
  g_ 9 7 true (.call 229 [(t_ 8)]),
  g_ 10 7 true (.un .not (t_ 9)),
  o_ 11 (.pick (t_ 7) (t_ 10) (.const (.bool false))),
  o_ 12 (.mov (t_ 11)),
  g_ 13 12 false (.mov (t_ 0)),
  g_ 14 12 false (.mov (t_ 1)),
  g_ 15 12 false (.bin .lss (t_ 13) (t_ 14)),
  o_ 16 (.pick (t_ 12) (.const (.bool true)) (t_ 15)),
  o_ 4 (.mov (t_ 16))]
def c237_body : SCode := (.seq (.reg [0, 1] c237_0) (.seq (.reg [4] c237_1) .ret))
def c237 : SFunc := ⟨2, 17, c237_body, [.tmp 4]⟩
/- slices.partitionEqualOrdered[int] -/
def c238_0 : List SOper := [o_ 8 (.mov (k_ 0))]
def c238_1 : List SOper := [⟨(some 11), .mov (t_ 0), none, [0], 0, [], 0, 0, []⟩,
  ⟨(some 12), .mov (t_ 1), none, [1], 1, [], 0, 0, []⟩,
  ⟨(some 13), .mov (t_ 0), none, [0], 2, [], 0, 0, []⟩,
  ⟨(some 14), .mov (t_ 3), none, [3], 3, [], 0, 0, []⟩,
  ⟨(some 15), .mov (t_ 0), none, [0], 4, [], 0, 0, []⟩,
  ⟨(some 16), .mov (t_ 3), none, [3], 5, [], 0, 0, []⟩,
  ⟨(some 17), .idxS 1 (t_ 15) (t_ 16), none, [15, 16], 6, [4, 5], 0, 0, []⟩,
  ⟨(some 18), .load1 (t_ 17), none, [17], 7, [6], 0, 0, []⟩,
  ⟨(some 19), .mov (t_ 0), none, [0], 8, [], 0, 0, []⟩,
  ⟨(some 20), .mov (t_ 1), none, [1], 9, [], 0, 0, []⟩,
  ⟨(some 21), .idxS 1 (t_ 19) (t_ 20), none, [19, 20], 10, [8, 9], 0, 0, []⟩,
  ⟨(some 22), .load1 (t_ 21), none, [21], 11, [10], 0, 0, []⟩,
  ⟨(some 23), .idxS 1 (t_ 11) (t_ 12), none, [11, 12], 12, [0, 1, 0, 1, 4, 5, 6, 7, 11], 0, 0, []⟩,
  ⟨(some 24), .idxS 1 (t_ 13) (t_ 14), none, [13, 14], 14, [2, 3, 0, 1, 2, 3, 4, 5, 6, 7, 8, 9, 10, 11, 12, 13], 0, 0, []⟩]
def c238_1b : List SOper := [⟨none, .store1 (t_ 23) (t_ 18), none, [23, 18], 13, [12, 7, 0, 1, 4, 5, 6, 7, 11], 0, 0, [7, 11]⟩,
  ⟨none, .store1 (t_ 24) (t_ 22), none, [24, 22], 15, [14, 11, 13, 0, 1, 2, 3, 4, 5, 6, 7, 8, 9, 10, 11, 12, 13], 0, 0, [7, 11]⟩]
def c238_2 : List SOper := [o_ 25 (.mov (t_ 1)),
  o_ 26 (.bin .add (t_ 25) (k_ 1)),
  o_ 27 (.mov (t_ 2)),
  o_ 28 (.bin .sub (t_ 27) (k_ 1)),
  o_ 9 (.mov (t_ 26)),
  o_ 10 (.mov (t_ 28))]
def c238_3 : List SOper := [⟨(some 29), .mov (t_ 9), none, [9], 0, [], 0, 0, []⟩,
  ⟨(some 30), .mov (t_ 10), none, [10], 1, [], 0, 0, []⟩,
  ⟨(some 31), .bin .leq (t_ 29) (t_ 30), none, [29, 30], 2, [0, 1], 0, 0, []⟩,
  ⟨(some 32), .mov (t_ 31), none, [31], 3, [2], 0, 0, []⟩,
  ⟨(some 33), .mov (t_ 0), (some (32, true)), [0, 32], 4, [3], 0, 0, []⟩,
  ⟨(some 34), .mov (t_ 1), (some (32, true)), [1, 32], 5, [3], 0, 0, []⟩,
  ⟨(some 35), .idxS 1 (t_ 33) (t_ 34), (some (32, true)), [33, 34, 32], 6, [4, 5, 3], 0, 0, []⟩,
  ⟨(some 36), .load1 (t_ 35), (some (32, true)), [35, 32], 7, [6, 3], 0, 0, []⟩,
  ⟨(some 37), .mov (t_ 0), (some (32, true)), [0, 32], 8, [3], 0, 0, []⟩,
  ⟨(some 38), .mov (t_ 9), (some (32, true)), [9, 32], 9, [3], 0, 0, []⟩,
  ⟨(some 39), .idxS 1 (t_ 37) (t_ 38), (some (32, true)), [37, 38, 32], 10, [8, 9, 3], 0, 0, []⟩,
  ⟨(some 40), .load1 (t_ 39), (some (32, true)), [39, 32], 11, [10, 3], 0, 0, []⟩,
  ⟨(some 41), .call 237 [(t_ 36), (t_ 40)], (some (32, true)), [36, 40, 32], 12, [7, 11, 3, 3], 0, 0, []⟩,
  ⟨(some 42), .un .not (t_ 41), (some (32, true)), [41, 32], 13, [12, 3], 0, 0, []⟩,
  ⟨(some 43), .pick (t_ 32) (t_ 42) (.const (.bool false)), none, [32, 42], 14, [3, 13], 0, 0, []⟩]
def c238_3b : List SOper := []
def c238_4 : List SOper := [o_ 44 (.mov (t_ 9)),
  o_ 45 (.bin .add (t_ 44) (k_ 1)),
  o_ 9 (.mov (t_ 45))]
def c238_5 : SCode := (.seq (.seq (.dreg [0, 1, 9, 10, 43] c238_3 c238_3b) (.cond (t_ 43) .skip (.exit 2))) (.block 3 (.reg [0, 1, 9, 10] c238_4)))
def c238_6 : List SOper := [⟨(some 46), .mov (t_ 9), none, [9], 0, [], 0, 0, []⟩,
  ⟨(some 47), .mov (t_ 10), none, [10], 1, [], 0, 0, []⟩,
  ⟨(some 48), .bin .leq (t_ 46) (t_ 47), none, [46, 47], 2, [0, 1], 0, 0, []⟩,
  ⟨(some 49), .mov (t_ 48), none, [48], 3, [2], 0, 0, []⟩,
  ⟨(some 50), .mov (t_ 0), (some (49, true)), [0, 49], 4, [3], 0, 0, []⟩,
  ⟨(some 51), .mov (t_ 1), (some (49, true)), [1, 49], 5, [3], 0, 0, []⟩,
  ⟨(some 52), .idxS 1 (t_ 50) (t_ 51), (some (49, true)), [50, 51, 49], 6, [4, 5, 3], 0, 0, []⟩,
  ⟨(some 53), .load1 (t_ 52), (some (49, true)), [52, 49], 7, [6, 3], 0, 0, []⟩,
  ⟨(some 54), .mov (t_ 0), (some (49, true)), [0, 49], 8, [3], 0, 0, []⟩,
  ⟨(some 55), .mov (t_ 10), (some (49, true)), [10, 49], 9, [3], 0, 0, []⟩,
  ⟨(some 56), .idxS 1 (t_ 54) (t_ 55), (some (49, true)), [54, 55, 49], 10, [8, 9, 3], 0, 0, []⟩,
  ⟨(some 57), .load1 (t_ 56), (some (49, true)), [56, 49], 11, [10, 3], 0, 0, []⟩,
  ⟨(some 58), .call 237 [(t_ 53), (t_ 57)], (some (49, true)), [53, 57, 49], 12, [7, 11, 3, 3], 0, 0, []⟩,
  ⟨(some 59), .pick (t_ 49) (t_ 58) (.const (.bool false)), none, [49, 58], 13, [3, 12], 0, 0, []⟩]
def c238_6b : List SOper := []
def c238_7 : List SOper := [o_ 60 (.mov (t_ 10)),
  o_ 61 (.bin .sub (t_ 60) (k_ 1)),
  o_ 10 (.mov (t_ 61))]
def c238_8 : SCode := (.seq (.seq (.dreg [0, 1, 9, 10, 59] c238_6 c238_6b) (.cond (t_ 59) .skip (.exit 4))) (.block 5 (.reg [0, 1, 9, 10] c238_7)))
def c238_9 : List SOper := [o_ 62 (.mov (t_ 9)),
  o_ 63 (.mov (t_ 10)),
  o_ 64 (.bin .gtr (t_ 62) (t_ 63))]
def c238_10 : List SOper := [⟨(some 65), .mov (t_ 0), none, [0], 0, [], 0, 0, []⟩,
  ⟨(some 66), .mov (t_ 9), none, [9], 1, [], 0, 0, []⟩,
  ⟨(some 67), .mov (t_ 0), none, [0], 2, [], 0, 0, []⟩,
  ⟨(some 68), .mov (t_ 10), none, [10], 3, [], 0, 0, []⟩,
  ⟨(some 69), .mov (t_ 0), none, [0], 4, [], 0, 0, []⟩,
  ⟨(some 70), .mov (t_ 10), none, [10], 5, [], 0, 0, []⟩,
  ⟨(some 71), .idxS 1 (t_ 69) (t_ 70), none, [69, 70], 6, [4, 5], 0, 0, []⟩,
  ⟨(some 72), .load1 (t_ 71), none, [71], 7, [6], 0, 0, []⟩,
  ⟨(some 73), .mov (t_ 0), none, [0], 8, [], 0, 0, []⟩,
  ⟨(some 74), .mov (t_ 9), none, [9], 9, [], 0, 0, []⟩,
  ⟨(some 75), .idxS 1 (t_ 73) (t_ 74), none, [73, 74], 10, [8, 9], 0, 0, []⟩,
  ⟨(some 76), .load1 (t_ 75), none, [75], 11, [10], 0, 0, []⟩,
  ⟨(some 77), .idxS 1 (t_ 65) (t_ 66), none, [65, 66], 12, [0, 1, 0, 1, 4, 5, 6, 7, 11], 0, 0, []⟩,
  ⟨(some 78), .idxS 1 (t_ 67) (t_ 68), none, [67, 68], 14, [2, 3, 0, 1, 2, 3, 4, 5, 6, 7, 8, 9, 10, 11, 12, 13], 0, 0, []⟩]
def c238_10b : List SOper := [⟨none, .store1 (t_ 77) (t_ 72), none, [77, 72], 13, [12, 7, 0, 1, 4, 5, 6, 7, 11], 0, 0, [7, 11]⟩,
  ⟨none, .store1 (t_ 78) (t_ 76), none, [78, 76], 15, [14, 11, 13, 0, 1, 2, 3, 4, 5, 6, 7, 8, 9, 10, 11, 12, 13], 0, 0, [7, 11]⟩]
def c238_11 : List SOper := [o_ 79 (.mov (t_ 9)),
  o_ 80 (.bin .add (t_ 79) (k_ 1)),
  o_ 9 (.mov (t_ 80))]
def c238_12 : List SOper := [o_ 81 (.mov (t_ 10)),
  o_ 82 (.bin .sub (t_ 81) (k_ 1)),
  o_ 10 (.mov (t_ 82))]
def c238_13 : SCode := (.block 1 (.seq (.block 2 (.loop [0, 1, 9, 10] c238_5)) (.seq (.block 4 (.loop [0, 1, 9, 10] c238_8)) (.seq (.seq (.reg [0, 1, 9, 10, 64] c238_9) (.cond (t_ 64) (.exit 0) .skip)) (.seq (.dreg [0, 1, 9, 10] c238_10 c238_10b) (.seq (.reg [0, 1, 9, 10] c238_11) (.reg [0, 1, 9, 10] c238_12)))))))
def c238_14 : List SOper := [o_ 83 (.mov (t_ 9)),
  o_ 8 (.mov (t_ 83))]
def c238_body : SCode := (.seq (.reg [0, 1, 2, 3] c238_0) (.seq (.dreg [0, 1, 2] c238_1 c238_1b) (.seq (.reg [0, 1, 9, 10] c238_2) (.seq (.block 0 (.loop [0, 1, 9, 10] c238_13)) (.seq (.reg [8] c238_14) .ret)))))
def c238 : SFunc := ⟨4, 84, c238_body, [.tmp 8]⟩
/- slices.partitionOrdered[int] -/
def c239_0 : List SOper := [o_ 8 (.mov (k_ 0)),
  o_ 9 (.mov (.const (.bool false)))]
def c239_1 : List SOper := [⟨(some 12), .mov (t_ 0), none, [0], 0, [], 0, 0, []⟩,
  ⟨(some 13), .mov (t_ 1), none, [1], 1, [], 0, 0, []⟩,
  ⟨(some 14), .mov (t_ 0), none, [0], 2, [], 0, 0, []⟩,
  ⟨(some 15), .mov (t_ 3), none, [3], 3, [], 0, 0, []⟩,
  ⟨(some 16), .mov (t_ 0), none, [0], 4, [], 0, 0, []⟩,
  ⟨(some 17), .mov (t_ 3), none, [3], 5, [], 0, 0, []⟩,
  ⟨(some 18), .idxS 1 (t_ 16) (t_ 17), none, [16, 17], 6, [4, 5], 0, 0, []⟩,
  ⟨(some 19), .load1 (t_ 18), none, [18], 7, [6], 0, 0, []⟩,
  ⟨(some 20), .mov (t_ 0), none, [0], 8, [], 0, 0, []⟩,
  ⟨(some 21), .mov (t_ 1), none, [1], 9, [], 0, 0, []⟩,
  ⟨(some 22), .idxS 1 (t_ 20) (t_ 21), none, [20, 21], 10, [8, 9], 0, 0, []⟩,
  ⟨(some 23), .load1 (t_ 22), none, [22], 11, [10], 0, 0, []⟩,
  ⟨(some 24), .idxS 1 (t_ 12) (t_ 13), none, [12, 13], 12, [0, 1, 0, 1, 4, 5, 6, 7, 11], 0, 0, []⟩,
  ⟨(some 25), .idxS 1 (t_ 14) (t_ 15), none, [14, 15], 14, [2, 3, 0, 1, 2, 3, 4, 5, 6, 7, 8, 9, 10, 11, 12, 13], 0, 0, []⟩]
def c239_1b : List SOper := [⟨none, .store1 (t_ 24) (t_ 19), none, [24, 19], 13, [12, 7, 0, 1, 4, 5, 6, 7, 11], 0, 0, [7, 11]⟩,
  ⟨none, .store1 (t_ 25) (t_ 23), none, [25, 23], 15, [14, 11, 13, 0, 1, 2, 3, 4, 5, 6, 7, 8, 9, 10, 11, 12, 13], 0, 0, [7, 11]⟩]
def c239_2 : List SOper := [o_ 26 (.mov (t_ 1)),
  o_ 27 (.bin .add (t_ 26) (k_ 1)),
  o_ 28 (.mov (t_ 2)),
  o_ 29 (.bin .sub (t_ 28) (k_ 1)),
  o_ 10 (.mov (t_ 27)),
  o_ 11 (.mov (t_ 29))]
def c239_3 : List SOper := [⟨(some 30), .mov (t_ 10), none, [10], 0, [], 0, 0, []⟩,
  ⟨(some 31), .mov (t_ 11), none, [11], 1, [], 0, 0, []⟩,
  ⟨(some 32), .bin .leq (t_ 30) (t_ 31), none, [30, 31], 2, [0, 1], 0, 0, []⟩,
  ⟨(some 33), .mov (t_ 32), none, [32], 3, [2], 0, 0, []⟩,
  ⟨(some 34), .mov (t_ 0), (some (33, true)), [0, 33], 4, [3], 0, 0, []⟩,
  ⟨(some 35), .mov (t_ 10), (some (33, true)), [10, 33], 5, [3], 0, 0, []⟩,
  ⟨(some 36), .idxS 1 (t_ 34) (t_ 35), (some (33, true)), [34, 35, 33], 6, [4, 5, 3], 0, 0, []⟩,
  ⟨(some 37), .load1 (t_ 36), (some (33, true)), [36, 33], 7, [6, 3], 0, 0, []⟩,
  ⟨(some 38), .mov (t_ 0), (some (33, true)), [0, 33], 8, [3], 0, 0, []⟩,
  ⟨(some 39), .mov (t_ 1), (some (33, true)), [1, 33], 9, [3], 0, 0, []⟩,
  ⟨(some 40), .idxS 1 (t_ 38) (t_ 39), (some (33, true)), [38, 39, 33], 10, [8, 9, 3], 0, 0, []⟩,
  ⟨(some 41), .load1 (t_ 40), (some (33, true)), [40, 33], 11, [10, 3], 0, 0, []⟩,
  ⟨(some 42), .call 237 [(t_ 37), (t_ 41)], (some (33, true)), [37, 41, 33], 12, [7, 11, 3, 3], 0, 0, []⟩,
  ⟨(some 43), .pick (t_ 33) (t_ 42) (.const (.bool false)), none, [33, 42], 13, [3, 12], 0, 0, []⟩]
def c239_3b : List SOper := []
def c239_4 : List SOper := [o_ 44 (.mov (t_ 10)),
  o_ 45 (.bin .add (t_ 44) (k_ 1)),
  o_ 10 (.mov (t_ 45))]
def c239_5 : SCode := (.seq (.seq (.dreg [0, 1, 10, 11, 43] c239_3 c239_3b) (.cond (t_ 43) .skip (.exit 0))) (.block 1 (.reg [0, 1, 10, 11] c239_4)))
def c239_6 : List SOper := [⟨(some 46), .mov (t_ 10), none, [10], 0, [], 0, 0, []⟩,
  ⟨(some 47), .mov (t_ 11), none, [11], 1, [], 0, 0, []⟩,
  ⟨(some 48), .bin .leq (t_ 46) (t_ 47), none, [46, 47], 2, [0, 1], 0, 0, []⟩,
  ⟨(some 49), .mov (t_ 48), none, [48], 3, [2], 0, 0, []⟩,
  ⟨(some 50), .mov (t_ 0), (some (49, true)), [0, 49], 4, [3], 0, 0, []⟩,
  ⟨(some 51), .mov (t_ 11), (some (49, true)), [11, 49], 5, [3], 0, 0, []⟩,
  ⟨(some 52), .idxS 1 (t_ 50) (t_ 51), (some (49, true)), [50, 51, 49], 6, [4, 5, 3], 0, 0, []⟩,
  ⟨(some 53), .load1 (t_ 52), (some (49, true)), [52, 49], 7, [6, 3], 0, 0, []⟩,
  ⟨(some 54), .mov (t_ 0), (some (49, true)), [0, 49], 8, [3], 0, 0, []⟩,
  ⟨(some 55), .mov (t_ 1), (some (49, true)), [1, 49], 9, [3], 0, 0, []⟩,
  ⟨(some 56), .idxS 1 (t_ 54) (t_ 55), (some (49, true)), [54, 55, 49], 10, [8, 9, 3], 0, 0, []⟩,
  ⟨(some 57), .load1 (t_ 56), (some (49, true)), [56, 49], 11, [10, 3], 0, 0, []⟩,
  ⟨(some 58), .call 237 [(t_ 53), (t_ 57)], (some (49, true)), [53, 57, 49], 12, [7, 11, 3, 3], 0, 0, []⟩,
  ⟨(some 59), .un .not (t_ 58), (some (49, true)), [58, 49], 13, [12, 3], 0, 0, []⟩,
  ⟨(some 60), .pick (t_ 49) (t_ 59) (.const (.bool false)), none, [49, 59], 14, [3, 13], 0, 0, []⟩]
def c239_6b : List SOper := []
def c239_7 : List SOper := [o_ 61 (.mov (t_ 11)),
  o_ 62 (.bin .sub (t_ 61) (k_ 1)),
  o_ 11 (.mov (t_ 62))]
def c239_8 : SCode := (.seq (.seq (.dreg [0, 1, 10, 11, 60] c239_6 c239_6b) (.cond (t_ 60) .skip (.exit 2))) (.block 3 (.reg [0, 1, 10, 11] c239_7)))
def c239_9 : List SOper := [o_ 63 (.mov (t_ 10)),
  o_ 64 (.mov (t_ 11)),
  o_ 65 (.bin .gtr (t_ 63) (t_ 64))]
def c239_10 : List SOper := [⟨(some 66), .mov (t_ 0), none, [0], 0, [], 0, 0, []⟩,
  ⟨(some 67), .mov (t_ 11), none, [11], 1, [], 0, 0, []⟩,
  ⟨(some 68), .mov (t_ 0), none, [0], 2, [], 0, 0, []⟩,
  ⟨(some 69), .mov (t_ 1), none, [1], 3, [], 0, 0, []⟩,
  ⟨(some 70), .mov (t_ 0), none, [0], 4, [], 0, 0, []⟩,
  ⟨(some 71), .mov (t_ 1), none, [1], 5, [], 0, 0, []⟩,
  ⟨(some 72), .idxS 1 (t_ 70) (t_ 71), none, [70, 71], 6, [4, 5], 0, 0, []⟩,
  ⟨(some 73), .load1 (t_ 72), none, [72], 7, [6], 0, 0, []⟩,
  ⟨(some 74), .mov (t_ 0), none, [0], 8, [], 0, 0, []⟩,
  ⟨(some 75), .mov (t_ 11), none, [11], 9, [], 0, 0, []⟩,
  ⟨(some 76), .idxS 1 (t_ 74) (t_ 75), none, [74, 75], 10, [8, 9], 0, 0, []⟩,
  ⟨(some 77), .load1 (t_ 76), none, [76], 11, [10], 0, 0, []⟩,
  ⟨(some 78), .idxS 1 (t_ 66) (t_ 67), none, [66, 67], 12, [0, 1, 0, 1, 4, 5, 6, 7, 11], 0, 0, []⟩,
  ⟨(some 79), .idxS 1 (t_ 68) (t_ 69), none, [68, 69], 14, [2, 3, 0, 1, 2, 3, 4, 5, 6, 7, 8, 9, 10, 11, 12, 13], 0, 0, []⟩]
def c239_10b : List SOper := [⟨none, .store1 (t_ 78) (t_ 73), none, [78, 73], 13, [12, 7, 0, 1, 4, 5, 6, 7, 11], 0, 0, [7, 11]⟩,
  ⟨none, .store1 (t_ 79) (t_ 77), none, [79, 77], 15, [14, 11, 13, 0, 1, 2, 3, 4, 5, 6, 7, 8, 9, 10, 11, 12, 13], 0, 0, [7, 11]⟩]
def c239_11 : List SOper := [o_ 80 (.mov (t_ 11)),
  o_ 8 (.mov (t_ 80)),
  o_ 9 (.mov (.const (.bool true)))]
def c239_12 : List SOper := [⟨(some 81), .mov (t_ 0), none, [0], 0, [], 0, 0, []⟩,
  ⟨(some 82), .mov (t_ 10), none, [10], 1, [], 0, 0, []⟩,
  ⟨(some 83), .mov (t_ 0), none, [0], 2, [], 0, 0, []⟩,
  ⟨(some 84), .mov (t_ 11), none, [11], 3, [], 0, 0, []⟩,
  ⟨(some 85), .mov (t_ 0), none, [0], 4, [], 0, 0, []⟩,
  ⟨(some 86), .mov (t_ 11), none, [11], 5, [], 0, 0, []⟩,
  ⟨(some 87), .idxS 1 (t_ 85) (t_ 86), none, [85, 86], 6, [4, 5], 0, 0, []⟩,
  ⟨(some 88), .load1 (t_ 87), none, [87], 7, [6], 0, 0, []⟩,
  ⟨(some 89), .mov (t_ 0), none, [0], 8, [], 0, 0, []⟩,
  ⟨(some 90), .mov (t_ 10), none, [10], 9, [], 0, 0, []⟩,
  ⟨(some 91), .idxS 1 (t_ 89) (t_ 90), none, [89, 90], 10, [8, 9], 0, 0, []⟩,
  ⟨(some 92), .load1 (t_ 91), none, [91], 11, [10], 0, 0, []⟩,
  ⟨(some 93), .idxS 1 (t_ 81) (t_ 82), none, [81, 82], 12, [0, 1, 0, 1, 4, 5, 6, 7, 11], 0, 0, []⟩,
  ⟨(some 94), .idxS 1 (t_ 83) (t_ 84), none, [83, 84], 14, [2, 3, 0, 1, 2, 3, 4, 5, 6, 7, 8, 9, 10, 11, 12, 13], 0, 0, []⟩]
def c239_12b : List SOper := [⟨none, .store1 (t_ 93) (t_ 88), none, [93, 88], 13, [12, 7, 0, 1, 4, 5, 6, 7, 11], 0, 0, [7, 11]⟩,
  ⟨none, .store1 (t_ 94) (t_ 92), none, [94, 92], 15, [14, 11, 13, 0, 1, 2, 3, 4, 5, 6, 7, 8, 9, 10, 11, 12, 13], 0, 0, [7, 11]⟩]
def c239_13 : List SOper := [o_ 95 (.mov (t_ 10)),
  o_ 96 (.bin .add (t_ 95) (k_ 1)),
  o_ 10 (.mov (t_ 96))]
def c239_14 : List SOper := [o_ 97 (.mov (t_ 11)),
  o_ 98 (.bin .sub (t_ 97) (k_ 1)),
  o_ 11 (.mov (t_ 98))]
def c239_15 : List SOper := [⟨(some 99), .mov (t_ 10), none, [10], 0, [], 0, 0, []⟩,
  ⟨(some 100), .mov (t_ 11), none, [11], 1, [], 0, 0, []⟩,
  ⟨(some 101), .bin .leq (t_ 99) (t_ 100), none, [99, 100], 2, [0, 1], 0, 0, []⟩,
  ⟨(some 102), .mov (t_ 101), none, [101], 3, [2], 0, 0, []⟩,
  ⟨(some 103), .mov (t_ 0), (some (102, true)), [0, 102], 4, [3], 0, 0, []⟩,
  ⟨(some 104), .mov (t_ 10), (some (102, true)), [10, 102], 5, [3], 0, 0, []⟩,
  ⟨(some 105), .idxS 1 (t_ 103) (t_ 104), (some (102, true)), [103, 104, 102], 6, [4, 5, 3], 0, 0, []⟩,
  ⟨(some 106), .load1 (t_ 105), (some (102, true)), [105, 102], 7, [6, 3], 0, 0, []⟩,
  ⟨(some 107), .mov (t_ 0), (some (102, true)), [0, 102], 8, [3], 0, 0, []⟩,
  ⟨(some 108), .mov (t_ 1), (some (102, true)), [1, 102], 9, [3], 0, 0, []⟩,
  ⟨(some 109), .idxS 1 (t_ 107) (t_ 108), (some (102, true)), [107, 108, 102], 10, [8, 9, 3], 0, 0, []⟩,
  ⟨(some 110), .load1 (t_ 109), (some (102, true)), [109, 102], 11, [10, 3], 0, 0, []⟩,
  ⟨(some 111), .call 237 [(t_ 106), (t_ 110)], (some (102, true)), [106, 110, 102], 12, [7, 11, 3, 3], 0, 0, []⟩,
  ⟨(some 112), .pick (t_ 102) (t_ 111) (.const (.bool false)), none, [102, 111], 13, [3, 12], 0, 0, []⟩]
def c239_15b : List SOper := []
def c239_16 : List SOper := [o_ 113 (.mov (t_ 10)),
  o_ 114 (.bin .add (t_ 113) (k_ 1)),
  o_ 10 (.mov (t_ 114))]
def c239_17 : SCode := (.seq (.seq (.dreg [0, 1, 10, 11, 112] c239_15 c239_15b) (.cond (t_ 112) .skip (.exit 6))) (.block 7 (.reg [0, 1, 10, 11] c239_16)))
def c239_18 : List SOper := [⟨(some 115), .mov (t_ 10), none, [10], 0, [], 0, 0, []⟩,
  ⟨(some 116), .mov (t_ 11), none, [11], 1, [], 0, 0, []⟩,
  ⟨(some 117), .bin .leq (t_ 115) (t_ 116), none, [115, 116], 2, [0, 1], 0, 0, []⟩,
  ⟨(some 118), .mov (t_ 117), none, [117], 3, [2], 0, 0, []⟩,
  ⟨(some 119), .mov (t_ 0), (some (118, true)), [0, 118], 4, [3], 0, 0, []⟩,
  ⟨(some 120), .mov (t_ 11), (some (118, true)), [11, 118], 5, [3], 0, 0, []⟩,
  ⟨(some 121), .idxS 1 (t_ 119) (t_ 120), (some (118, true)), [119, 120, 118], 6, [4, 5, 3], 0, 0, []⟩,
  ⟨(some 122), .load1 (t_ 121), (some (118, true)), [121, 118], 7, [6, 3], 0, 0, []⟩,
  ⟨(some 123), .mov (t_ 0), (some (118, true)), [0, 118], 8, [3], 0, 0, []⟩,
  ⟨(some 124), .mov (t_ 1), (some (118, true)), [1, 118], 9, [3], 0, 0, []⟩,
  ⟨(some 125), .idxS 1 (t_ 123) (t_ 124), (some (118, true)), [123, 124, 118], 10, [8, 9, 3], 0, 0, []⟩,
  ⟨(some 126), .load1 (t_ 125), (some (118, true)), [125, 118], 11, [10, 3], 0, 0, []⟩,
  ⟨(some 127), .call 237 [(t_ 122), (t_ 126)], (some (118, true)), [122, 126, 118], 12, [7, 11, 3, 3], 0, 0, []⟩,
  ⟨(some 128), .un .not (t_ 127), (some (118, true)), [127, 118], 13, [12, 3], 0, 0, []⟩,
  ⟨(some 129), .pick (t_ 118) (t_ 128) (.const (.bool false)), none, [118, 128], 14, [3, 13], 0, 0, []⟩]
def c239_18b : List SOper := []
def c239_19 : List SOper := [o_ 130 (.mov (t_ 11)),
  o_ 131 (.bin .sub (t_ 130) (k_ 1)),
  o_ 11 (.mov (t_ 131))]
def c239_20 : SCode := (.seq (.seq (.dreg [0, 1, 10, 11, 129] c239_18 c239_18b) (.cond (t_ 129) .skip (.exit 8))) (.block 9 (.reg [0, 1, 10, 11] c239_19)))
def c239_21 : List SOper := [o_ 132 (.mov (t_ 10)),
  o_ 133 (.mov (t_ 11)),
  o_ 134 (.bin .gtr (t_ 132) (t_ 133))]
def c239_22 : List SOper := [⟨(some 135), .mov (t_ 0), none, [0], 0, [], 0, 0, []⟩,
  ⟨(some 136), .mov (t_ 10), none, [10], 1, [], 0, 0, []⟩,
  ⟨(some 137), .mov (t_ 0), none, [0], 2, [], 0, 0, []⟩,
  ⟨(some 138), .mov (t_ 11), none, [11], 3, [], 0, 0, []⟩,
  ⟨(some 139), .mov (t_ 0), none, [0], 4, [], 0, 0, []⟩,
  ⟨(some 140), .mov (t_ 11), none, [11], 5, [], 0, 0, []⟩,
  ⟨(some 141), .idxS 1 (t_ 139) (t_ 140), none, [139, 140], 6, [4, 5], 0, 0, []⟩,
  ⟨(some 142), .load1 (t_ 141), none, [141], 7, [6], 0, 0, []⟩,
  ⟨(some 143), .mov (t_ 0), none, [0], 8, [], 0, 0, []⟩,
  ⟨(some 144), .mov (t_ 10), none, [10], 9, [], 0, 0, []⟩,
  ⟨(some 145), .idxS 1 (t_ 143) (t_ 144), none, [143, 144], 10, [8, 9], 0, 0, []⟩,
  ⟨(some 146), .load1 (t_ 145), none, [145], 11, [10], 0, 0, []⟩,
  ⟨(some 147), .idxS 1 (t_ 135) (t_ 136), none, [135, 136], 12, [0, 1, 0, 1, 4, 5, 6, 7, 11], 0, 0, []⟩,
  ⟨(some 148), .idxS 1 (t_ 137) (t_ 138), none, [137, 138], 14, [2, 3, 0, 1, 2, 3, 4, 5, 6, 7, 8, 9, 10, 11, 12, 13], 0, 0, []⟩]
def c239_22b : List SOper := [⟨none, .store1 (t_ 147) (t_ 142), none, [147, 142], 13, [12, 7, 0, 1, 4, 5, 6, 7, 11], 0, 0, [7, 11]⟩,
  ⟨none, .store1 (t_ 148) (t_ 146), none, [148, 146], 15, [14, 11, 13, 0, 1, 2, 3, 4, 5, 6, 7, 8, 9, 10, 11, 12, 13], 0, 0, [7, 11]⟩]
def c239_23 : List SOper := [o_ 149 (.mov (t_ 10)),
  o_ 150 (.bin .add (t_ 149) (k_ 1)),
  o_ 10 (.mov (t_ 150))]
def c239_24 : List SOper := [o_ 151 (.mov (t_ 11)),
  o_ 152 (.bin .sub (t_ 151) (k_ 1)),
  o_ 11 (.mov (t_ 152))]
def c239_25 : SCode := (.block 5 (.seq (.block 6 (.loop [0, 1, 10, 11] c239_17)) (.seq (.block 8 (.loop [0, 1, 10, 11] c239_20)) (.seq (.seq (.reg [0, 1, 10, 11, 134] c239_21) (.cond (t_ 134) (.exit 4) .skip)) (.seq (.dreg [0, 1, 10, 11] c239_22 c239_22b) (.seq (.reg [0, 1, 10, 11] c239_23) (.reg [0, 1, 10, 11] c239_24)))))))
def c239_26 : List SOper := [⟨(some 153), .mov (t_ 0), none, [0], 0, [], 0, 0, []⟩,
  ⟨(some 154), .mov (t_ 11), none, [11], 1, [], 0, 0, []⟩,
  ⟨(some 155), .mov (t_ 0), none, [0], 2, [], 0, 0, []⟩,
  ⟨(some 156), .mov (t_ 1), none, [1], 3, [], 0, 0, []⟩,
  ⟨(some 157), .mov (t_ 0), none, [0], 4, [], 0, 0, []⟩,
  ⟨(some 158), .mov (t_ 1), none, [1], 5, [], 0, 0, []⟩,
  ⟨(some 159), .idxS 1 (t_ 157) (t_ 158), none, [157, 158], 6, [4, 5], 0, 0, []⟩,
  ⟨(some 160), .load1 (t_ 159), none, [159], 7, [6], 0, 0, []⟩,
  ⟨(some 161), .mov (t_ 0), none, [0], 8, [], 0, 0, []⟩,
  ⟨(some 162), .mov (t_ 11), none, [11], 9, [], 0, 0, []⟩,
  ⟨(some 163), .idxS 1 (t_ 161) (t_ 162), none, [161, 162], 10, [8, 9], 0, 0, []⟩,
  ⟨(some 164), .load1 (t_ 163), none, [163], 11, [10], 0, 0, []⟩,
  ⟨(some 165), .idxS 1 (t_ 153) (t_ 154), none, [153, 154], 12, [0, 1, 0, 1, 4, 5, 6, 7, 11], 0, 0, []⟩,
  ⟨(some 166), .idxS 1 (t_ 155) (t_ 156), none, [155, 156], 14, [2, 3, 0, 1, 2, 3, 4, 5, 6, 7, 8, 9, 10, 11, 12, 13], 0, 0, []⟩]
def c239_26b : List SOper := [⟨none, .store1 (t_ 165) (t_ 160), none, [165, 160], 13, [12, 7, 0, 1, 4, 5, 6, 7, 11], 0, 0, [7, 11]⟩,
  ⟨none, .store1 (t_ 166) (t_ 164), none, [166, 164], 15, [14, 11, 13, 0, 1, 2, 3, 4, 5, 6, 7, 8, 9, 10, 11, 12, 13], 0, 0, [7, 11]⟩]
def c239_27 : List SOper := [o_ 167 (.mov (t_ 11)),
  o_ 8 (.mov (t_ 167)),
  o_ 9 (.mov (.const (.bool false)))]
def c239_body : SCode := (.seq (.reg [0, 1, 2, 3] c239_0) (.seq (.dreg [0, 1, 2] c239_1 c239_1b) (.seq (.reg [0, 1, 10, 11] c239_2) (.seq (.block 0 (.loop [0, 1, 10, 11] c239_5)) (.seq (.block 2 (.loop [0, 1, 10, 11] c239_8)) (.seq (.seq (.reg [0, 1, 10, 11, 65] c239_9) (.cond (t_ 65) (.seq (.dreg [11] c239_10 c239_10b) (.seq (.reg [8, 9] c239_11) .ret)) .skip)) (.seq (.dreg [0, 1, 10, 11] c239_12 c239_12b) (.seq (.reg [0, 1, 10, 11] c239_13) (.seq (.reg [0, 1, 10, 11] c239_14) (.seq (.block 4 (.loop [0, 1, 10, 11] c239_25)) (.seq (.dreg [11] c239_26 c239_26b) (.seq (.reg [8, 9] c239_27) .ret))))))))))))
def c239 : SFunc := ⟨4, 168, c239_body, [.tmp 8, .tmp 9]⟩
/- math/bits.Mul32 -/
def c249_0 : List SOper := [o_ 4 (.mov (.const (.int .u32 (0)))),
  o_ 5 (.mov (.const (.int .u32 (0))))]
def c249_1 : List SOper := [o_ 7 (.mov (t_ 0)),
  o_ 8 (.conv .u64 (t_ 7)),
  o_ 9 (.mov (t_ 1)),
  o_ 10 (.conv .u64 (t_ 9)),
  o_ 11 (.bin .mul (t_ 8) (t_ 10)),
  o_ 6 (.mov (t_ 11))]
def c249_2 : List SOper := [o_ 12 (.mov (t_ 6)),
  o_ 13 (.bin .shr (t_ 12) (.const (.int .u64 (32)))),
  o_ 14 (.conv .u32 (t_ 13)),
  o_ 15 (.mov (t_ 6)),
  o_ 16 (.conv .u32 (t_ 15)),
  o_ 4 (.mov (t_ 14)),
  o_ 5 (.mov (t_ 16))]
def c249_body : SCode := (.seq (.reg [0, 1] c249_0) (.seq (.reg [6] c249_1) (.seq (.reg [4, 5] c249_2) .ret)))
def c249 : SFunc := ⟨2, 17, c249_body, [.tmp 4, .tmp 5]⟩
/- math/bits.Mul64 -/
def c250_0 : List SOper := [o_ 4 (.mov (.const (.int .u64 (0)))),
  o_ 5 (.mov (.const (.int .u64 (0))))]
def c250_1 : List SOper := [o_ 14 (.mov (t_ 0)),
  o_ 15 (.bin .and (t_ 14) (.const (.int .u64 (4294967295)))),
  o_ 6 (.mov (t_ 15))]
def c250_2 : List SOper := [o_ 16 (.mov (t_ 0)),
  o_ 17 (.bin .shr (t_ 16) (.const (.int .u64 (32)))),
  o_ 7 (.mov (t_ 17))]
def c250_3 : List SOper := [o_ 18 (.mov (t_ 1)),
  o_ 19 (.bin .and (t_ 18) (.const (.int .u64 (4294967295)))),
  o_ 8 (.mov (t_ 19))]
def c250_4 : List SOper := [o_ 20 (.mov (t_ 1)),
  o_ 21 (.bin .shr (t_ 20) (.const (.int .u64 (32)))),
  o_ 9 (.mov (t_ 21))]
def c250_5 : List SOper := [o_ 22 (.mov (t_ 6)),
  o_ 23 (.mov (t_ 8)),
  o_ 24 (.bin .mul (t_ 22) (t_ 23)),
  o_ 10 (.mov (t_ 24))]
def c250_6 : List SOper := [o_ 25 (.mov (t_ 7)),
  o_ 26 (.mov (t_ 8)),
  o_ 27 (.bin .mul (t_ 25) (t_ 26)),
  o_ 28 (.mov (t_ 10)),
  o_ 29 (.bin .shr (t_ 28) (.const (.int .u64 (32)))),
  o_ 30 (.bin .add (t_ 27) (t_ 29)),
  o_ 11 (.mov (t_ 30))]
def c250_7 : List SOper := [o_ 31 (.mov (t_ 11)),
  o_ 32 (.bin .and (t_ 31) (.const (.int .u64 (4294967295)))),
  o_ 12 (.mov (t_ 32))]
def c250_8 : List SOper := [o_ 33 (.mov (t_ 11)),
  o_ 34 (.bin .shr (t_ 33) (.const (.int .u64 (32)))),
  o_ 13 (.mov (t_ 34))]
def c250_9 : List SOper := [o_ 35 (.mov (t_ 12)),
  o_ 36 (.mov (t_ 6)),
  o_ 37 (.mov (t_ 9)),
  o_ 38 (.bin .mul (t_ 36) (t_ 37)),
  o_ 39 (.bin .add (t_ 35) (t_ 38)),
  o_ 12 (.mov (t_ 39))]
def c250_10 : List SOper := [o_ 40 (.mov (t_ 7)),
  o_ 41 (.mov (t_ 9)),
  o_ 42 (.bin .mul (t_ 40) (t_ 41)),
  o_ 43 (.mov (t_ 13)),
  o_ 44 (.bin .add (t_ 42) (t_ 43)),
  o_ 45 (.mov (t_ 12)),
  o_ 46 (.bin .shr (t_ 45) (.const (.int .u64 (32)))),
  o_ 47 (.bin .add (t_ 44) (t_ 46)),
  o_ 4 (.mov (t_ 47))]
def c250_11 : List SOper := [o_ 48 (.mov (t_ 0)),
  o_ 49 (.mov (t_ 1)),
  o_ 50 (.bin .mul (t_ 48) (t_ 49)),
  o_ 5 (.mov (t_ 50))]
def c250_body : SCode := (.seq (.reg [0, 1] c250_0) (.seq (.reg [0, 1, 6] c250_1) (.seq (.reg [0, 1, 6, 7] c250_2) (.seq (.reg [0, 1, 6, 7, 8] c250_3) (.seq (.reg [0, 1, 6, 7, 8, 9] c250_4) (.seq (.reg [0, 1, 6, 7, 8, 9, 10] c250_5) (.seq (.reg [0, 1, 6, 7, 9, 11] c250_6) (.seq (.reg [0, 1, 6, 7, 9, 11, 12] c250_7) (.seq (.reg [0, 1, 6, 7, 9, 12, 13] c250_8) (.seq (.reg [0, 1, 7, 9, 12, 13] c250_9) (.seq (.reg [0, 1, 4] c250_10) (.seq (.reg [4, 5] c250_11) .ret))))))))))))
def c250 : SFunc := ⟨2, 51, c250_body, [.tmp 4, .tmp 5]⟩
/- slices.order2CmpFunc[jacquard/api.Exec] -/
def c251_0 : List SOper := [o_ 10 (.mov (k_ 0)),
  o_ 11 (.mov (k_ 0))]
def c251_1 : List SOper := [⟨(some 12), .mov (t_ 4), none, [4], 0, [], 0, 0, []⟩,
  ⟨(some 13), .mov (t_ 0), none, [0], 1, [], 0, 0, []⟩,
  ⟨(some 14), .mov (t_ 2), none, [2], 2, [], 0, 0, []⟩,
  ⟨(some 15), .idxS 3 (t_ 13) (t_ 14), none, [13, 14], 3, [1, 2], 0, 0, []⟩,
  ⟨(some 16), .loadN 3 (t_ 15), none, [15], 4, [3], 0, 0, []⟩,
  ⟨(some 17), .mov (t_ 0), none, [0], 5, [], 0, 0, []⟩,
  ⟨(some 18), .mov (t_ 1), none, [1], 6, [], 0, 0, []⟩,
  ⟨(some 19), .idxS 3 (t_ 17) (t_ 18), none, [17, 18], 7, [5, 6], 0, 0, []⟩,
  ⟨(some 20), .loadN 3 (t_ 19), none, [19], 8, [7], 0, 0, []⟩,
  ⟨(some 21), .callv (t_ 12) [(t_ 16), (t_ 20)], none, [12, 16, 20], 9, [0, 4, 8], 0, 0, []⟩,
  ⟨(some 22), .bin .lss (t_ 21) (k_ 0), none, [21], 10, [9], 0, 0, []⟩]
def c251_1b : List SOper := []
def c251_2 : List SOper := [o_ 23 (.mov (t_ 3)),
  o_ 24 (.nilchk (t_ 23)),
  o_ 25 (.load1 (t_ 24)),
  o_ 26 (.bin .add (t_ 25) (k_ 1)),
  o_ 27 (.nilchk (t_ 23)),
  n_ (.store1 (t_ 27) (t_ 26))]
def c251_3 : List SOper := [o_ 28 (.mov (t_ 2)),
  o_ 29 (.mov (t_ 1)),
  o_ 10 (.mov (t_ 28)),
  o_ 11 (.mov (t_ 29))]
def c251_4 : List SOper := [o_ 30 (.mov (t_ 1)),
  o_ 31 (.mov (t_ 2)),
  o_ 10 (.mov (t_ 30)),
  o_ 11 (.mov (t_ 31))]
def c251_body : SCode := (.seq (.reg [0, 1, 2, 3, 4] c251_0) (.seq (.seq (.dreg [1, 2, 3, 22] c251_1 c251_1b) (.cond (t_ 22) (.seq (.reg [1, 2] c251_2) (.seq (.reg [10, 11] c251_3) .ret)) .skip)) (.seq (.reg [10, 11] c251_4) .ret)))
def c251 : SFunc := ⟨5, 32, c251_body, [.tmp 10, .tmp 11]⟩
/- slices.siftDownOrdered[int] -/
def c252_0 : List SOper := [o_ 10 (.mov (t_ 1)),
  o_ 8 (.mov (t_ 10))]
def c252_1 : List SOper := [o_ 11 (.mov (t_ 8)),
  o_ 12 (.bin .mul (k_ 2) (t_ 11)),
  o_ 13 (.bin .add (t_ 12) (k_ 1)),
  o_ 9 (.mov (t_ 13))]
def c252_2 : List SOper := [o_ 14 (.mov (t_ 9)),
  o_ 15 (.mov (t_ 2)),
  o_ 16 (.bin .geq (t_ 14) (t_ 15))]
def c252_3 : List SOper := [⟨(some 17), .mov (t_ 9), none, [9], 0, [], 0, 0, []⟩,
  ⟨(some 18), .bin .add (t_ 17) (k_ 1), none, [17], 1, [0], 0, 0, []⟩,
  ⟨(some 19), .mov (t_ 2), none, [2], 2, [], 0, 0, []⟩,
  ⟨(some 20), .bin .lss (t_ 18) (t_ 19), none, [18, 19], 3, [1, 2], 0, 0, []⟩,
  ⟨(some 21), .mov (t_ 20), none, [20], 4, [3], 0, 0, []⟩,
  ⟨(some 22), .mov (t_ 0), (some (21, true)), [0, 21], 5, [4], 0, 0, []⟩,
  ⟨(some 23), .mov (t_ 3), (some (21, true)), [3, 21], 6, [4], 0, 0, []⟩,
  ⟨(some 24), .mov (t_ 9), (some (21, true)), [9, 21], 7, [4], 0, 0, []⟩,
  ⟨(some 25), .bin .add (t_ 23) (t_ 24), (some (21, true)), [23, 24, 21], 8, [6, 7, 4], 0, 0, []⟩,
  ⟨(some 26), .idxS 1 (t_ 22) (t_ 25), (some (21, true)), [22, 25, 21], 9, [5, 8, 4], 0, 0, []⟩,
  ⟨(some 27), .load1 (t_ 26), (some (21, true)), [26, 21], 10, [9, 4], 0, 0, []⟩,
  ⟨(some 28), .mov (t_ 0), (some (21, true)), [0, 21], 11, [4], 0, 0, []⟩,
  ⟨(some 29), .mov (t_ 3), (some (21, true)), [3, 21], 12, [4], 0, 0, []⟩,
  ⟨(some 30), .mov (t_ 9), (some (21, true)), [9, 21], 13, [4], 0, 0, []⟩,
  ⟨(some 31), .bin .add (t_ 29) (t_ 30), (some (21, true)), [29, 30, 21], 14, [12, 13, 4], 0, 0, []⟩,
  ⟨(some 32), .bin .add (t_ 31) (k_ 1), (some (21, true)), [31, 21], 15, [14, 4], 0, 0, []⟩,
  ⟨(some 33), .idxS 1 (t_ 28) (t_ 32), (some (21, true)), [28, 32, 21], 16, [11, 15, 4], 0, 0, []⟩,
  ⟨(some 34), .load1 (t_ 33), (some (21, true)), [33, 21], 17, [16, 4], 0, 0, []⟩,
  ⟨(some 35), .call 237 [(t_ 27), (t_ 34)], (some (21, true)), [27, 34, 21], 18, [10, 17, 4, 4], 0, 0, []⟩,
  ⟨(some 36), .pick (t_ 21) (t_ 35) (.const (.bool false)), none, [21, 35], 19, [4, 18], 0, 0, []⟩]
def c252_3b : List SOper := []
def c252_4 : List SOper := [o_ 37 (.mov (t_ 9)),
  o_ 38 (.bin .add (t_ 37) (k_ 1)),
  o_ 9 (.mov (t_ 38))]
def c252_5 : List SOper := [⟨(some 39), .mov (t_ 0), none, [0], 0, [], 0, 0, []⟩,
  ⟨(some 40), .mov (t_ 3), none, [3], 1, [], 0, 0, []⟩,
  ⟨(some 41), .mov (t_ 8), none, [8], 2, [], 0, 0, []⟩,
  ⟨(some 42), .bin .add (t_ 40) (t_ 41), none, [40, 41], 3, [1, 2], 0, 0, []⟩,
  ⟨(some 43), .idxS 1 (t_ 39) (t_ 42), none, [39, 42], 4, [0, 3], 0, 0, []⟩,
  ⟨(some 44), .load1 (t_ 43), none, [43], 5, [4], 0, 0, []⟩,
  ⟨(some 45), .mov (t_ 0), none, [0], 6, [], 0, 0, []⟩,
  ⟨(some 46), .mov (t_ 3), none, [3], 7, [], 0, 0, []⟩,
  ⟨(some 47), .mov (t_ 9), none, [9], 8, [], 0, 0, []⟩,
  ⟨(some 48), .bin .add (t_ 46) (t_ 47), none, [46, 47], 9, [7, 8], 0, 0, []⟩,
  ⟨(some 49), .idxS 1 (t_ 45) (t_ 48), none, [45, 48], 10, [6, 9], 0, 0, []⟩,
  ⟨(some 50), .load1 (t_ 49), none, [49], 11, [10], 0, 0, []⟩,
  ⟨(some 51), .call 237 [(t_ 44), (t_ 50)], none, [44, 50], 12, [5, 11], 0, 0, []⟩,
  ⟨(some 52), .un .not (t_ 51), none, [51], 13, [12], 0, 0, []⟩]
def c252_5b : List SOper := []
def c252_6 : List SOper := [⟨(some 53), .mov (t_ 0), none, [0], 0, [], 0, 0, []⟩,
  ⟨(some 54), .mov (t_ 3), none, [3], 1, [], 0, 0, []⟩,
  ⟨(some 55), .mov (t_ 8), none, [8], 2, [], 0, 0, []⟩,
  ⟨(some 56), .bin .add (t_ 54) (t_ 55), none, [54, 55], 3, [1, 2], 0, 0, []⟩,
  ⟨(some 57), .mov (t_ 0), none, [0], 4, [], 0, 0, []⟩,
  ⟨(some 58), .mov (t_ 3), none, [3], 5, [], 0, 0, []⟩,
  ⟨(some 59), .mov (t_ 9), none, [9], 6, [], 0, 0, []⟩,
  ⟨(some 60), .bin .add (t_ 58) (t_ 59), none, [58, 59], 7, [5, 6], 0, 0, []⟩,
  ⟨(some 61), .mov (t_ 0), none, [0], 8, [], 0, 0, []⟩,
  ⟨(some 62), .mov (t_ 3), none, [3], 9, [], 0, 0, []⟩,
  ⟨(some 63), .mov (t_ 9), none, [9], 10, [], 0, 0, []⟩,
  ⟨(some 64), .bin .add (t_ 62) (t_ 63), none, [62, 63], 11, [9, 10], 0, 0, []⟩,
  ⟨(some 65), .idxS 1 (t_ 61) (t_ 64), none, [61, 64], 12, [8, 11], 0, 0, []⟩,
  ⟨(some 66), .load1 (t_ 65), none, [65], 13, [12], 0, 0, []⟩,
  ⟨(some 67), .mov (t_ 0), none, [0], 14, [], 0, 0, []⟩,
  ⟨(some 68), .mov (t_ 3), none, [3], 15, [], 0, 0, []⟩,
  ⟨(some 69), .mov (t_ 8), none, [8], 16, [], 0, 0, []⟩,
  ⟨(some 70), .bin .add (t_ 68) (t_ 69), none, [68, 69], 17, [15, 16], 0, 0, []⟩,
  ⟨(some 71), .idxS 1 (t_ 67) (t_ 70), none, [67, 70], 18, [14, 17], 0, 0, []⟩,
  ⟨(some 72), .load1 (t_ 71), none, [71], 19, [18], 0, 0, []⟩,
  ⟨(some 73), .idxS 1 (t_ 53) (t_ 56), none, [53, 56], 20, [0, 3, 0, 1, 2, 3, 8, 9, 10, 11, 12, 13, 19], 0, 0, []⟩,
  ⟨(some 74), .idxS 1 (t_ 57) (t_ 60), none, [57, 60], 22, [4, 7, 0, 1, 2, 3, 4, 5, 6, 7, 8, 9, 10, 11, 12, 13, 14, 15, 16, 17, 18, 19, 20, 21], 0, 0, []⟩]
def c252_6b : List SOper := [⟨none, .store1 (t_ 73) (t_ 66), none, [73, 66], 21, [20, 13, 0, 1, 2, 3, 8, 9, 10, 11, 12, 13, 19], 0, 0, [13, 19]⟩,
  ⟨none, .store1 (t_ 74) (t_ 72), none, [74, 72], 23, [22, 19, 21, 0, 1, 2, 3, 4, 5, 6, 7, 8, 9, 10, 11, 12, 13, 14, 15, 16, 17, 18, 19, 20, 21], 0, 0, [13, 19]⟩]
def c252_7 : List SOper := [o_ 75 (.mov (t_ 9)),
  o_ 8 (.mov (t_ 75))]
def c252_8 : SCode := (.block 1 (.seq (.reg [0, 2, 3, 8, 9] c252_1) (.seq (.seq (.reg [0, 2, 3, 8, 9, 16] c252_2) (.cond (t_ 16) (.exit 0) .skip)) (.seq (.seq (.dreg [0, 2, 3, 8, 9, 36] c252_3 c252_3b) (.cond (t_ 36) (.reg [0, 2, 3, 8, 9] c252_4) .skip)) (.seq (.seq (.dreg [0, 2, 3, 8, 9, 52] c252_5 c252_5b) (.cond (t_ 52) .ret .skip)) (.seq (.dreg [0, 2, 3, 9] c252_6 c252_6b) (.reg [0, 2, 3, 8] c252_7)))))))
def c252_body : SCode := (.seq (.reg [0, 2, 3, 8] c252_0) (.block 0 (.loop [0, 2, 3, 8] c252_8)))
def c252 : SFunc := ⟨4, 76, c252_body, []⟩
/- slices.medianAdjacentOrdered[int] -/
def c253_0 : List SOper := [o_ 6 (.mov (k_ 0))]
def c253_1 : List SOper := [o_ 7 (.mov (t_ 0)),
  o_ 8 (.mov (t_ 1)),
  o_ 9 (.bin .sub (t_ 8) (k_ 1)),
  o_ 10 (.mov (t_ 1)),
  o_ 11 (.mov (t_ 1)),
  o_ 12 (.bin .add (t_ 11) (k_ 1)),
  o_ 13 (.mov (t_ 2)),
  o_ 14 (.call 254 [(t_ 7), (t_ 9), (t_ 10), (t_ 12), (t_ 13)]),
  o_ 6 (.mov (t_ 14))]
def c253_body : SCode := (.seq (.reg [0, 1, 2] c253_0) (.seq (.reg [6] c253_1) .ret))
def c253 : SFunc := ⟨3, 15, c253_body, [.tmp 6]⟩
/- slices.medianOrdered[int] -/
def c254_0 : List SOper := [o_ 10 (.mov (k_ 0))]
def c254_1 : List SOper := [o_ 12 (.mov (t_ 0)),
  o_ 13 (.mov (t_ 1)),
  o_ 14 (.mov (t_ 2)),
  o_ 15 (.mov (t_ 4)),
  o_ 16 (.call 257 [(t_ 12), (t_ 13), (t_ 14), (t_ 15)]),
  o_ 11 (.mov (t_ 16)),
  o_ 17 (.extr (t_ 11) 0),
  o_ 18 (.extr (t_ 11) 1),
  o_ 1 (.mov (t_ 17)),
  o_ 2 (.mov (t_ 18))]
def c254_2 : List SOper := [o_ 20 (.mov (t_ 0)),
  o_ 21 (.mov (t_ 2)),
  o_ 22 (.mov (t_ 3)),
  o_ 23 (.mov (t_ 4)),
  o_ 24 (.call 257 [(t_ 20), (t_ 21), (t_ 22), (t_ 23)]),
  o_ 19 (.mov (t_ 24)),
  o_ 25 (.extr (t_ 19) 0),
  o_ 26 (.extr (t_ 19) 1),
  o_ 2 (.mov (t_ 25)),
  o_ 3 (.mov (t_ 26))]
def c254_3 : List SOper := [o_ 28 (.mov (t_ 0)),
  o_ 29 (.mov (t_ 1)),
  o_ 30 (.mov (t_ 2)),
  o_ 31 (.mov (t_ 4)),
  o_ 32 (.call 257 [(t_ 28), (t_ 29), (t_ 30), (t_ 31)]),
  o_ 27 (.mov (t_ 32)),
  o_ 33 (.extr (t_ 27) 0),
  o_ 34 (.extr (t_ 27) 1),
  o_ 1 (.mov (t_ 33)),
  o_ 2 (.mov (t_ 34))]
def c254_4 : List SOper := [o_ 35 (.mov (t_ 2)),
  o_ 10 (.mov (t_ 35))]
def c254_body : SCode := (.seq (.reg [0, 1, 2, 3, 4] c254_0) (.seq (.reg [0, 1, 2, 3, 4] c254_1) (.seq (.reg [0, 1, 2, 4] c254_2) (.seq (.reg [2] c254_3) (.seq (.reg [10] c254_4) .ret)))))
def c254 : SFunc := ⟨5, 36, c254_body, [.tmp 10]⟩
/- slices.order2Ordered[int] -/
def c257_0 : List SOper := [o_ 8 (.mov (k_ 0)),
  o_ 9 (.mov (k_ 0))]
def c257_1 : List SOper := [⟨(some 10), .mov (t_ 0), none, [0], 0, [], 0, 0, []⟩,
  ⟨(some 11), .mov (t_ 2), none, [2], 1, [], 0, 0, []⟩,
  ⟨(some 12), .idxS 1 (t_ 10) (t_ 11), none, [10, 11], 2, [0, 1], 0, 0, []⟩,
  ⟨(some 13), .load1 (t_ 12), none, [12], 3, [2], 0, 0, []⟩,
  ⟨(some 14), .mov (t_ 0), none, [0], 4, [], 0, 0, []⟩,
  ⟨(some 15), .mov (t_ 1), none, [1], 5, [], 0, 0, []⟩,
  ⟨(some 16), .idxS 1 (t_ 14) (t_ 15), none, [14, 15], 6, [4, 5], 0, 0, []⟩,
  ⟨(some 17), .load1 (t_ 16), none, [16], 7, [6], 0, 0, []⟩,
  ⟨(some 18), .call 237 [(t_ 13), (t_ 17)], none, [13, 17], 8, [3, 7], 0, 0, []⟩]
def c257_1b : List SOper := []
def c257_2 : List SOper := [o_ 19 (.mov (t_ 3)),
  o_ 20 (.nilchk (t_ 19)),
  o_ 21 (.load1 (t_ 20)),
  o_ 22 (.bin .add (t_ 21) (k_ 1)),
  o_ 23 (.nilchk (t_ 19)),
  n_ (.store1 (t_ 23) (t_ 22))]
def c257_3 : List SOper := [o_ 24 (.mov (t_ 2)),
  o_ 25 (.mov (t_ 1)),
  o_ 8 (.mov (t_ 24)),
  o_ 9 (.mov (t_ 25))]
def c257_4 : List SOper := [o_ 26 (.mov (t_ 1)),
  o_ 27 (.mov (t_ 2)),
  o_ 8 (.mov (t_ 26)),
  o_ 9 (.mov (t_ 27))]
def c257_body : SCode := (.seq (.reg [0, 1, 2, 3] c257_0) (.seq (.seq (.dreg [1, 2, 3, 18] c257_1 c257_1b) (.cond (t_ 18) (.seq (.reg [1, 2] c257_2) (.seq (.reg [8, 9] c257_3) .ret)) .skip)) (.seq (.reg [8, 9] c257_4) .ret)))
def c257 : SFunc := ⟨4, 28, c257_body, [.tmp 8, .tmp 9]⟩
end Go.Jq
