/- Short words for small code. -/
import Derived.Test.YtghlejnndjioiaaDoorM3
import Derived.Test.YtghlejnndjioiaaDoorE
set_option linter.unusedSimpArgs false
set_option linter.unusedVariables false
namespace Go.Jq
abbrev o_ (d : Nat) (x : SOp) : SOper := ⟨some d, x, none, [], 0, [], 0, 0, []⟩
abbrev n_ (x : SOp) : SOper := ⟨none, x, none, [], 0, [], 0, 0, []⟩
abbrev g_ (d t : Nat) (w : Bool) (x : SOp) : SOper := ⟨some d, x, some (t, w), [], 0, [], 0, 0, []⟩
abbrev t_ (n : Nat) : SOpd := .tmp n
abbrev k_ (n : Int) : SOpd := .const (.int .i64 n)
/-- the cells of a relation without pairs -/
def zu (n : Nat) : List Value := List.replicate n (.int .u64 0)
def zrel : List Value := .int .i64 0 :: zu 64
attribute [simp] wD_move wD_moveg wD_keep wD_keepg SOp.still SOp.quiet SOp.float putD Rec.same sop Rec.apart
end Go.Jq

namespace Go.Jq
/- jacquard/jacquardlaw19.TraceMany -/
def c267_0 : List SOper := [o_ 4 (.mov (.const (.bool false)))]
def c267_1 : List SOper := [o_ 8 (.mov (t_ 0)),
  o_ 9 (.bin .and (t_ 8) (k_ 255)),
  o_ 10 (.bin .rem (t_ 9) (k_ 80)),
  o_ 11 (.bin .add (t_ 10) (k_ 1)),
  o_ 0 (.mov (t_ 11))]
def c267_2 : List SOper := [o_ 12 (.mov (t_ 0)),
  o_ 13 (.mkrow 7 56 (zi 7) (t_ 12) (t_ 12)),
  o_ 5 (.mov (t_ 13))]
def c267_3 : List SOper := [o_ 14 (.mov (t_ 5)),
  o_ 15 (.lenS (t_ 14)),
  o_ 16 (.mov (k_ 0))]
def c267_4 : List SOper := [o_ 17 (.bin .lss (t_ 16) (t_ 15))]
def c267_5 : List SOper := [o_ 18 (.mov (t_ 16)),
  o_ 6 (.mov (t_ 18))]
def c267_6 : List SOper := [o_ 19 (.mov (t_ 5)),
  o_ 20 (.mov (t_ 6)),
  o_ 21 (.mov (t_ 1)),
  o_ 22 (.bin .and (t_ 21) (k_ 3)),
  o_ 23 (.mov (t_ 1)),
  o_ 24 (.bin .and (t_ 23) (k_ 3)),
  o_ 25 (.build (zi 7) [(0, 1, (t_ 22)), (1, 1, (t_ 24)), (2, 1, (k_ 3)), (6, 1, (k_ (-1)))]),
  o_ 26 (.idxS 7 (t_ 19) (t_ 20)),
  n_ (.storeN 7 (t_ 26) (t_ 25))]
def c267_7 : List SOper := [o_ 27 (.bin .add (t_ 16) (k_ 1)),
  o_ 16 (.mov (t_ 27))]
def c267_8 : SCode := (.seq (.reg [0, 1, 5, 15, 16, 17] c267_4) (.seq (.cond (t_ 17) .skip (.exit 0)) (.seq (.block 1 (.seq (.reg [0, 1, 5, 6, 15, 16] c267_5) (.reg [0, 1, 5, 15, 16] c267_6))) (.reg [0, 1, 5, 15, 16] c267_7))))
def c267_9 : List SOper := [o_ 28 (.mov (t_ 5)),
  o_ 29 (.call 91 [(t_ 28), (k_ 2)]),
  o_ 7 (.alloc zrel),
  n_ (.storeN 65 (t_ 7) (t_ 29))]
def c267_10 : List SOper := [o_ 30 (.mov (t_ 0)),
  o_ 31 (.bin .gtr (t_ 30) (k_ 64))]
def c267_11 : List SOper := [o_ 32 (.loadN 65 (t_ 7)),
  o_ 33 (.call 137 [(t_ 32)]),
  o_ 34 (.bin .eql (t_ 33) (k_ 0)),
  o_ 35 (.mov (t_ 34)),
  g_ 36 35 true (.call 269 []),
  o_ 37 (.pick (t_ 35) (t_ 36) (.const (.bool false))),
  o_ 4 (.mov (t_ 37))]
def c267_12 : List SOper := [o_ 38 (.loadN 65 (t_ 7)),
  o_ 39 (.call 137 [(t_ 38)]),
  o_ 40 (.mov (t_ 0)),
  o_ 41 (.bin .eql (t_ 39) (t_ 40)),
  o_ 42 (.mov (t_ 41)),
  g_ 43 42 true (.mov (t_ 0)),
  g_ 44 42 true (.bin .eql (t_ 43) (k_ 1)),
  g_ 45 42 true (.mov (t_ 44)),
  g_ 46 45 false (.loadN 65 (t_ 7)),
  g_ 47 45 false (.mov (t_ 0)),
  g_ 48 45 false (.bin .sub (t_ 47) (k_ 1)),
  g_ 49 45 false (.call 139 [(t_ 46), (k_ 0), (t_ 48)]),
  g_ 50 42 true (.pick (t_ 45) (.const (.bool true)) (t_ 49)),
  o_ 51 (.pick (t_ 42) (t_ 50) (.const (.bool false))),
  o_ 52 (.mov (t_ 51)),
  g_ 53 52 true (.loadN 65 (t_ 7)),
  g_ 54 52 true (.call 138 [(t_ 53)]),
  g_ 55 52 true (.lenS (t_ 54)),
  g_ 56 52 true (.mov (t_ 0)),
  g_ 57 52 true (.mov (t_ 0)),
  g_ 58 52 true (.bin .sub (t_ 57) (k_ 1)),
  g_ 59 52 true (.bin .mul (t_ 56) (t_ 58)),
  g_ 60 52 true (.bin .quo (t_ 59) (k_ 2)),
  g_ 61 52 true (.bin .eql (t_ 55) (t_ 60)),
  o_ 62 (.pick (t_ 52) (t_ 61) (.const (.bool false))),
  o_ 63 (.mov (t_ 62)),
  g_ 64 63 true (.call 91 [(.const (.slice none 0 0)), (k_ 1)]),
  g_ 65 63 true (.call 137 [(t_ 64)]),
  g_ 66 63 true (.bin .eql (t_ 65) (k_ 0)),
  o_ 67 (.pick (t_ 63) (t_ 66) (.const (.bool false))),
  o_ 68 (.mov (t_ 67)),
  g_ 69 68 true (.call 269 []),
  o_ 70 (.pick (t_ 68) (t_ 69) (.const (.bool false))),
  o_ 4 (.mov (t_ 70))]
def c267_body : SCode := (.seq (.reg [0, 1] c267_0) (.seq (.reg [0, 1] c267_1) (.seq (.reg [0, 1, 5] c267_2) (.seq (.seq (.reg [0, 1, 5, 15, 16] c267_3) (.block 0 (.loop [0, 1, 5, 15, 16] c267_8))) (.seq (.reg [0, 7] c267_9) (.seq (.seq (.reg [0, 7, 31] c267_10) (.cond (t_ 31) (.seq (.reg [4] c267_11) .ret) .skip)) (.seq (.reg [4] c267_12) .ret)))))))
def c267 : SFunc := ⟨2, 71, c267_body, [.tmp 4]⟩

/- jacquard/trace.HB -/
def c91_0 : List SOper := [o_ 4 (.alloc zrel)]
def c91_1 : List SOper := [o_ 11 (.mov (t_ 0)),
  o_ 12 (.lenS (t_ 11)),
  o_ 13 (.bin .gtr (t_ 12) (k_ 64))]
def c91_2 : List SOper := [o_ 14 (.call 38 [(k_ 0)]),
  n_ (.storeN 65 (t_ 4) (t_ 14))]
def c91_3 : List SOper := [o_ 15 (.mov (t_ 0)),
  o_ 16 (.lenS (t_ 15)),
  o_ 17 (.call 38 [(t_ 16)]),
  o_ 5 (.alloc zrel),
  n_ (.storeN 65 (t_ 5) (t_ 17))]
def c91_4 : List SOper := [o_ 18 (.mov (t_ 0)),
  o_ 19 (.lenS (t_ 18)),
  o_ 20 (.mov (k_ 0))]
def c91_5 : List SOper := [o_ 21 (.bin .lss (t_ 20) (t_ 19))]
def c91_6 : List SOper := [o_ 22 (.mov (t_ 20)),
  o_ 23 (.idxS 7 (t_ 18) (t_ 20)),
  o_ 24 (.loadN 7 (t_ 23)),
  o_ 7 (.alloc (zi 7)),
  o_ 6 (.mov (t_ 22)),
  n_ (.storeN 7 (t_ 7) (t_ 24))]
def c91_7 : List SOper := [o_ 25 (.mov (t_ 6)),
  o_ 26 (.bin .add (t_ 25) (k_ 1)),
  o_ 8 (.mov (t_ 26))]
def c91_8 : List SOper := [o_ 27 (.mov (t_ 8)),
  o_ 28 (.mov (t_ 0)),
  o_ 29 (.lenS (t_ 28)),
  o_ 30 (.bin .lss (t_ 27) (t_ 29))]
def c91_9 : List SOper := [o_ 33 (.mov (t_ 0)),
  o_ 34 (.mov (t_ 8)),
  o_ 35 (.idxS 7 (t_ 33) (t_ 34)),
  o_ 36 (.loadN 7 (t_ 35)),
  o_ 9 (.alloc (zi 7)),
  n_ (.storeN 7 (t_ 9) (t_ 36))]
def c91_10 : List SOper := [o_ 37 (.loadN 7 (t_ 7)),
  o_ 38 (.mov (t_ 1)),
  o_ 39 (.call 164 [(t_ 37), (t_ 38)]),
  o_ 40 (.mov (t_ 39)),
  g_ 41 40 true (.loadN 7 (t_ 9)),
  g_ 42 40 true (.mov (t_ 1)),
  g_ 43 40 true (.call 164 [(t_ 41), (t_ 42)]),
  o_ 44 (.pick (t_ 40) (t_ 43) (.const (.bool false))),
  o_ 45 (.mov (t_ 44)),
  g_ 46 45 true (.fld 3 (t_ 7)),
  g_ 47 45 true (.load1 (t_ 46)),
  g_ 48 45 true (.fld 3 (t_ 9)),
  g_ 49 45 true (.load1 (t_ 48)),
  g_ 50 45 true (.bin .eql (t_ 47) (t_ 49)),
  o_ 51 (.pick (t_ 45) (t_ 50) (.const (.bool false))),
  o_ 10 (.mov (t_ 51))]
def c91_11 : List SOper := [o_ 52 (.fld 0 (t_ 7)),
  o_ 53 (.load1 (t_ 52)),
  o_ 54 (.fld 0 (t_ 9)),
  o_ 55 (.load1 (t_ 54)),
  o_ 56 (.bin .eql (t_ 53) (t_ 55)),
  o_ 57 (.mov (t_ 56)),
  g_ 58 57 false (.mov (t_ 10)),
  o_ 59 (.pick (t_ 57) (.const (.bool true)) (t_ 58)),
  o_ 60 (.mov (t_ 59)),
  g_ 61 60 false (.fld 2 (t_ 9)),
  g_ 62 60 false (.load1 (t_ 61)),
  g_ 63 60 false (.bin .eql (t_ 62) (k_ 6)),
  g_ 64 60 false (.mov (t_ 63)),
  g_ 65 64 true (.fld 6 (t_ 9)),
  g_ 66 64 true (.load1 (t_ 65)),
  g_ 67 64 true (.mov (t_ 6)),
  g_ 68 64 true (.bin .eql (t_ 66) (t_ 67)),
  g_ 69 60 false (.pick (t_ 64) (t_ 68) (.const (.bool false))),
  o_ 70 (.pick (t_ 60) (.const (.bool true)) (t_ 69)),
  o_ 71 (.mov (t_ 70)),
  g_ 72 71 false (.fld 2 (t_ 7)),
  g_ 73 71 false (.load1 (t_ 72)),
  g_ 74 71 false (.bin .eql (t_ 73) (k_ 6)),
  g_ 75 71 false (.mov (t_ 74)),
  g_ 76 75 true (.fld 1 (t_ 7)),
  g_ 77 75 true (.load1 (t_ 76)),
  g_ 78 75 true (.fld 1 (t_ 9)),
  g_ 79 75 true (.load1 (t_ 78)),
  g_ 80 75 true (.bin .eql (t_ 77) (t_ 79)),
  g_ 81 71 false (.pick (t_ 75) (t_ 80) (.const (.bool false))),
  g_ 82 71 false (.mov (t_ 81)),
  g_ 83 82 true (.loadN 7 (t_ 9)),
  g_ 84 82 true (.call 165 [(t_ 83)]),
  g_ 85 71 false (.pick (t_ 82) (t_ 84) (.const (.bool false))),
  o_ 86 (.pick (t_ 71) (.const (.bool true)) (t_ 85))]
def c91_12 : List SOper := [o_ 87 (.loadN 65 (t_ 5)),
  o_ 88 (.mov (t_ 6)),
  o_ 89 (.mov (t_ 8)),
  o_ 90 (.call 56 [(t_ 87), (t_ 88), (t_ 89)]),
  n_ (.storeN 65 (t_ 5) (t_ 90))]
def c91_13 : List SOper := [o_ 31 (.mov (t_ 8)),
  o_ 32 (.bin .add (t_ 31) (k_ 1)),
  o_ 8 (.mov (t_ 32))]
def c91_14 : SCode := (.seq (.seq (.reg [0, 1, 4, 5, 6, 7, 8, 18, 19, 20, 30] c91_8) (.cond (t_ 30) .skip (.exit 2))) (.seq (.block 3 (.seq (.reg [0, 1, 4, 5, 6, 7, 8, 9, 18, 19, 20] c91_9) (.seq (.reg [0, 1, 4, 5, 6, 7, 8, 9, 10, 18, 19, 20] c91_10) (.seq (.reg [0, 1, 4, 5, 6, 7, 8, 18, 19, 20, 86] c91_11) (.cond (t_ 86) (.reg [0, 1, 4, 5, 6, 7, 8, 18, 19, 20] c91_12) .skip))))) (.reg [0, 1, 4, 5, 6, 7, 8, 18, 19, 20] c91_13)))
def c91_15 : List SOper := [o_ 91 (.loadN 7 (t_ 7)),
  o_ 92 (.call 166 [(t_ 91)])]
def c91_16 : List SOper := [o_ 93 (.loadN 65 (t_ 5)),
  o_ 94 (.mov (t_ 0)),
  o_ 95 (.mov (t_ 1)),
  o_ 96 (.mov (t_ 6)),
  o_ 97 (.call 167 [(t_ 93), (t_ 94), (t_ 95), (t_ 96)]),
  n_ (.storeN 65 (t_ 5) (t_ 97))]
def c91_17 : List SOper := [o_ 98 (.bin .add (t_ 20) (k_ 1)),
  o_ 20 (.mov (t_ 98))]
def c91_18 : SCode := (.seq (.reg [0, 1, 4, 5, 18, 19, 20, 21] c91_5) (.seq (.cond (t_ 21) .skip (.exit 0)) (.seq (.block 1 (.seq (.reg [0, 1, 4, 5, 6, 7, 18, 19, 20] c91_6) (.seq (.seq (.reg [0, 1, 4, 5, 6, 7, 8, 18, 19, 20] c91_7) (.block 2 (.loop [0, 1, 4, 5, 6, 7, 8, 18, 19, 20] c91_14))) (.seq (.reg [0, 1, 4, 5, 6, 18, 19, 20, 92] c91_15) (.cond (t_ 92) (.reg [0, 1, 4, 5, 18, 19, 20] c91_16) .skip))))) (.reg [0, 1, 4, 5, 18, 19, 20] c91_17))))
def c91_19 : List SOper := [o_ 99 (.loadN 65 (t_ 5)),
  o_ 100 (.call 57 [(t_ 99)]),
  n_ (.storeN 65 (t_ 4) (t_ 100))]
def c91_body : SCode := (.seq (.reg [0, 1, 4] c91_0) (.seq (.seq (.reg [0, 1, 4, 13] c91_1) (.cond (t_ 13) (.seq (.reg [4] c91_2) .ret) .skip)) (.seq (.reg [0, 1, 4, 5] c91_3) (.seq (.seq (.reg [0, 1, 4, 5, 18, 19, 20] c91_4) (.block 0 (.loop [0, 1, 4, 5, 18, 19, 20] c91_18))) (.seq (.reg [4] c91_19) .ret)))))
def c91 : SFunc := ⟨2, 101, c91_body, [.cellN 4 65]⟩

/- (jacquard/rel.Rel).N -/
def c137_0 : List SOper := [o_ 1 (.box (t_ 0)),
  o_ 2 (.mov (k_ 0))]
def c137_1 : List SOper := [o_ 3 (.fld 0 (t_ 1)),
  o_ 4 (.load1 (t_ 3)),
  o_ 2 (.mov (t_ 4))]
def c137_body : SCode := (.seq (.reg [1] c137_0) (.seq (.reg [2] c137_1) .ret))
def c137 : SFunc := ⟨1, 5, c137_body, [.tmp 2]⟩

/- jacquard/jacquardlaw19.awake -/
def c269_0 : List SOper := [o_ 0 (.mov (.const (.bool false)))]
def c269_1 : List SOper := [o_ 6 (.call 20 []),
  o_ 7 (.mkslice 4 (zi 4) [(0, 1, (k_ 0)), (1, 1, (k_ 0)), (2, 1, (k_ 1)), (3, 1, (k_ 1))]),
  o_ 8 (.call 272 [(t_ 6), (k_ 1), (t_ 7)]),
  o_ 5 (.mov (t_ 8)),
  o_ 9 (.extr (t_ 5) 0),
  o_ 10 (.extr (t_ 5) 1),
  o_ 1 (.alloc [(.slice none 0 0), (.slice none 0 0), (.slice none 0 0)]),
  n_ (.storeN 3 (t_ 1) (t_ 9)),
  o_ 2 (.mov (t_ 10))]
def c269_2 : List SOper := [o_ 12 (.call 20 []),
  o_ 13 (.mkslice 1 [(.int .i64 (0))] [(0, 1, (k_ 0))]),
  o_ 14 (.call 272 [(t_ 12), (k_ 1), (t_ 13)]),
  o_ 11 (.mov (t_ 14)),
  o_ 15 (.extr (t_ 11) 0),
  o_ 16 (.extr (t_ 11) 1),
  o_ 3 (.alloc [(.slice none 0 0), (.slice none 0 0), (.slice none 0 0)]),
  n_ (.storeN 3 (t_ 3) (t_ 15)),
  o_ 4 (.mov (t_ 16))]
def c269_3 : List SOper := [o_ 17 (.mov (t_ 2)),
  o_ 18 (.mov (t_ 17)),
  g_ 19 18 true (.mov (t_ 4)),
  g_ 20 18 true (.un .not (t_ 19)),
  o_ 21 (.pick (t_ 18) (t_ 20) (.const (.bool false))),
  o_ 22 (.mov (t_ 21)),
  g_ 23 22 true (.fld 0 (t_ 1)),
  g_ 24 22 true (.load1 (t_ 23)),
  g_ 25 22 true (.lenS (t_ 24)),
  g_ 26 22 true (.bin .eql (t_ 25) (k_ 6)),
  o_ 27 (.pick (t_ 22) (t_ 26) (.const (.bool false))),
  o_ 28 (.mov (t_ 27)),
  g_ 29 28 true (.fld 1 (t_ 1)),
  g_ 30 28 true (.load1 (t_ 29)),
  g_ 31 28 true (.idxS 1 (t_ 30) (k_ 5)),
  g_ 32 28 true (.load1 (t_ 31)),
  g_ 33 28 true (.bin .eql (t_ 32) (k_ 2)),
  o_ 34 (.pick (t_ 28) (t_ 33) (.const (.bool false))),
  o_ 35 (.mov (t_ 34)),
  g_ 36 35 true (.fld 2 (t_ 1)),
  g_ 37 35 true (.load1 (t_ 36)),
  g_ 38 35 true (.lenS (t_ 37)),
  g_ 39 35 true (.bin .eql (t_ 38) (k_ 2)),
  o_ 40 (.pick (t_ 35) (t_ 39) (.const (.bool false))),
  o_ 41 (.mov (t_ 40)),
  g_ 42 41 true (.call 20 []),
  g_ 43 41 true (.mkslice 4 (zi 4) [(0, 1, (k_ 0)), (1, 1, (k_ 1)), (2, 1, (k_ 0)), (3, 1, (k_ 1))]),
  g_ 44 41 true (.mkslice 4 (zi 4) [(0, 1, (k_ 1)), (1, 1, (k_ 0)), (2, 1, (k_ 1)), (3, 1, (k_ 0))]),
  g_ 45 41 true (.call 273 [(t_ 42), (k_ 1), (t_ 43), (t_ 44)]),
  o_ 46 (.pick (t_ 41) (t_ 45) (.const (.bool false))),
  o_ 0 (.mov (t_ 46))]
def c269_body : SCode := (.seq (.reg [] c269_0) (.seq (.reg [1, 2] c269_1) (.seq (.reg [1, 2, 4] c269_2) (.seq (.reg [0] c269_3) .ret))))
def c269 : SFunc := ⟨0, 47, c269_body, [.tmp 0]⟩

/- (jacquard/rel.Rel).Has -/
def c139_0 : List SOper := [o_ 3 (.box (t_ 0)),
  o_ 6 (.mov (.const (.bool false)))]
def c139_1 : List SOper := [o_ 7 (.loadN 65 (t_ 3)),
  o_ 8 (.mov (t_ 1)),
  o_ 9 (.call 98 [(t_ 7), (t_ 8)]),
  o_ 10 (.mov (t_ 9)),
  g_ 11 10 true (.mov (t_ 1)),
  g_ 12 10 true (.fld 1 (t_ 3)),
  g_ 13 10 true (.idxA 64 1 (t_ 12) (t_ 11)),
  g_ 14 10 true (.load1 (t_ 13)),
  g_ 15 10 true (.mov (t_ 2)),
  g_ 16 10 true (.call 58 [(t_ 14), (t_ 15)]),
  o_ 17 (.pick (t_ 10) (t_ 16) (.const (.bool false))),
  o_ 6 (.mov (t_ 17))]
def c139_body : SCode := (.seq (.reg [1, 2, 3] c139_0) (.seq (.reg [6] c139_1) .ret))
def c139 : SFunc := ⟨3, 18, c139_body, [.tmp 6]⟩

/- (jacquard/rel.Rel).Pairs -/
def c138_0 : List SOper := [o_ 1 (.box (t_ 0)),
  o_ 2 (.mov (.const (.slice none 0 0)))]
def c138_1 : List SOper := [o_ 3 (.mov (.const (.slice none 0 0)))]
def c138_2 : List SOper := [o_ 7 (.fld 0 (t_ 1)),
  o_ 8 (.load1 (t_ 7)),
  o_ 9 (.mov (k_ 0))]
def c138_3 : List SOper := [o_ 10 (.bin .lss (t_ 9) (t_ 8))]
def c138_4 : List SOper := [o_ 11 (.mov (t_ 9)),
  o_ 4 (.mov (t_ 11))]
def c138_5 : List SOper := [o_ 12 (.mov (t_ 4)),
  o_ 13 (.fld 1 (t_ 1)),
  o_ 14 (.idxA 64 1 (t_ 13) (t_ 12)),
  o_ 15 (.load1 (t_ 14)),
  o_ 16 (.call 54 [(t_ 15)]),
  o_ 17 (.lenS (t_ 16)),
  o_ 18 (.mov (k_ 0))]
def c138_6 : List SOper := [o_ 19 (.bin .lss (t_ 18) (t_ 17))]
def c138_7 : List SOper := [o_ 20 (.idxS 1 (t_ 16) (t_ 18)),
  o_ 21 (.load1 (t_ 20)),
  o_ 6 (.mov (t_ 21))]
def c138_8 : List SOper := [o_ 22 (.mov (t_ 3)),
  o_ 23 (.mov (t_ 4)),
  o_ 24 (.mov (t_ 6)),
  o_ 25 (.build [(.int .i64 (0)), (.int .i64 (0))] [(0, 1, (t_ 23)), (1, 1, (t_ 24))]),
  o_ 26 (.mkslice 1 [(.int .i64 (0)), (.int .i64 (0))] [(0, 2, (t_ 25))]),
  o_ 27 (.append 2 16 (t_ 22) (t_ 26)),
  o_ 3 (.mov (t_ 27))]
def c138_9 : List SOper := [o_ 28 (.bin .add (t_ 18) (k_ 1)),
  o_ 18 (.mov (t_ 28))]
def c138_10 : SCode := (.seq (.reg [1, 3, 4, 8, 9, 16, 17, 18, 19] c138_6) (.seq (.cond (t_ 19) .skip (.exit 2)) (.seq (.block 3 (.seq (.reg [1, 3, 4, 6, 8, 9, 16, 17, 18] c138_7) (.reg [1, 3, 4, 8, 9, 16, 17, 18] c138_8))) (.reg [1, 3, 4, 8, 9, 16, 17, 18] c138_9))))
def c138_11 : List SOper := [o_ 29 (.bin .add (t_ 9) (k_ 1)),
  o_ 9 (.mov (t_ 29))]
def c138_12 : SCode := (.seq (.reg [1, 3, 8, 9, 10] c138_3) (.seq (.cond (t_ 10) .skip (.exit 0)) (.seq (.block 1 (.seq (.reg [1, 3, 4, 8, 9] c138_4) (.seq (.reg [1, 3, 4, 8, 9, 16, 17, 18] c138_5) (.block 2 (.loop [1, 3, 4, 8, 9, 16, 17, 18] c138_10))))) (.reg [1, 3, 8, 9] c138_11))))
def c138_13 : List SOper := [o_ 30 (.mov (t_ 3)),
  o_ 2 (.mov (t_ 30))]
def c138_body : SCode := (.seq (.reg [1] c138_0) (.seq (.reg [1, 3] c138_1) (.seq (.seq (.reg [1, 3, 8, 9] c138_2) (.block 0 (.loop [1, 3, 8, 9] c138_12))) (.seq (.reg [2] c138_13) .ret))))
def c138 : SFunc := ⟨1, 31, c138_body, [.tmp 2]⟩

/- jacquard/rel.New -/
def c38_0 : List SOper := [o_ 2 (.alloc zrel)]
def c38_1 : List SOper := [o_ 3 (.mov (t_ 0)),
  o_ 4 (.mm true [(t_ 3), (k_ 0)]),
  o_ 5 (.mm false [(t_ 4), (k_ 64)]),
  o_ 6 (.build zrel [(0, 1, (t_ 5))]),
  n_ (.storeN 65 (t_ 2) (t_ 6))]
def c38_body : SCode := (.seq (.reg [0, 2] c38_0) (.seq (.reg [2] c38_1) .ret))
def c38 : SFunc := ⟨1, 7, c38_body, [.cellN 2 65]⟩

/- jacquard/trace.Writes -/
def c164_0 : List SOper := [o_ 2 (.box (t_ 0)),
  o_ 4 (.mov (.const (.bool false)))]
def c164_1 : List SOper := [o_ 5 (.fld 2 (t_ 2)),
  o_ 6 (.load1 (t_ 5)),
  o_ 7 (.bin .eql (t_ 6) (k_ 6)),
  o_ 8 (.mov (t_ 7)),
  g_ 9 8 false (.fld 2 (t_ 2)),
  g_ 10 8 false (.load1 (t_ 9)),
  g_ 11 8 false (.bin .eql (t_ 10) (k_ 4)),
  o_ 12 (.pick (t_ 8) (.const (.bool true)) (t_ 11)),
  o_ 13 (.mov (t_ 12)),
  g_ 14 13 false (.mov (t_ 1)),
  g_ 15 13 false (.bin .eql (t_ 14) (k_ 1)),
  g_ 16 13 false (.mov (t_ 15)),
  g_ 17 16 true (.fld 2 (t_ 2)),
  g_ 18 16 true (.load1 (t_ 17)),
  g_ 19 16 true (.bin .eql (t_ 18) (k_ 2)),
  g_ 20 13 false (.pick (t_ 16) (t_ 19) (.const (.bool false))),
  o_ 21 (.pick (t_ 13) (.const (.bool true)) (t_ 20)),
  o_ 4 (.mov (t_ 21))]
def c164_body : SCode := (.seq (.reg [1, 2] c164_0) (.seq (.reg [4] c164_1) .ret))
def c164 : SFunc := ⟨2, 22, c164_body, [.tmp 4]⟩

/- jacquard/trace.Fences -/
def c165_0 : List SOper := [o_ 1 (.box (t_ 0)),
  o_ 2 (.mov (.const (.bool false)))]
def c165_1 : List SOper := [o_ 3 (.fld 2 (t_ 1)),
  o_ 4 (.load1 (t_ 3)),
  o_ 5 (.bin .eql (t_ 4) (k_ 3)),
  o_ 6 (.mov (t_ 5)),
  g_ 7 6 false (.fld 2 (t_ 1)),
  g_ 8 6 false (.load1 (t_ 7)),
  g_ 9 6 false (.bin .eql (t_ 8) (k_ 4)),
  o_ 10 (.pick (t_ 6) (.const (.bool true)) (t_ 9)),
  o_ 11 (.mov (t_ 10)),
  g_ 12 11 false (.fld 2 (t_ 1)),
  g_ 13 11 false (.load1 (t_ 12)),
  g_ 14 11 false (.bin .eql (t_ 13) (k_ 5)),
  o_ 15 (.pick (t_ 11) (.const (.bool true)) (t_ 14)),
  o_ 2 (.mov (t_ 15))]
def c165_body : SCode := (.seq (.reg [1] c165_0) (.seq (.reg [2] c165_1) .ret))
def c165 : SFunc := ⟨1, 16, c165_body, [.tmp 2]⟩

/- (jacquard/rel.Rel).Add -/
def c56_0 : List SOper := [o_ 3 (.box (t_ 0)),
  o_ 6 (.alloc zrel)]
def c56_1 : List SOper := [o_ 7 (.loadN 65 (t_ 3)),
  o_ 8 (.mov (t_ 1)),
  o_ 9 (.call 98 [(t_ 7), (t_ 8)]),
  o_ 10 (.mov (t_ 9)),
  g_ 11 10 true (.loadN 65 (t_ 3)),
  g_ 12 10 true (.mov (t_ 2)),
  g_ 13 10 true (.call 98 [(t_ 11), (t_ 12)]),
  o_ 14 (.pick (t_ 10) (t_ 13) (.const (.bool false)))]
def c56_2 : List SOper := [o_ 15 (.mov (t_ 1)),
  o_ 16 (.mov (t_ 1)),
  o_ 17 (.fld 1 (t_ 3)),
  o_ 18 (.idxA 64 1 (t_ 17) (t_ 16)),
  o_ 19 (.load1 (t_ 18)),
  o_ 20 (.mov (t_ 2)),
  o_ 21 (.call 102 [(t_ 19), (t_ 20)]),
  o_ 22 (.fld 1 (t_ 3)),
  o_ 23 (.idxA 64 1 (t_ 22) (t_ 15)),
  n_ (.store1 (t_ 23) (t_ 21))]
def c56_3 : List SOper := [o_ 24 (.loadN 65 (t_ 3)),
  n_ (.storeN 65 (t_ 6) (t_ 24))]
def c56_body : SCode := (.seq (.reg [1, 2, 3, 6] c56_0) (.seq (.seq (.reg [1, 2, 3, 6, 14] c56_1) (.cond (t_ 14) (.reg [3, 6] c56_2) .skip)) (.seq (.reg [6] c56_3) .ret)))
def c56 : SFunc := ⟨3, 25, c56_body, [.cellN 6 65]⟩

/- jacquard/trace.Reads -/
def c166_0 : List SOper := [o_ 1 (.box (t_ 0)),
  o_ 2 (.mov (.const (.bool false)))]
def c166_1 : List SOper := [o_ 3 (.fld 2 (t_ 1)),
  o_ 4 (.load1 (t_ 3)),
  o_ 5 (.bin .eql (t_ 4) (k_ 1)),
  o_ 6 (.mov (t_ 5)),
  g_ 7 6 false (.fld 2 (t_ 1)),
  g_ 8 6 false (.load1 (t_ 7)),
  g_ 9 6 false (.bin .eql (t_ 8) (k_ 4)),
  o_ 10 (.pick (t_ 6) (.const (.bool true)) (t_ 9)),
  o_ 11 (.mov (t_ 10)),
  g_ 12 11 false (.fld 2 (t_ 1)),
  g_ 13 11 false (.load1 (t_ 12)),
  g_ 14 11 false (.bin .eql (t_ 13) (k_ 5)),
  o_ 15 (.pick (t_ 11) (.const (.bool true)) (t_ 14)),
  o_ 2 (.mov (t_ 15))]
def c166_body : SCode := (.seq (.reg [1] c166_0) (.seq (.reg [2] c166_1) .ret))
def c166 : SFunc := ⟨1, 16, c166_body, [.tmp 2]⟩

/- jacquard/trace.reading -/
def c167_0 : List SOper := [o_ 4 (.box (t_ 0)),
  o_ 8 (.alloc zrel)]
def c167_1 : List SOper := [o_ 12 (.mov (t_ 1)),
  o_ 13 (.mov (t_ 3)),
  o_ 14 (.idxS 7 (t_ 12) (t_ 13)),
  o_ 15 (.loadN 7 (t_ 14)),
  o_ 9 (.alloc (zi 7)),
  n_ (.storeN 7 (t_ 9) (t_ 15))]
def c167_2 : List SOper := [o_ 10 (.mov (k_ (-1)))]
def c167_3 : List SOper := [o_ 16 (.fld 6 (t_ 9)),
  o_ 17 (.load1 (t_ 16)),
  o_ 18 (.bin .geq (t_ 17) (k_ 0)),
  o_ 19 (.mov (t_ 18)),
  g_ 20 19 true (.fld 6 (t_ 9)),
  g_ 21 19 true (.load1 (t_ 20)),
  g_ 22 19 true (.mov (t_ 1)),
  g_ 23 19 true (.lenS (t_ 22)),
  g_ 24 19 true (.bin .lss (t_ 21) (t_ 23)),
  o_ 25 (.pick (t_ 19) (t_ 24) (.const (.bool false)))]
def c167_4 : List SOper := [o_ 26 (.mov (t_ 1)),
  o_ 27 (.mov (t_ 2)),
  o_ 28 (.fld 6 (t_ 9)),
  o_ 29 (.load1 (t_ 28)),
  o_ 30 (.call 213 [(t_ 26), (t_ 27), (t_ 29)]),
  o_ 10 (.mov (t_ 30))]
def c167_5 : List SOper := [o_ 31 (.mov (t_ 10)),
  o_ 32 (.bin .lss (t_ 31) (k_ 0))]
def c167_6 : List SOper := [o_ 33 (.loadN 65 (t_ 4)),
  n_ (.storeN 65 (t_ 8) (t_ 33))]
def c167_7 : List SOper := [⟨(some 34), .mov (t_ 1), none, [1], 0, [], 0, 0, []⟩,
  ⟨(some 35), .fld 6 (t_ 9), none, [9], 1, [], 0, 0, []⟩,
  ⟨(some 36), .load1 (t_ 35), none, [35], 2, [1], 0, 0, []⟩,
  ⟨(some 37), .idxS 7 (t_ 34) (t_ 36), none, [34, 36], 3, [0, 2], 0, 0, []⟩,
  ⟨(some 38), .fld 1 (t_ 37), none, [37], 4, [3], 0, 0, []⟩,
  ⟨(some 39), .load1 (t_ 38), none, [38], 5, [4], 0, 0, []⟩,
  ⟨(some 40), .fld 1 (t_ 9), none, [9], 6, [], 0, 0, []⟩,
  ⟨(some 41), .load1 (t_ 40), none, [40], 7, [6], 0, 0, []⟩,
  ⟨(some 42), .bin .neq (t_ 39) (t_ 41), none, [39, 41], 8, [5, 7], 0, 0, []⟩]
def c167_8 : List SOper := [o_ 43 (.loadN 65 (t_ 4)),
  o_ 44 (.mov (t_ 10)),
  o_ 45 (.mov (t_ 3)),
  o_ 46 (.call 56 [(t_ 43), (t_ 44), (t_ 45)]),
  n_ (.storeN 65 (t_ 4) (t_ 46))]
def c167_9 : List SOper := [o_ 47 (.mov (t_ 10)),
  o_ 48 (.bin .add (t_ 47) (k_ 1)),
  o_ 11 (.mov (t_ 48))]
def c167_10 : List SOper := [o_ 49 (.mov (t_ 11)),
  o_ 50 (.mov (t_ 1)),
  o_ 51 (.lenS (t_ 50)),
  o_ 52 (.bin .lss (t_ 49) (t_ 51))]
def c167_11 : List SOper := [⟨(some 55), .mov (t_ 11), none, [11], 0, [], 0, 0, []⟩,
  ⟨(some 56), .mov (t_ 3), none, [3], 1, [], 0, 0, []⟩,
  ⟨(some 57), .bin .neq (t_ 55) (t_ 56), none, [55, 56], 2, [0, 1], 0, 0, []⟩,
  ⟨(some 58), .mov (t_ 57), none, [57], 3, [2], 0, 0, []⟩,
  ⟨(some 59), .mov (t_ 1), (some (58, true)), [1, 58], 4, [3], 0, 0, []⟩,
  ⟨(some 60), .mov (t_ 11), (some (58, true)), [11, 58], 5, [3], 0, 0, []⟩,
  ⟨(some 61), .idxS 7 (t_ 59) (t_ 60), (some (58, true)), [59, 60, 58], 6, [4, 5, 3], 0, 0, []⟩,
  ⟨(some 62), .loadN 7 (t_ 61), (some (58, true)), [61, 58], 7, [6, 3], 0, 0, []⟩,
  ⟨(some 63), .mov (t_ 2), (some (58, true)), [2, 58], 8, [3], 0, 0, []⟩,
  ⟨(some 64), .call 164 [(t_ 62), (t_ 63)], (some (58, true)), [62, 63, 58], 9, [7, 8, 3, 3], 0, 0, []⟩,
  ⟨(some 65), .pick (t_ 58) (t_ 64) (.const (.bool false)), none, [58, 64], 10, [3, 9], 0, 0, []⟩,
  ⟨(some 66), .mov (t_ 65), none, [65], 11, [10, 9], 0, 0, []⟩,
  ⟨(some 67), .mov (t_ 1), (some (66, true)), [1, 66], 12, [11], 0, 0, []⟩,
  ⟨(some 68), .mov (t_ 11), (some (66, true)), [11, 66], 13, [11], 0, 0, []⟩,
  ⟨(some 69), .idxS 7 (t_ 67) (t_ 68), (some (66, true)), [67, 68, 66], 14, [12, 13, 11], 0, 0, []⟩,
  ⟨(some 70), .fld 3 (t_ 69), (some (66, true)), [69, 66], 15, [14, 11], 0, 0, []⟩,
  ⟨(some 71), .load1 (t_ 70), (some (66, true)), [70, 66], 16, [15, 11], 1, 1, []⟩,
  ⟨(some 72), .fld 3 (t_ 9), (some (66, true)), [9, 66], 17, [11], 0, 0, []⟩,
  ⟨(some 73), .load1 (t_ 72), (some (66, true)), [72, 66], 18, [17, 11], 1, 1, []⟩,
  ⟨(some 74), .bin .eql (t_ 71) (t_ 73), (some (66, true)), [71, 73, 66], 19, [16, 18, 11], 0, 0, []⟩,
  ⟨(some 75), .pick (t_ 66) (t_ 74) (.const (.bool false)), none, [66, 74], 20, [11, 19], 0, 0, []⟩]
def c167_11b : List SOper := []
def c167_12 : List SOper := [o_ 76 (.loadN 65 (t_ 4)),
  o_ 77 (.mov (t_ 3)),
  o_ 78 (.mov (t_ 11)),
  o_ 79 (.call 56 [(t_ 76), (t_ 77), (t_ 78)]),
  n_ (.storeN 65 (t_ 4) (t_ 79))]
def c167_13 : List SOper := [o_ 53 (.mov (t_ 11)),
  o_ 54 (.bin .add (t_ 53) (k_ 1)),
  o_ 11 (.mov (t_ 54))]
def c167_14 : SCode := (.seq (.seq (.reg [1, 2, 3, 4, 8, 9, 11, 52] c167_10) (.cond (t_ 52) .skip (.exit 0))) (.seq (.block 1 (.seq (.dreg [1, 2, 3, 4, 8, 9, 11, 75] c167_11 c167_11b) (.cond (t_ 75) (.reg [1, 2, 3, 4, 8, 9, 11] c167_12) .skip))) (.reg [1, 2, 3, 4, 8, 9, 11] c167_13)))
def c167_15 : List SOper := [o_ 80 (.loadN 65 (t_ 4)),
  n_ (.storeN 65 (t_ 8) (t_ 80))]
def c167_body : SCode := (.seq (.reg [1, 2, 3, 4, 8] c167_0) (.seq (.reg [1, 2, 3, 4, 8, 9] c167_1) (.seq (.reg [1, 2, 3, 4, 8, 9, 10] c167_2) (.seq (.seq (.reg [1, 2, 3, 4, 8, 9, 10, 25] c167_3) (.cond (t_ 25) (.seq (.seq (.reg [1, 2, 3, 4, 8, 9, 10] c167_4) (.seq (.reg [1, 2, 3, 4, 8, 9, 10, 32] c167_5) (.cond (t_ 32) (.seq (.reg [8] c167_6) .ret) .skip))) (.seq (.qreg [1, 2, 3, 4, 8, 9, 10, 42] c167_7) (.cond (t_ 42) (.reg [1, 2, 3, 4, 8, 9, 10] c167_8) .skip))) .skip)) (.seq (.seq (.reg [1, 2, 3, 4, 8, 9, 11] c167_9) (.block 0 (.loop [1, 2, 3, 4, 8, 9, 11] c167_14))) (.seq (.reg [8] c167_15) .ret))))))
def c167 : SFunc := ⟨4, 81, c167_body, [.cellN 8 65]⟩

/- (jacquard/rel.Rel).Closure -/
def c57_0 : List SOper := [o_ 1 (.box (t_ 0)),
  o_ 2 (.alloc zrel)]
def c57_1 : List SOper := [o_ 5 (.fld 0 (t_ 1)),
  o_ 6 (.load1 (t_ 5)),
  o_ 7 (.mov (k_ 0))]
def c57_2 : List SOper := [o_ 8 (.bin .lss (t_ 7) (t_ 6))]
def c57_3 : List SOper := [o_ 9 (.mov (t_ 7)),
  o_ 3 (.mov (t_ 9))]
def c57_4 : List SOper := [o_ 10 (.fld 0 (t_ 1)),
  o_ 11 (.load1 (t_ 10)),
  o_ 12 (.mov (k_ 0))]
def c57_5 : List SOper := [o_ 13 (.bin .lss (t_ 12) (t_ 11))]
def c57_6 : List SOper := [o_ 14 (.mov (t_ 12)),
  o_ 4 (.mov (t_ 14))]
def c57_7 : List SOper := [o_ 15 (.mov (t_ 4)),
  o_ 16 (.fld 1 (t_ 1)),
  o_ 17 (.idxA 64 1 (t_ 16) (t_ 15)),
  o_ 18 (.load1 (t_ 17)),
  o_ 19 (.mov (t_ 3)),
  o_ 20 (.call 58 [(t_ 18), (t_ 19)])]
def c57_8 : List SOper := [⟨(some 21), .mov (t_ 4), none, [4], 0, [], 0, 0, []⟩,
  ⟨(some 22), .fld 1 (t_ 1), none, [1], 1, [], 0, 0, []⟩,
  ⟨(some 23), .idxA 64 1 (t_ 22) (t_ 21), none, [22, 21], 2, [1, 0], 0, 0, []⟩,
  ⟨(some 24), .load1 (t_ 23), none, [23], 3, [2], 0, 0, []⟩,
  ⟨(some 25), .mov (t_ 3), none, [3], 4, [], 0, 0, []⟩,
  ⟨(some 26), .fld 1 (t_ 1), none, [1], 5, [], 0, 0, []⟩,
  ⟨(some 27), .idxA 64 1 (t_ 26) (t_ 25), none, [26, 25], 6, [5, 4], 0, 0, []⟩,
  ⟨(some 28), .load1 (t_ 27), none, [27], 7, [6], 0, 0, []⟩,
  ⟨(some 29), .bin .or (t_ 24) (t_ 28), none, [24, 28], 8, [3, 7], 0, 0, []⟩,
  ⟨(some 30), .fld 1 (t_ 1), none, [1], 9, [], 0, 0, []⟩,
  ⟨(some 31), .idxA 64 1 (t_ 30) (t_ 21), none, [30, 21], 10, [9, 0, 0, 1, 2, 3, 4, 5, 6, 7, 8], 0, 0, []⟩]
def c57_8b : List SOper := [⟨none, .store1 (t_ 31) (t_ 29), none, [31, 29], 11, [10, 8, 0, 1, 2, 3, 4, 5, 6, 7, 8], 0, 0, [3, 7]⟩]
def c57_9 : List SOper := [o_ 32 (.bin .add (t_ 12) (k_ 1)),
  o_ 12 (.mov (t_ 32))]
def c57_10 : SCode := (.seq (.reg [1, 2, 3, 6, 7, 11, 12, 13] c57_5) (.seq (.cond (t_ 13) .skip (.exit 2)) (.seq (.block 3 (.seq (.reg [1, 2, 3, 4, 6, 7, 11, 12] c57_6) (.seq (.reg [1, 2, 3, 4, 6, 7, 11, 12, 20] c57_7) (.cond (t_ 20) (.dreg [1, 2, 3, 6, 7, 11, 12] c57_8 c57_8b) .skip)))) (.reg [1, 2, 3, 6, 7, 11, 12] c57_9))))
def c57_11 : List SOper := [o_ 33 (.bin .add (t_ 7) (k_ 1)),
  o_ 7 (.mov (t_ 33))]
def c57_12 : SCode := (.seq (.reg [1, 2, 6, 7, 8] c57_2) (.seq (.cond (t_ 8) .skip (.exit 0)) (.seq (.block 1 (.seq (.reg [1, 2, 3, 6, 7] c57_3) (.seq (.reg [1, 2, 3, 6, 7, 11, 12] c57_4) (.block 2 (.loop [1, 2, 3, 6, 7, 11, 12] c57_10))))) (.reg [1, 2, 6, 7] c57_11))))
def c57_13 : List SOper := [o_ 34 (.loadN 65 (t_ 1)),
  n_ (.storeN 65 (t_ 2) (t_ 34))]
def c57_body : SCode := (.seq (.reg [1, 2] c57_0) (.seq (.seq (.reg [1, 2, 6, 7] c57_1) (.block 0 (.loop [1, 2, 6, 7] c57_12))) (.seq (.reg [2] c57_13) .ret)))
def c57 : SFunc := ⟨1, 35, c57_body, [.cellN 2 65]⟩

/- jacquard/trace.Form -/
def c272_0 : List SOper := [o_ 3 (.box (t_ 0)),
  o_ 6 (.alloc [(.slice none 0 0), (.slice none 0 0), (.slice none 0 0)]),
  o_ 7 (.mov (.const (.bool false)))]
def c272_1 : List SOper := [o_ 12 (.loadN 3 (t_ 3)),
  o_ 13 (.mov (t_ 1)),
  o_ 14 (.mov (t_ 2)),
  o_ 15 (.call 277 [(t_ 12), (t_ 13), (t_ 14)]),
  o_ 11 (.mov (t_ 15)),
  o_ 16 (.extr (t_ 11) 0),
  o_ 17 (.extr (t_ 11) 1),
  o_ 18 (.extr (t_ 11) 2),
  o_ 8 (.mov (t_ 16)),
  o_ 9 (.mov (t_ 17)),
  o_ 10 (.mov (t_ 18))]
def c272_2 : List SOper := [o_ 19 (.mov (t_ 9)),
  o_ 20 (.mov (t_ 2)),
  o_ 21 (.lenS (t_ 20)),
  o_ 22 (.bin .neq (t_ 19) (t_ 21)),
  o_ 23 (.mov (t_ 22)),
  g_ 24 23 false (.mov (t_ 10)),
  g_ 25 23 false (.un .not (t_ 24)),
  o_ 26 (.pick (t_ 23) (.const (.bool true)) (t_ 25))]
def c272_3 : List SOper := [o_ 27 (.build [(.slice none 0 0), (.slice none 0 0), (.slice none 0 0)] []),
  n_ (.storeN 3 (t_ 6) (t_ 27)),
  o_ 7 (.mov (.const (.bool false)))]
def c272_4 : List SOper := [o_ 28 (.loadN 3 (t_ 3)),
  o_ 29 (.mov (t_ 1)),
  o_ 30 (.mov (t_ 8)),
  o_ 31 (.call 278 [(t_ 28), (t_ 29), (t_ 30)]),
  n_ (.storeN 3 (t_ 6) (t_ 31)),
  o_ 7 (.mov (.const (.bool true)))]
def c272_body : SCode := (.seq (.reg [1, 2, 3, 6] c272_0) (.seq (.reg [1, 2, 3, 6, 8, 9, 10] c272_1) (.seq (.seq (.reg [1, 3, 6, 8, 26] c272_2) (.cond (t_ 26) (.seq (.reg [6, 7] c272_3) .ret) .skip)) (.seq (.reg [6, 7] c272_4) .ret))))
def c272 : SFunc := ⟨3, 32, c272_body, [.cellN 6 3, .tmp 7]⟩

/- jacquard/jacquardlaw12.SB -/
def c20_0 : List SOper := [o_ 0 (.alloc [(.slice none 0 0), (.slice none 0 0), (.slice none 0 0)])]
def c20_1 : List SOper := [o_ 2 (.build [(.int .i64 (0)), (.int .i64 (0))] [(0, 1, (k_ (-1))), (1, 1, (k_ 1))]),
  o_ 1 (.alloc [(.int .i64 (0)), (.int .i64 (0))]),
  n_ (.storeN 2 (t_ 1) (t_ 2))]
def c20_2 : List SOper := [o_ 3 (.mkslice 2 [(.int .u8 (0)), (.int .u8 (0))] [(0, 1, (.const (.int .u8 (120)))), (1, 1, (.const (.int .u8 (121))))]),
  o_ 4 (.mark (t_ 3)),
  o_ 5 (.mkslice 2 [(.int .i64 (0)), (.int .i64 (0))] [(0, 1, (k_ 0)), (1, 1, (k_ 0))]),
  o_ 6 (.loadN 2 (t_ 1)),
  o_ 7 (.build (zi 9) [(0, 1, (k_ 1)), (2, 1, (k_ 0)), (3, 2, (t_ 6))]),
  o_ 8 (.build (zi 9) [(0, 1, (k_ 2)), (2, 1, (k_ 1))]),
  o_ 9 (.mkslice 2 (zi 18) [(0, 9, (t_ 7)), (9, 9, (t_ 8))]),
  o_ 10 (.loadN 2 (t_ 1)),
  o_ 11 (.build (zi 9) [(0, 1, (k_ 1)), (2, 1, (k_ 1)), (3, 2, (t_ 10))]),
  o_ 12 (.build (zi 9) [(0, 1, (k_ 2)), (2, 1, (k_ 0))]),
  o_ 13 (.mkslice 2 (zi 18) [(0, 9, (t_ 11)), (9, 9, (t_ 12))]),
  o_ 14 (.mkslice 2 [(.slice none 0 0), (.slice none 0 0)] [(0, 1, (t_ 9)), (1, 1, (t_ 13))]),
  o_ 15 (.build [(.slice none 0 0), (.slice none 0 0), (.slice none 0 0)] [(0, 1, (t_ 4)), (1, 1, (t_ 5)), (2, 1, (t_ 14))]),
  n_ (.storeN 3 (t_ 0) (t_ 15))]
def c20_body : SCode := (.seq (.reg [0] c20_0) (.seq (.reg [0, 1] c20_1) (.seq (.reg [0] c20_2) .ret)))
def c20 : SFunc := ⟨0, 16, c20_body, [.cellN 0 3]⟩

/- jacquard/trace.Like -/
def c273_0 : List SOper := [o_ 4 (.box (t_ 0)),
  o_ 8 (.mov (.const (.bool false)))]
def c273_1 : List SOper := [o_ 14 (.loadN 3 (t_ 4)),
  o_ 15 (.mov (t_ 1)),
  o_ 16 (.mov (t_ 2)),
  o_ 17 (.call 272 [(t_ 14), (t_ 15), (t_ 16)]),
  o_ 13 (.mov (t_ 17)),
  o_ 18 (.extr (t_ 13) 0),
  o_ 19 (.extr (t_ 13) 1),
  o_ 9 (.alloc [(.slice none 0 0), (.slice none 0 0), (.slice none 0 0)]),
  n_ (.storeN 3 (t_ 9) (t_ 18)),
  o_ 10 (.mov (t_ 19))]
def c273_2 : List SOper := [o_ 21 (.loadN 3 (t_ 4)),
  o_ 22 (.mov (t_ 1)),
  o_ 23 (.mov (t_ 3)),
  o_ 24 (.call 272 [(t_ 21), (t_ 22), (t_ 23)]),
  o_ 20 (.mov (t_ 24)),
  o_ 25 (.extr (t_ 20) 0),
  o_ 26 (.extr (t_ 20) 1),
  o_ 11 (.alloc [(.slice none 0 0), (.slice none 0 0), (.slice none 0 0)]),
  n_ (.storeN 3 (t_ 11) (t_ 25)),
  o_ 12 (.mov (t_ 26))]
def c273_3 : List SOper := [o_ 27 (.mov (t_ 10)),
  o_ 28 (.mov (t_ 27)),
  g_ 29 28 true (.mov (t_ 12)),
  o_ 30 (.pick (t_ 28) (t_ 29) (.const (.bool false))),
  o_ 31 (.mov (t_ 30)),
  g_ 32 31 true (.loadN 3 (t_ 9)),
  g_ 33 31 true (.loadN 3 (t_ 11)),
  g_ 34 31 true (.call 279 [(t_ 32), (t_ 33)]),
  o_ 35 (.pick (t_ 31) (t_ 34) (.const (.bool false))),
  o_ 8 (.mov (t_ 35))]
def c273_body : SCode := (.seq (.reg [1, 2, 3, 4] c273_0) (.seq (.reg [1, 3, 4, 9, 10] c273_1) (.seq (.reg [9, 10, 11, 12] c273_2) (.seq (.reg [8] c273_3) .ret))))
def c273 : SFunc := ⟨4, 36, c273_body, [.tmp 8]⟩

/- (jacquard/rel.Rel).in -/
def c98_0 : List SOper := [o_ 2 (.box (t_ 0)),
  o_ 4 (.mov (.const (.bool false)))]
def c98_1 : List SOper := [o_ 5 (.mov (t_ 1)),
  o_ 6 (.bin .geq (t_ 5) (k_ 0)),
  o_ 7 (.mov (t_ 6)),
  g_ 8 7 true (.mov (t_ 1)),
  g_ 9 7 true (.fld 0 (t_ 2)),
  g_ 10 7 true (.load1 (t_ 9)),
  g_ 11 7 true (.bin .lss (t_ 8) (t_ 10)),
  o_ 12 (.pick (t_ 7) (t_ 11) (.const (.bool false))),
  o_ 4 (.mov (t_ 12))]
def c98_body : SCode := (.seq (.reg [1, 2] c98_0) (.seq (.reg [4] c98_1) .ret))
def c98 : SFunc := ⟨2, 13, c98_body, [.tmp 4]⟩

/- (jacquard/set.Set).Has -/
def c58_0 : List SOper := [o_ 4 (.mov (.const (.bool false)))]
def c58_1 : List SOper := [o_ 5 (.mov (t_ 0)),
  o_ 6 (.mov (t_ 1)),
  o_ 7 (.call 103 [(t_ 6)]),
  o_ 8 (.bin .and (t_ 5) (t_ 7)),
  o_ 9 (.bin .neq (t_ 8) (.const (.int .u64 (0)))),
  o_ 4 (.mov (t_ 9))]
def c58_body : SCode := (.seq (.reg [0, 1] c58_0) (.seq (.reg [4] c58_1) .ret))
def c58 : SFunc := ⟨2, 10, c58_body, [.tmp 4]⟩

/- (jacquard/set.Set).List -/
def c54_0 : List SOper := [o_ 2 (.mov (.const (.slice none 0 0)))]
def c54_1 : List SOper := [o_ 3 (.mov (.const (.slice none 0 0)))]
def c54_2 : List SOper := [o_ 4 (.mov (t_ 0)),
  o_ 5 (.bin .neq (t_ 4) (.const (.int .u64 (0))))]
def c54_3 : List SOper := [o_ 10 (.mov (t_ 3)),
  o_ 11 (.mov (t_ 0)),
  o_ 12 (.call 99 [(t_ 11)]),
  o_ 13 (.mkslice 1 [(.int .i64 (0))] [(0, 1, (t_ 12))]),
  o_ 14 (.append 1 8 (t_ 10) (t_ 13)),
  o_ 3 (.mov (t_ 14))]
def c54_4 : List SOper := [o_ 6 (.mov (t_ 0)),
  o_ 7 (.mov (t_ 0)),
  o_ 8 (.bin .sub (t_ 7) (.const (.int .u64 (1)))),
  o_ 9 (.bin .and (t_ 6) (t_ 8)),
  o_ 0 (.mov (t_ 9))]
def c54_5 : SCode := (.seq (.seq (.reg [0, 3, 5] c54_2) (.cond (t_ 5) .skip (.exit 0))) (.seq (.block 1 (.reg [0, 3] c54_3)) (.reg [0, 3] c54_4)))
def c54_6 : List SOper := [o_ 15 (.mov (t_ 3)),
  o_ 2 (.mov (t_ 15))]
def c54_body : SCode := (.seq (.reg [0] c54_0) (.seq (.reg [0, 3] c54_1) (.seq (.block 0 (.loop [0, 3] c54_5)) (.seq (.reg [2] c54_6) .ret))))
def c54 : SFunc := ⟨1, 16, c54_body, [.tmp 2]⟩

/- (jacquard/set.Set).With -/
def c102_0 : List SOper := [o_ 4 (.mov (.const (.int .u64 (0))))]
def c102_1 : List SOper := [o_ 5 (.mov (t_ 0)),
  o_ 6 (.mov (t_ 1)),
  o_ 7 (.call 103 [(t_ 6)]),
  o_ 8 (.bin .or (t_ 5) (t_ 7)),
  o_ 4 (.mov (t_ 8))]
def c102_body : SCode := (.seq (.reg [0, 1] c102_0) (.seq (.reg [4] c102_1) .ret))
def c102 : SFunc := ⟨2, 9, c102_body, [.tmp 4]⟩

/- jacquard/trace.came -/
def c213_0 : List SOper := [o_ 5 (.box (t_ 2)),
  o_ 6 (.mov (k_ 0))]
def c213_1 : List SOper := [o_ 7 (.mov (t_ 0)),
  o_ 8 (.load1 (t_ 5)),
  o_ 9 (.idxS 7 (t_ 7) (t_ 8)),
  o_ 10 (.loadN 7 (t_ 9)),
  o_ 11 (.mov (t_ 1)),
  o_ 12 (.call 164 [(t_ 10), (t_ 11)])]
def c213_2 : List SOper := [o_ 13 (.load1 (t_ 5)),
  o_ 6 (.mov (t_ 13))]
def c213_3 : List SOper := [o_ 14 (.mov (t_ 0)),
  o_ 15 (.mkfunc 245 [] [(t_ 5)]),
  o_ 16 (.call 244 [(t_ 14), (t_ 15)]),
  o_ 6 (.mov (t_ 16))]
def c213_body : SCode := (.seq (.reg [0, 1, 5] c213_0) (.seq (.seq (.reg [0, 5, 12] c213_1) (.cond (t_ 12) (.seq (.reg [6] c213_2) .ret) .skip)) (.seq (.reg [6] c213_3) .ret)))
def c213 : SFunc := ⟨3, 17, c213_body, [.tmp 6]⟩

/- jacquard/play.Run -/
def c277_0 : List SOper := [o_ 3 (.box (t_ 0)),
  o_ 6 (.mov (.const (.slice none 0 0))),
  o_ 7 (.mov (k_ 0)),
  o_ 8 (.mov (.const (.bool false)))]
def c277_1 : List SOper := [o_ 11 (.loadN 3 (t_ 3)),
  o_ 12 (.mov (t_ 1)),
  o_ 13 (.mov (t_ 2)),
  o_ 14 (.call 283 [(t_ 11), (t_ 12), (t_ 13)]),
  o_ 10 (.mov (t_ 14)),
  o_ 15 (.extr (t_ 10) 0),
  o_ 16 (.extr (t_ 10) 1),
  o_ 9 (.mov (t_ 15)),
  o_ 7 (.mov (t_ 16))]
def c277_2 : List SOper := [o_ 17 (.mov (t_ 9)),
  o_ 18 (.isnil 0 false (t_ 17))]
def c277_3 : List SOper := [o_ 6 (.mov (.const (.slice none 0 0))),
  o_ 7 (.mov (k_ 0)),
  o_ 8 (.mov (.const (.bool false)))]
def c277_4 : List SOper := [o_ 19 (.mov (t_ 9)),
  o_ 20 (.call 46 [(t_ 19)]),
  o_ 21 (.mov (t_ 7)),
  o_ 22 (.mov (t_ 9)),
  o_ 23 (.call 284 [(t_ 22)]),
  o_ 6 (.mov (t_ 20)),
  o_ 7 (.mov (t_ 21)),
  o_ 8 (.mov (t_ 23))]
def c277_body : SCode := (.seq (.reg [1, 2, 3] c277_0) (.seq (.reg [7, 9] c277_1) (.seq (.seq (.reg [7, 9, 18] c277_2) (.cond (t_ 18) (.seq (.reg [6, 7, 8] c277_3) .ret) .skip)) (.seq (.reg [6, 7, 8] c277_4) .ret))))
def c277 : SFunc := ⟨3, 24, c277_body, [.tmp 6, .tmp 7, .tmp 8]⟩

/- jacquard/trace.Of -/
def c278_0 : List SOper := [o_ 3 (.box (t_ 0)),
  o_ 6 (.alloc [(.slice none 0 0), (.slice none 0 0), (.slice none 0 0)])]
def c278_1 : List SOper := [o_ 16 (.loadN 3 (t_ 3)),
  o_ 17 (.call 147 [(t_ 16)]),
  o_ 18 (.build [(.slice none 0 0), (.slice none 0 0), (.slice none 0 0)] [(0, 1, (t_ 17))]),
  o_ 7 (.alloc [(.slice none 0 0), (.slice none 0 0), (.slice none 0 0)]),
  n_ (.storeN 3 (t_ 7) (t_ 18))]
def c278_2 : List SOper := [o_ 19 (.mov (t_ 2)),
  o_ 20 (.lenS (t_ 19)),
  o_ 21 (.mkrow 1 8 [(.int .i64 (0))] (t_ 20) (t_ 20)),
  o_ 8 (.mov (t_ 21))]
def c278_3 : List SOper := [o_ 22 (.fld 2 (t_ 3)),
  o_ 23 (.load1 (t_ 22)),
  o_ 24 (.lenS (t_ 23)),
  o_ 25 (.mov (k_ 0))]
def c278_4 : List SOper := [o_ 26 (.bin .lss (t_ 25) (t_ 24))]
def c278_5 : List SOper := [o_ 27 (.mov (t_ 25)),
  o_ 9 (.mov (t_ 27))]
def c278_6 : List SOper := [o_ 10 (.mov (k_ 0))]
def c278_7 : List SOper := [o_ 28 (.mov (t_ 2)),
  o_ 29 (.lenS (t_ 28)),
  o_ 30 (.mov (k_ 0))]
def c278_8 : List SOper := [o_ 31 (.bin .lss (t_ 30) (t_ 29))]
def c278_9 : List SOper := [o_ 32 (.mov (t_ 30)),
  o_ 33 (.idxS 7 (t_ 28) (t_ 30)),
  o_ 34 (.loadN 7 (t_ 33)),
  o_ 12 (.alloc (zi 7)),
  o_ 11 (.mov (t_ 32)),
  n_ (.storeN 7 (t_ 12) (t_ 34))]
def c278_10 : List SOper := [o_ 35 (.fld 1 (t_ 12)),
  o_ 36 (.load1 (t_ 35)),
  o_ 37 (.mov (t_ 9)),
  o_ 38 (.bin .eql (t_ 36) (t_ 37)),
  o_ 39 (.mov (t_ 38)),
  g_ 40 39 true (.fld 2 (t_ 12)),
  g_ 41 39 true (.load1 (t_ 40)),
  g_ 42 39 true (.bin .neq (t_ 41) (k_ 6)),
  o_ 43 (.pick (t_ 39) (t_ 42) (.const (.bool false)))]
def c278_11 : List SOper := [o_ 44 (.mov (t_ 8)),
  o_ 45 (.mov (t_ 11)),
  o_ 46 (.fld 0 (t_ 7)),
  o_ 47 (.load1 (t_ 46)),
  o_ 48 (.lenS (t_ 47)),
  o_ 49 (.idxS 1 (t_ 44) (t_ 45)),
  n_ (.store1 (t_ 49) (t_ 48))]
def c278_12 : List SOper := [o_ 50 (.fld 0 (t_ 7)),
  o_ 51 (.load1 (t_ 50)),
  o_ 52 (.mov (t_ 9)),
  o_ 53 (.mov (t_ 10)),
  o_ 54 (.fld 2 (t_ 12)),
  o_ 55 (.load1 (t_ 54)),
  o_ 56 (.fld 3 (t_ 12)),
  o_ 57 (.load1 (t_ 56)),
  o_ 58 (.fld 4 (t_ 12)),
  o_ 59 (.load1 (t_ 58)),
  o_ 60 (.fld 5 (t_ 12)),
  o_ 61 (.load1 (t_ 60)),
  o_ 62 (.build (zi 6) [(0, 1, (t_ 52)), (1, 1, (t_ 53)), (2, 1, (t_ 55)), (3, 1, (t_ 57)), (4, 1, (t_ 59)), (5, 1, (t_ 61))]),
  o_ 63 (.mkslice 1 (zi 6) [(0, 6, (t_ 62))]),
  o_ 64 (.append 6 48 (t_ 51) (t_ 63)),
  o_ 65 (.fld 0 (t_ 7)),
  n_ (.store1 (t_ 65) (t_ 64))]
def c278_13 : List SOper := [o_ 66 (.mov (t_ 10)),
  o_ 67 (.bin .add (t_ 66) (k_ 1)),
  o_ 10 (.mov (t_ 67))]
def c278_14 : List SOper := [o_ 68 (.bin .add (t_ 30) (k_ 1)),
  o_ 30 (.mov (t_ 68))]
def c278_15 : SCode := (.seq (.reg [1, 2, 3, 6, 7, 8, 9, 10, 24, 25, 28, 29, 30, 31] c278_8) (.seq (.cond (t_ 31) .skip (.exit 2)) (.seq (.block 3 (.seq (.reg [1, 2, 3, 6, 7, 8, 9, 10, 11, 12, 24, 25, 28, 29, 30] c278_9) (.seq (.reg [1, 2, 3, 6, 7, 8, 9, 10, 11, 12, 24, 25, 28, 29, 30, 43] c278_10) (.cond (t_ 43) (.seq (.reg [1, 2, 3, 6, 7, 8, 9, 10, 12, 24, 25, 28, 29, 30] c278_11) (.seq (.reg [1, 2, 3, 6, 7, 8, 9, 10, 24, 25, 28, 29, 30] c278_12) (.reg [1, 2, 3, 6, 7, 8, 9, 10, 24, 25, 28, 29, 30] c278_13))) .skip)))) (.reg [1, 2, 3, 6, 7, 8, 9, 10, 24, 25, 28, 29, 30] c278_14))))
def c278_16 : List SOper := [o_ 69 (.bin .add (t_ 25) (k_ 1)),
  o_ 25 (.mov (t_ 69))]
def c278_17 : SCode := (.seq (.reg [1, 2, 3, 6, 7, 8, 24, 25, 26] c278_4) (.seq (.cond (t_ 26) .skip (.exit 0)) (.seq (.block 1 (.seq (.reg [1, 2, 3, 6, 7, 8, 9, 24, 25] c278_5) (.seq (.reg [1, 2, 3, 6, 7, 8, 9, 10, 24, 25] c278_6) (.seq (.reg [1, 2, 3, 6, 7, 8, 9, 10, 24, 25, 28, 29, 30] c278_7) (.block 2 (.loop [1, 2, 3, 6, 7, 8, 9, 10, 24, 25, 28, 29, 30] c278_15)))))) (.reg [1, 2, 3, 6, 7, 8, 24, 25] c278_16))))
def c278_18 : List SOper := [o_ 70 (.mkslice 1 [(.int .i64 (0))] [(0, 1, (k_ (-1)))]),
  o_ 71 (.fld 0 (t_ 7)),
  o_ 72 (.load1 (t_ 71)),
  o_ 73 (.lenS (t_ 72)),
  o_ 74 (.call 180 [(t_ 70), (t_ 73)]),
  o_ 75 (.fld 1 (t_ 7)),
  n_ (.store1 (t_ 75) (t_ 74))]
def c278_19 : List SOper := [o_ 76 (.fld 0 (t_ 3)),
  o_ 77 (.load1 (t_ 76)),
  o_ 78 (.lenS (t_ 77)),
  o_ 79 (.mov (k_ 0))]
def c278_20 : List SOper := [o_ 80 (.bin .lss (t_ 79) (t_ 78))]
def c278_21 : List SOper := [o_ 81 (.mov (t_ 79)),
  o_ 13 (.mov (t_ 81))]
def c278_22 : List SOper := [o_ 82 (.fld 2 (t_ 7)),
  o_ 83 (.load1 (t_ 82)),
  o_ 84 (.mov (t_ 13)),
  o_ 85 (.mkslice 1 [(.int .i64 (0))] [(0, 1, (t_ 84))]),
  o_ 86 (.mkslice 1 [(.slice none 0 0)] [(0, 1, (t_ 85))]),
  o_ 87 (.append 1 24 (t_ 83) (t_ 86)),
  o_ 88 (.fld 2 (t_ 7)),
  n_ (.store1 (t_ 88) (t_ 87))]
def c278_23 : List SOper := [o_ 89 (.bin .add (t_ 79) (k_ 1)),
  o_ 79 (.mov (t_ 89))]
def c278_24 : SCode := (.seq (.reg [1, 2, 6, 7, 8, 78, 79, 80] c278_20) (.seq (.cond (t_ 80) .skip (.exit 4)) (.seq (.block 5 (.seq (.reg [1, 2, 6, 7, 8, 13, 78, 79] c278_21) (.reg [1, 2, 6, 7, 8, 78, 79] c278_22))) (.reg [1, 2, 6, 7, 8, 78, 79] c278_23))))
def c278_25 : List SOper := [o_ 90 (.mov (t_ 2)),
  o_ 91 (.lenS (t_ 90)),
  o_ 92 (.mov (k_ 0))]
def c278_26 : List SOper := [o_ 93 (.bin .lss (t_ 92) (t_ 91))]
def c278_27 : List SOper := [o_ 94 (.mov (t_ 92)),
  o_ 95 (.idxS 7 (t_ 90) (t_ 92)),
  o_ 96 (.loadN 7 (t_ 95)),
  o_ 15 (.alloc (zi 7)),
  o_ 14 (.mov (t_ 94)),
  n_ (.storeN 7 (t_ 15) (t_ 96))]
def c278_28 : List SOper := [o_ 97 (.loadN 7 (t_ 15)),
  o_ 98 (.call 166 [(t_ 97)])]
def c278_29 : List SOper := [⟨(some 99), .fld 1 (t_ 7), none, [7], 0, [], 0, 0, []⟩,
  ⟨(some 100), .load1 (t_ 99), none, [99], 1, [0], 0, 0, []⟩,
  ⟨(some 101), .mov (t_ 8), none, [8], 2, [], 0, 0, []⟩,
  ⟨(some 102), .mov (t_ 14), none, [14], 3, [], 0, 0, []⟩,
  ⟨(some 103), .idxS 1 (t_ 101) (t_ 102), none, [101, 102], 4, [2, 3], 0, 0, []⟩,
  ⟨(some 104), .load1 (t_ 103), none, [103], 5, [4], 0, 0, []⟩,
  ⟨(some 105), .fld 3 (t_ 15), none, [15], 6, [], 0, 0, []⟩,
  ⟨(some 106), .load1 (t_ 105), none, [105], 7, [6], 0, 0, []⟩,
  ⟨(some 107), .idxS 1 (t_ 100) (t_ 104), none, [100, 104], 8, [1, 5, 0, 1, 2, 3, 4, 5, 6, 7], 0, 0, []⟩]
def c278_29b : List SOper := [⟨none, .store1 (t_ 107) (t_ 106), none, [107, 106], 9, [8, 7, 0, 1, 2, 3, 4, 5, 6, 7], 0, 0, [1, 5, 7]⟩]
def c278_30 : List SOper := [o_ 108 (.fld 6 (t_ 15)),
  o_ 109 (.load1 (t_ 108)),
  o_ 110 (.bin .geq (t_ 109) (k_ 0))]
def c278_31 : List SOper := [⟨(some 111), .fld 1 (t_ 7), none, [7], 0, [], 0, 0, []⟩,
  ⟨(some 112), .load1 (t_ 111), none, [111], 1, [0], 0, 0, []⟩,
  ⟨(some 113), .mov (t_ 8), none, [8], 2, [], 0, 0, []⟩,
  ⟨(some 114), .mov (t_ 14), none, [14], 3, [], 0, 0, []⟩,
  ⟨(some 115), .idxS 1 (t_ 113) (t_ 114), none, [113, 114], 4, [2, 3], 0, 0, []⟩,
  ⟨(some 116), .load1 (t_ 115), none, [115], 5, [4], 0, 0, []⟩,
  ⟨(some 117), .mov (t_ 8), none, [8], 6, [], 0, 0, []⟩,
  ⟨(some 118), .fld 6 (t_ 15), none, [15], 7, [], 0, 0, []⟩,
  ⟨(some 119), .load1 (t_ 118), none, [118], 8, [7], 0, 0, []⟩,
  ⟨(some 120), .idxS 1 (t_ 117) (t_ 119), none, [117, 119], 9, [6, 8], 0, 0, []⟩,
  ⟨(some 121), .load1 (t_ 120), none, [120], 10, [9], 0, 0, []⟩,
  ⟨(some 122), .idxS 1 (t_ 112) (t_ 116), none, [112, 116], 11, [1, 5, 0, 1, 2, 3, 4, 5, 6, 7, 8, 9, 10], 0, 0, []⟩]
def c278_31b : List SOper := [⟨none, .store1 (t_ 122) (t_ 121), none, [122, 121], 12, [11, 10, 0, 1, 2, 3, 4, 5, 6, 7, 8, 9, 10], 0, 0, [1, 5, 8, 10]⟩]
def c278_32 : List SOper := [o_ 124 (.fld 2 (t_ 15)),
  o_ 125 (.load1 (t_ 124)),
  o_ 126 (.bin .eql (t_ 125) (k_ 6)),
  o_ 123 (.mov (t_ 126))]
def c278_33 : List SOper := [⟨(some 127), .fld 2 (t_ 7), none, [7], 0, [], 0, 0, []⟩,
  ⟨(some 128), .load1 (t_ 127), none, [127], 1, [0], 0, 1, []⟩,
  ⟨(some 129), .fld 3 (t_ 15), none, [15], 2, [], 0, 0, []⟩,
  ⟨(some 130), .load1 (t_ 129), none, [129], 3, [2], 0, 1, []⟩,
  ⟨(some 131), .fld 2 (t_ 7), none, [7], 4, [], 0, 0, []⟩,
  ⟨(some 132), .load1 (t_ 131), none, [131], 5, [4], 0, 0, []⟩,
  ⟨(some 133), .fld 3 (t_ 15), none, [15], 6, [], 0, 0, []⟩,
  ⟨(some 134), .load1 (t_ 133), none, [133], 7, [6], 0, 0, []⟩,
  ⟨(some 135), .idxS 1 (t_ 132) (t_ 134), none, [132, 134], 8, [5, 7], 0, 0, []⟩,
  ⟨(some 136), .load1 (t_ 135), none, [135], 9, [8], 0, 0, []⟩,
  ⟨(some 137), .mov (t_ 8), none, [8], 10, [], 0, 0, []⟩,
  ⟨(some 138), .fld 6 (t_ 15), none, [15], 11, [], 0, 0, []⟩,
  ⟨(some 139), .load1 (t_ 138), none, [138], 12, [11], 0, 0, []⟩,
  ⟨(some 140), .idxS 1 (t_ 137) (t_ 139), none, [137, 139], 13, [10, 12], 0, 0, []⟩,
  ⟨(some 141), .load1 (t_ 140), none, [140], 14, [13], 0, 0, []⟩,
  ⟨(some 142), .mkslice 1 [(.int .i64 (0))] [(0, 1, (t_ 141))], none, [141], 15, [14], 0, 0, []⟩,
  ⟨(some 143), .append 1 8 (t_ 136) (t_ 142), none, [136, 142], 16, [9, 15], 0, 0, [15]⟩,
  ⟨(some 144), .idxS 1 (t_ 128) (t_ 130), none, [128, 130], 17, [1, 3, 0, 1, 2, 3, 4, 5, 6, 7, 8, 9, 10, 11, 12, 13, 14, 15, 16], 0, 0, []⟩]
def c278_33b : List SOper := [⟨none, .store1 (t_ 144) (t_ 143), none, [144, 143], 18, [17, 16, 16, 0, 1, 2, 3, 4, 5, 6, 7, 8, 9, 10, 11, 12, 13, 14, 15, 16], 0, 0, [1, 3, 5, 7, 9, 12, 14, 15]⟩]
def c278_34 : List SOper := [o_ 146 (.loadN 7 (t_ 15)),
  o_ 147 (.mov (t_ 1)),
  o_ 148 (.call 164 [(t_ 146), (t_ 147)]),
  o_ 145 (.mov (t_ 148))]
def c278_35 : List SOper := [⟨(some 149), .fld 2 (t_ 7), none, [7], 0, [], 0, 0, []⟩,
  ⟨(some 150), .load1 (t_ 149), none, [149], 1, [0], 0, 1, []⟩,
  ⟨(some 151), .fld 3 (t_ 15), none, [15], 2, [], 0, 0, []⟩,
  ⟨(some 152), .load1 (t_ 151), none, [151], 3, [2], 0, 1, []⟩,
  ⟨(some 153), .fld 2 (t_ 7), none, [7], 4, [], 0, 0, []⟩,
  ⟨(some 154), .load1 (t_ 153), none, [153], 5, [4], 0, 0, []⟩,
  ⟨(some 155), .fld 3 (t_ 15), none, [15], 6, [], 0, 0, []⟩,
  ⟨(some 156), .load1 (t_ 155), none, [155], 7, [6], 0, 0, []⟩,
  ⟨(some 157), .idxS 1 (t_ 154) (t_ 156), none, [154, 156], 8, [5, 7], 0, 0, []⟩,
  ⟨(some 158), .load1 (t_ 157), none, [157], 9, [8], 0, 0, []⟩,
  ⟨(some 159), .mov (t_ 8), none, [8], 10, [], 0, 0, []⟩,
  ⟨(some 160), .mov (t_ 14), none, [14], 11, [], 0, 0, []⟩,
  ⟨(some 161), .idxS 1 (t_ 159) (t_ 160), none, [159, 160], 12, [10, 11], 0, 0, []⟩,
  ⟨(some 162), .load1 (t_ 161), none, [161], 13, [12], 0, 0, []⟩,
  ⟨(some 163), .mkslice 1 [(.int .i64 (0))] [(0, 1, (t_ 162))], none, [162], 14, [13], 0, 0, []⟩,
  ⟨(some 164), .append 1 8 (t_ 158) (t_ 163), none, [158, 163], 15, [9, 14], 0, 0, [14]⟩,
  ⟨(some 165), .idxS 1 (t_ 150) (t_ 152), none, [150, 152], 16, [1, 3, 0, 1, 2, 3, 4, 5, 6, 7, 8, 9, 10, 11, 12, 13, 14, 15], 0, 0, []⟩]
def c278_35b : List SOper := [⟨none, .store1 (t_ 165) (t_ 164), none, [165, 164], 17, [16, 15, 15, 0, 1, 2, 3, 4, 5, 6, 7, 8, 9, 10, 11, 12, 13, 14, 15], 0, 0, [1, 3, 5, 7, 9, 13, 14]⟩]
def c278_36 : List SOper := [o_ 166 (.bin .add (t_ 92) (k_ 1)),
  o_ 92 (.mov (t_ 166))]
def c278_37 : SCode := (.seq (.reg [1, 6, 7, 8, 90, 91, 92, 93] c278_26) (.seq (.cond (t_ 93) .skip (.exit 6)) (.seq (.block 7 (.seq (.reg [1, 6, 7, 8, 14, 15, 90, 91, 92] c278_27) (.seq (.seq (.reg [1, 6, 7, 8, 14, 15, 90, 91, 92, 98] c278_28) (.cond (t_ 98) (.seq (.dreg [1, 6, 7, 8, 14, 15, 90, 91, 92] c278_29 c278_29b) (.seq (.reg [1, 6, 7, 8, 14, 15, 90, 91, 92, 110] c278_30) (.cond (t_ 110) (.dreg [1, 6, 7, 8, 14, 15, 90, 91, 92] c278_31 c278_31b) .skip))) .skip)) (.block 8 (.seq (.reg [1, 6, 7, 8, 14, 15, 90, 91, 92, 123] c278_32) (.cond (t_ 123) (.dreg [1, 6, 7, 8, 90, 91, 92] c278_33 c278_33b) (.seq (.reg [1, 6, 7, 8, 14, 15, 90, 91, 92, 145] c278_34) (.cond (t_ 145) (.dreg [1, 6, 7, 8, 90, 91, 92] c278_35 c278_35b) .skip)))))))) (.reg [1, 6, 7, 8, 90, 91, 92] c278_36))))
def c278_38 : List SOper := [o_ 167 (.loadN 3 (t_ 7)),
  n_ (.storeN 3 (t_ 6) (t_ 167))]
def c278_body : SCode := (.seq (.reg [1, 2, 3, 6] c278_0) (.seq (.reg [1, 2, 3, 6, 7] c278_1) (.seq (.reg [1, 2, 3, 6, 7, 8] c278_2) (.seq (.seq (.reg [1, 2, 3, 6, 7, 8, 24, 25] c278_3) (.block 0 (.loop [1, 2, 3, 6, 7, 8, 24, 25] c278_17))) (.seq (.reg [1, 2, 3, 6, 7, 8] c278_18) (.seq (.seq (.reg [1, 2, 6, 7, 8, 78, 79] c278_19) (.block 4 (.loop [1, 2, 6, 7, 8, 78, 79] c278_24))) (.seq (.seq (.reg [1, 6, 7, 8, 90, 91, 92] c278_25) (.block 6 (.loop [1, 6, 7, 8, 90, 91, 92] c278_37))) (.seq (.reg [6] c278_38) .ret))))))))
def c278 : SFunc := ⟨3, 168, c278_body, [.cellN 6 3]⟩

/- jacquard/exec.Same -/
def c279_0 : List SOper := [o_ 2 (.box (t_ 0)),
  o_ 3 (.box (t_ 1)),
  o_ 4 (.mov (.const (.bool false)))]
def c279_1 : List SOper := [o_ 5 (.loadN 3 (t_ 2)),
  o_ 6 (.loadN 3 (t_ 3)),
  o_ 7 (.call 79 [(t_ 5), (t_ 6)]),
  o_ 8 (.bin .eql (t_ 7) (k_ 0)),
  o_ 4 (.mov (t_ 8))]
def c279_body : SCode := (.seq (.reg [2, 3] c279_0) (.seq (.reg [4] c279_1) .ret))
def c279 : SFunc := ⟨2, 9, c279_body, [.tmp 4]⟩

/- jacquard/set.bit -/
def c103_0 : List SOper := [o_ 2 (.mov (.const (.int .u64 (0))))]
def c103_1 : List SOper := [o_ 3 (.mov (t_ 0)),
  o_ 4 (.bin .lss (t_ 3) (k_ 0)),
  o_ 5 (.mov (t_ 4)),
  g_ 6 5 false (.mov (t_ 0)),
  g_ 7 5 false (.bin .geq (t_ 6) (k_ 64)),
  o_ 8 (.pick (t_ 5) (.const (.bool true)) (t_ 7))]
def c103_2 : List SOper := [o_ 2 (.mov (.const (.int .u64 (0))))]
def c103_3 : List SOper := [o_ 9 (.mov (t_ 0)),
  o_ 10 (.conv .u64 (t_ 9)),
  o_ 11 (.bin .shl (.const (.int .u64 (1))) (t_ 10)),
  o_ 2 (.mov (t_ 11))]
def c103_body : SCode := (.seq (.reg [0] c103_0) (.seq (.seq (.reg [0, 8] c103_1) (.cond (t_ 8) (.seq (.reg [2] c103_2) .ret) .skip)) (.seq (.reg [2] c103_3) .ret)))
def c103 : SFunc := ⟨1, 12, c103_body, [.tmp 2]⟩

/- (jacquard/set.Set).First -/
def c99_0 : List SOper := [o_ 2 (.mov (k_ 0))]
def c99_1 : List SOper := [o_ 3 (.mov (t_ 0)),
  o_ 4 (.bin .eql (t_ 3) (.const (.int .u64 (0))))]
def c99_2 : List SOper := [o_ 2 (.mov (k_ (-1)))]
def c99_3 : List SOper := [o_ 5 (.mov (t_ 0)),
  o_ 6 (.call 170 [(t_ 5)]),
  o_ 2 (.mov (t_ 6))]
def c99_body : SCode := (.seq (.reg [0] c99_0) (.seq (.seq (.reg [0, 4] c99_1) (.cond (t_ 4) (.seq (.reg [2] c99_2) .ret) .skip)) (.seq (.reg [2] c99_3) .ret)))
def c99 : SFunc := ⟨1, 7, c99_body, [.tmp 2]⟩

/- slices.IndexFunc[[]jacquard/api.Step,jacquard/api.Step] -/
def c244_0 : List SOper := [o_ 4 (.mov (k_ 0))]
def c244_1 : List SOper := [o_ 6 (.mov (t_ 0)),
  o_ 7 (.lenS (t_ 6)),
  o_ 8 (.mov (k_ 0))]
def c244_2 : List SOper := [o_ 9 (.bin .lss (t_ 8) (t_ 7))]
def c244_3 : List SOper := [o_ 10 (.mov (t_ 8)),
  o_ 5 (.mov (t_ 10))]
def c244_4 : List SOper := [o_ 11 (.mov (t_ 1)),
  o_ 12 (.mov (t_ 0)),
  o_ 13 (.mov (t_ 5)),
  o_ 14 (.idxS 7 (t_ 12) (t_ 13)),
  o_ 15 (.loadN 7 (t_ 14)),
  o_ 16 (.callv (t_ 11) [(t_ 15)])]
def c244_5 : List SOper := [o_ 17 (.mov (t_ 5)),
  o_ 4 (.mov (t_ 17))]
def c244_6 : List SOper := [o_ 18 (.bin .add (t_ 8) (k_ 1)),
  o_ 8 (.mov (t_ 18))]
def c244_7 : SCode := (.seq (.reg [0, 1, 7, 8, 9] c244_2) (.seq (.cond (t_ 9) .skip (.exit 0)) (.seq (.block 1 (.seq (.reg [0, 1, 5, 7, 8] c244_3) (.seq (.reg [0, 1, 5, 7, 8, 16] c244_4) (.cond (t_ 16) (.seq (.reg [4] c244_5) .ret) .skip)))) (.reg [0, 1, 7, 8] c244_6))))
def c244_8 : List SOper := [o_ 4 (.mov (k_ (-1)))]
def c244_body : SCode := (.seq (.reg [0, 1] c244_0) (.seq (.seq (.reg [0, 1, 7, 8] c244_1) (.block 0 (.loop [0, 1, 7, 8] c244_7))) (.seq (.reg [4] c244_8) .ret)))
def c244 : SFunc := ⟨2, 19, c244_body, [.tmp 4]⟩

/- jacquard/trace.came$1 -/
def c245_0 : List SOper := [o_ 2 (.box (t_ 0)),
  o_ 3 (.mov (.const (.bool false)))]
def c245_1 : List SOper := [o_ 4 (.fld 2 (t_ 2)),
  o_ 5 (.load1 (t_ 4)),
  o_ 6 (.bin .eql (t_ 5) (k_ 6)),
  o_ 7 (.mov (t_ 6)),
  g_ 8 7 true (.fld 6 (t_ 2)),
  g_ 9 7 true (.load1 (t_ 8)),
  g_ 10 7 true (.load1 (t_ 1)),
  g_ 11 7 true (.bin .eql (t_ 9) (t_ 10)),
  o_ 12 (.pick (t_ 7) (t_ 11) (.const (.bool false))),
  o_ 3 (.mov (t_ 12))]
def c245_body : SCode := (.seq (.reg [1, 2] c245_0) (.seq (.reg [3] c245_1) .ret))
def c245 : SFunc := ⟨2, 13, c245_body, [.tmp 3]⟩

/- jacquard/play.run -/
def c283_0 : List SOper := [o_ 3 (.box (t_ 0)),
  o_ 6 (.mov (.const (.pointer none))),
  o_ 7 (.mov (k_ 0))]
def c283_1 : List SOper := [o_ 15 (.loadN 3 (t_ 3)),
  o_ 16 (.mov (t_ 1)),
  o_ 17 (.call 88 [(t_ 15), (t_ 16)]),
  o_ 14 (.mov (t_ 17)),
  o_ 18 (.extr (t_ 14) 0),
  o_ 19 (.extr (t_ 14) 1),
  o_ 8 (.mov (t_ 18)),
  o_ 9 (.mov (t_ 19))]
def c283_2 : List SOper := [o_ 20 (.mov (t_ 9)),
  o_ 21 (.bin .neq (t_ 20) (k_ 0))]
def c283_3 : List SOper := [o_ 6 (.mov (.const (.pointer none))),
  o_ 7 (.mov (k_ 0))]
def c283_4 : List SOper := [o_ 22 (.mov (t_ 2)),
  o_ 23 (.lenS (t_ 22)),
  o_ 24 (.mov (k_ 0))]
def c283_5 : List SOper := [o_ 25 (.bin .lss (t_ 24) (t_ 23))]
def c283_6 : List SOper := [o_ 26 (.mov (t_ 24)),
  o_ 27 (.idxS 1 (t_ 22) (t_ 24)),
  o_ 28 (.load1 (t_ 27)),
  o_ 10 (.mov (t_ 26)),
  o_ 11 (.mov (t_ 28))]
def c283_7 : List SOper := [o_ 30 (.mov (t_ 8)),
  o_ 31 (.mov (t_ 11)),
  o_ 32 (.call 161 [(t_ 30), (t_ 31)]),
  o_ 29 (.mov (t_ 32)),
  o_ 33 (.extr (t_ 29) 0),
  o_ 34 (.extr (t_ 29) 1),
  o_ 12 (.alloc (zi 7)),
  n_ (.storeN 7 (t_ 12) (t_ 33)),
  o_ 13 (.mov (t_ 34))]
def c283_8 : List SOper := [o_ 35 (.mov (t_ 13)),
  o_ 36 (.un .not (t_ 35))]
def c283_9 : List SOper := [o_ 37 (.mov (t_ 8)),
  o_ 38 (.mov (t_ 10)),
  o_ 6 (.mov (t_ 37)),
  o_ 7 (.mov (t_ 38))]
def c283_10 : List SOper := [o_ 39 (.bin .add (t_ 24) (k_ 1)),
  o_ 24 (.mov (t_ 39))]
def c283_11 : SCode := (.seq (.reg [2, 8, 22, 23, 24, 25] c283_5) (.seq (.cond (t_ 25) .skip (.exit 0)) (.seq (.block 1 (.seq (.reg [2, 8, 10, 11, 22, 23, 24] c283_6) (.seq (.reg [2, 8, 10, 13, 22, 23, 24] c283_7) (.seq (.reg [2, 8, 10, 22, 23, 24, 36] c283_8) (.cond (t_ 36) (.seq (.reg [6, 7] c283_9) .ret) .skip))))) (.reg [2, 8, 22, 23, 24] c283_10))))
def c283_12 : List SOper := [o_ 40 (.mov (t_ 8)),
  o_ 41 (.mov (t_ 2)),
  o_ 42 (.lenS (t_ 41)),
  o_ 6 (.mov (t_ 40)),
  o_ 7 (.mov (t_ 42))]
def c283_body : SCode := (.seq (.reg [1, 2, 3] c283_0) (.seq (.reg [2, 8, 9] c283_1) (.seq (.seq (.reg [2, 8, 21] c283_2) (.cond (t_ 21) (.seq (.reg [6, 7] c283_3) .ret) .skip)) (.seq (.seq (.reg [2, 8, 22, 23, 24] c283_4) (.block 0 (.loop [2, 8, 22, 23, 24] c283_11))) (.seq (.reg [6, 7] c283_12) .ret)))))
def c283 : SFunc := ⟨3, 43, c283_body, [.tmp 6, .tmp 7]⟩

/- (*jacquard/vm.VM).Steps -/
def c46_0 : List SOper := [o_ 2 (.mov (.const (.slice none 0 0)))]
def c46_1 : List SOper := [o_ 3 (.mov (t_ 0)),
  o_ 4 (.nilchk (t_ 3)),
  o_ 5 (.fld 328 (t_ 4)),
  o_ 6 (.load1 (t_ 5)),
  o_ 7 (.call 92 [(t_ 6)]),
  o_ 2 (.mov (t_ 7))]
def c46_body : SCode := (.seq (.reg [0] c46_0) (.seq (.reg [2] c46_1) .ret))
def c46 : SFunc := ⟨1, 8, c46_body, [.tmp 2]⟩

/- (*jacquard/vm.VM).Done -/
def c284_0 : List SOper := [o_ 2 (.mov (.const (.bool false)))]
def c284_1 : List SOper := [o_ 3 (.mov (t_ 0)),
  o_ 4 (.call 159 [(t_ 3)]),
  o_ 5 (.bin .eql (t_ 4) (.const (.int .u64 (0)))),
  o_ 2 (.mov (t_ 5))]
def c284_body : SCode := (.seq (.reg [0] c284_0) (.seq (.reg [2] c284_1) .ret))
def c284 : SFunc := ⟨1, 6, c284_body, [.tmp 2]⟩

/- jacquard/event.Inits -/
def c147_0 : List SOper := [o_ 1 (.box (t_ 0)),
  o_ 2 (.mov (.const (.slice none 0 0)))]
def c147_1 : List SOper := [o_ 3 (.mov (.const (.slice none 0 0)))]
def c147_2 : List SOper := [o_ 6 (.fld 1 (t_ 1)),
  o_ 7 (.load1 (t_ 6)),
  o_ 8 (.lenS (t_ 7)),
  o_ 9 (.mov (k_ 0))]
def c147_3 : List SOper := [o_ 10 (.bin .lss (t_ 9) (t_ 8))]
def c147_4 : List SOper := [o_ 11 (.mov (t_ 9)),
  o_ 12 (.idxS 1 (t_ 7) (t_ 9)),
  o_ 13 (.load1 (t_ 12)),
  o_ 4 (.mov (t_ 11)),
  o_ 5 (.mov (t_ 13))]
def c147_5 : List SOper := [o_ 14 (.mov (t_ 3)),
  o_ 15 (.mov (t_ 4)),
  o_ 16 (.mov (t_ 4)),
  o_ 17 (.mov (t_ 5)),
  o_ 18 (.build (zi 6) [(0, 1, (k_ (-1))), (1, 1, (t_ 15)), (2, 1, (k_ 2)), (3, 1, (t_ 16)), (5, 1, (t_ 17))]),
  o_ 19 (.mkslice 1 (zi 6) [(0, 6, (t_ 18))]),
  o_ 20 (.append 6 48 (t_ 14) (t_ 19)),
  o_ 3 (.mov (t_ 20))]
def c147_6 : List SOper := [o_ 21 (.bin .add (t_ 9) (k_ 1)),
  o_ 9 (.mov (t_ 21))]
def c147_7 : SCode := (.seq (.reg [3, 7, 8, 9, 10] c147_3) (.seq (.cond (t_ 10) .skip (.exit 0)) (.seq (.block 1 (.seq (.reg [3, 4, 5, 7, 8, 9] c147_4) (.reg [3, 7, 8, 9] c147_5))) (.reg [3, 7, 8, 9] c147_6))))
def c147_8 : List SOper := [o_ 22 (.mov (t_ 3)),
  o_ 2 (.mov (t_ 22))]
def c147_body : SCode := (.seq (.reg [1] c147_0) (.seq (.reg [1, 3] c147_1) (.seq (.seq (.reg [3, 7, 8, 9] c147_2) (.block 0 (.loop [3, 7, 8, 9] c147_7))) (.seq (.reg [2] c147_8) .ret))))
def c147 : SFunc := ⟨1, 23, c147_body, [.tmp 2]⟩

/- slices.Repeat[[]int,int] -/
def c180_0 : List SOper := [o_ 4 (.mov (.const (.slice none 0 0)))]
def c180_1 : List SOper := [o_ 9 (.mov (t_ 1)),
  o_ 10 (.bin .lss (t_ 9) (k_ 0))]
def c180_2 : List SOper := [o_ 11 (.bad),
  n_ (.bad)]
def c180_3 : List SOper := [o_ 13 (.mov (t_ 0)),
  o_ 14 (.lenS (t_ 13)),
  o_ 15 (.conv .u64 (t_ 14)),
  o_ 16 (.mov (t_ 1)),
  o_ 17 (.conv .u64 (t_ 16)),
  o_ 18 (.call 223 [(t_ 15), (t_ 17)]),
  o_ 12 (.mov (t_ 18)),
  o_ 19 (.extr (t_ 12) 0),
  o_ 20 (.extr (t_ 12) 1),
  o_ 5 (.mov (t_ 19)),
  o_ 6 (.mov (t_ 20))]
def c180_4 : List SOper := [o_ 21 (.mov (t_ 5)),
  o_ 22 (.bin .gtr (t_ 21) (.const (.int .u64 (0)))),
  o_ 23 (.mov (t_ 22)),
  g_ 24 23 false (.mov (t_ 6)),
  g_ 25 23 false (.bin .gtr (t_ 24) (.const (.int .u64 (9223372036854775807)))),
  o_ 26 (.pick (t_ 23) (.const (.bool true)) (t_ 25))]
def c180_5 : List SOper := [o_ 27 (.bad),
  n_ (.bad)]
def c180_6 : List SOper := [o_ 28 (.mov (t_ 6)),
  o_ 29 (.conv .i64 (t_ 28)),
  o_ 30 (.mkrow 1 8 [(.int .i64 (0))] (t_ 29) (t_ 29)),
  o_ 7 (.mov (t_ 30))]
def c180_7 : List SOper := [o_ 31 (.mov (t_ 7)),
  o_ 32 (.mov (t_ 0)),
  o_ 33 (.copy 1 (t_ 31) (t_ 32)),
  o_ 8 (.mov (t_ 33))]
def c180_8 : List SOper := [o_ 34 (.mov (t_ 8)),
  o_ 35 (.mov (t_ 7)),
  o_ 36 (.lenS (t_ 35)),
  o_ 37 (.bin .lss (t_ 34) (t_ 36))]
def c180_9 : List SOper := [⟨(some 38), .mov (t_ 8), none, [8], 0, [], 0, 0, []⟩,
  ⟨(some 39), .mov (t_ 7), none, [7], 1, [], 0, 0, []⟩,
  ⟨(some 40), .mov (t_ 8), none, [8], 2, [], 0, 0, []⟩,
  ⟨(some 41), .slsl 1 (t_ 39) (some (t_ 40)) none none, none, [39, 40], 3, [1, 2], 0, 0, []⟩,
  ⟨(some 42), .mov (t_ 7), none, [7], 4, [], 0, 0, []⟩,
  ⟨(some 43), .mov (t_ 8), none, [8], 5, [], 0, 0, []⟩,
  ⟨(some 44), .slsl 1 (t_ 42) none (some (t_ 43)) none, none, [42, 43], 6, [4, 5], 0, 0, []⟩,
  ⟨(some 45), .copy 1 (t_ 41) (t_ 44), none, [41, 44], 7, [3, 6], 0, 0, []⟩,
  ⟨(some 46), .bin .add (t_ 38) (t_ 45), none, [38, 45], 8, [0, 7], 0, 0, []⟩,
  ⟨(some 8), .mov (t_ 46), none, [46], 9, [8, 7, 0, 1, 2, 3, 4, 5, 6, 7, 8], 0, 0, []⟩]
def c180_9b : List SOper := []
def c180_10 : SCode := (.seq (.seq (.reg [7, 8, 37] c180_8) (.cond (t_ 37) .skip (.exit 0))) (.block 1 (.dreg [7, 8] c180_9 c180_9b)))
def c180_11 : List SOper := [o_ 47 (.mov (t_ 7)),
  o_ 4 (.mov (t_ 47))]
def c180_body : SCode := (.seq (.reg [0, 1] c180_0) (.seq (.seq (.reg [0, 1, 10] c180_1) (.cond (t_ 10) (.reg [0, 1] c180_2) .skip)) (.seq (.reg [0, 5, 6] c180_3) (.seq (.seq (.reg [0, 6, 26] c180_4) (.cond (t_ 26) (.reg [0, 6] c180_5) .skip)) (.seq (.reg [0, 7] c180_6) (.seq (.reg [7, 8] c180_7) (.seq (.block 0 (.loop [7, 8] c180_10)) (.seq (.reg [4] c180_11) .ret))))))))
def c180 : SFunc := ⟨2, 48, c180_body, [.tmp 4]⟩

/- jacquard/exec.compare -/
def c79_0 : List SOper := [o_ 2 (.box (t_ 0)),
  o_ 3 (.box (t_ 1)),
  o_ 4 (.mov (k_ 0))]
def c79_1 : List SOper := [⟨(some 5), .fld 0 (t_ 2), none, [2], 0, [], 0, 0, []⟩,
  ⟨(some 6), .load1 (t_ 5), none, [5], 1, [0], 0, 0, []⟩,
  ⟨(some 7), .fld 0 (t_ 3), none, [3], 2, [], 0, 0, []⟩,
  ⟨(some 8), .load1 (t_ 7), none, [7], 3, [2], 0, 0, []⟩,
  ⟨(some 10), .fld 1 (t_ 2), none, [2], 5, [], 0, 0, []⟩,
  ⟨(some 11), .load1 (t_ 10), none, [10], 6, [5], 0, 1, []⟩,
  ⟨(some 12), .fld 1 (t_ 3), none, [3], 7, [], 0, 0, []⟩,
  ⟨(some 13), .load1 (t_ 12), none, [12], 8, [7], 0, 1, []⟩,
  ⟨(some 15), .fld 2 (t_ 2), none, [2], 10, [], 0, 0, []⟩,
  ⟨(some 16), .load1 (t_ 15), none, [15], 11, [10], 0, 2, []⟩,
  ⟨(some 17), .fld 2 (t_ 3), none, [3], 12, [], 0, 0, []⟩,
  ⟨(some 18), .load1 (t_ 17), none, [17], 13, [12], 0, 2, []⟩,
  ⟨(some 9), .call 143 [(t_ 6), (t_ 8), (.func 144)], none, [6, 8], 4, [1, 3], 0, 0, []⟩,
  ⟨(some 14), .call 145 [(t_ 11), (t_ 13)], none, [11, 13], 9, [6, 8, 4], 0, 0, []⟩,
  ⟨(some 19), .call 146 [(t_ 16), (t_ 18), (.func 145)], none, [16, 18], 14, [11, 13, 9], 0, 0, []⟩,
  ⟨(some 20), .mkslice 3 [(.int .i64 (0)), (.int .i64 (0)), (.int .i64 (0))] [(0, 1, (t_ 9)), (1, 1, (t_ 14)), (2, 1, (t_ 19))], none, [9, 14, 19], 15, [4, 9, 14], 0, 0, []⟩,
  ⟨(some 21), .call 142 [(t_ 20)], none, [20], 16, [15, 14], 0, 0, [15]⟩,
  ⟨(some 4), .mov (t_ 21), none, [21], 17, [16, 16, 0, 1, 2, 3, 4, 5, 6, 7, 8, 9, 10, 11, 12, 13, 14, 15, 16], 0, 0, []⟩]
def c79_1b : List SOper := []
def c79_body : SCode := (.seq (.reg [2, 3] c79_0) (.seq (.dreg [4] c79_1 c79_1b) .ret))
def c79 : SFunc := ⟨2, 22, c79_body, [.tmp 4]⟩

/- math/bits.TrailingZeros64 -/
def c170 : SFunc := ⟨1, 1, .native 0, []⟩

/- cmp.Or[int] -/
def c142_0 : List SOper := [o_ 2 (.mov (k_ 0))]
def c142_1 : List SOper := [o_ 3 (.mov (k_ 0))]
def c142_2 : List SOper := [o_ 6 (.mov (t_ 0)),
  o_ 7 (.lenS (t_ 6)),
  o_ 8 (.mov (k_ 0))]
def c142_3 : List SOper := [o_ 9 (.bin .lss (t_ 8) (t_ 7))]
def c142_4 : List SOper := [o_ 10 (.idxS 1 (t_ 6) (t_ 8)),
  o_ 11 (.load1 (t_ 10)),
  o_ 5 (.mov (t_ 11))]
def c142_5 : List SOper := [o_ 12 (.mov (t_ 5)),
  o_ 13 (.mov (t_ 3)),
  o_ 14 (.bin .neq (t_ 12) (t_ 13))]
def c142_6 : List SOper := [o_ 15 (.mov (t_ 5)),
  o_ 2 (.mov (t_ 15))]
def c142_7 : List SOper := [o_ 16 (.bin .add (t_ 8) (k_ 1)),
  o_ 8 (.mov (t_ 16))]
def c142_8 : SCode := (.seq (.reg [3, 6, 7, 8, 9] c142_3) (.seq (.cond (t_ 9) .skip (.exit 0)) (.seq (.block 1 (.seq (.reg [3, 5, 6, 7, 8] c142_4) (.seq (.reg [3, 5, 6, 7, 8, 14] c142_5) (.cond (t_ 14) (.seq (.reg [2] c142_6) .ret) .skip)))) (.reg [3, 6, 7, 8] c142_7))))
def c142_9 : List SOper := [o_ 17 (.mov (t_ 3)),
  o_ 2 (.mov (t_ 17))]
def c142_body : SCode := (.seq (.reg [0] c142_0) (.seq (.reg [0, 3] c142_1) (.seq (.seq (.reg [3, 6, 7, 8] c142_2) (.block 0 (.loop [3, 6, 7, 8] c142_8))) (.seq (.reg [2] c142_9) .ret))))
def c142 : SFunc := ⟨1, 18, c142_body, [.tmp 2]⟩

/- jacquard/vm.New -/
def c88_0 : List SOper := [o_ 2 (.box (t_ 0)),
  o_ 4 (.mov (.const (.pointer none))),
  o_ 5 (.mov (k_ 0))]
def c88_1 : List SOper := [o_ 8 (.mov (t_ 1)),
  o_ 9 (.bin .lss (t_ 8) (k_ 1)),
  o_ 10 (.mov (t_ 9)),
  g_ 11 10 false (.mov (t_ 1)),
  g_ 12 10 false (.bin .gtr (t_ 11) (k_ 3)),
  o_ 13 (.pick (t_ 10) (.const (.bool true)) (t_ 12)),
  o_ 14 (.mov (t_ 13)),
  g_ 15 14 false (.loadN 3 (t_ 2)),
  g_ 16 14 false (.call 59 [(t_ 15)]),
  g_ 17 14 false (.un .not (t_ 16)),
  o_ 18 (.pick (t_ 14) (.const (.bool true)) (t_ 17))]
def c88_2 : List SOper := [o_ 4 (.mov (.const (.pointer none))),
  o_ 5 (.mov (k_ 1))]
def c88_3 : List SOper := [o_ 19 (.loadN 3 (t_ 2)),
  o_ 20 (.call 158 [(t_ 19)]),
  o_ 21 (.mov (t_ 1)),
  o_ 22 (.build [(.slice none 0 0), (.slice none 0 0), (.slice none 0 0), (.int .i64 (0)), (.int .i64 (0)), (.int .i64 (0)), (.int .i64 (0)), (.int .i64 (0)), (.int .i64 (0)), (.int .i64 (0)), (.int .i64 (0)), (.int .i64 (0)), (.int .i64 (0)), (.int .i64 (0)), (.int .i64 (0)), (.int .i64 (0)), (.int .i64 (0)), (.int .i64 (0)), (.int .i64 (0)), (.int .i64 (0)), (.int .i64 (0)), (.int .i64 (0)), (.int .i64 (0)), (.int .i64 (0)), (.int .i64 (0)), (.int .i64 (0)), (.int .i64 (0)), (.int .i64 (0)), (.int .i64 (0)), (.int .i64 (0)), (.int .i64 (0)), (.int .i64 (0)), (.int .i64 (0)), (.int .i64 (0)), (.int .i64 (0)), (.int .i64 (0)), (.int .i64 (0)), (.int .i64 (0)), (.int .i64 (0)), (.int .i64 (0)), (.int .i64 (0)), (.int .i64 (0)), (.int .i64 (0)), (.int .i64 (0)), (.int .i64 (0)), (.int .i64 (0)), (.int .i64 (0)), (.int .i64 (0)), (.int .i64 (0)), (.int .i64 (0)), (.int .i64 (0)), (.int .i64 (0)), (.int .i64 (0)), (.int .i64 (0)), (.int .i64 (0)), (.int .i64 (0)), (.int .i64 (0)), (.int .i64 (0)), (.int .i64 (0)), (.int .i64 (0)), (.int .i64 (0)), (.int .i64 (0)), (.int .i64 (0)), (.int .i64 (0)), (.int .i64 (0)), (.int .i64 (0)), (.int .i64 (0)), (.int .i64 (0)), (.int .i64 (0)), (.int .i64 (0)), (.int .i64 (0)), (.int .i64 (0)), (.int .i64 (0)), (.int .i64 (0)), (.int .i64 (0)), (.int .i64 (0)), (.int .i64 (0)), (.int .i64 (0)), (.int .i64 (0)), (.int .i64 (0)), (.int .i64 (0)), (.int .i64 (0)), (.int .i64 (0)), (.int .i64 (0)), (.int .i64 (0)), (.int .i64 (0)), (.int .i64 (0)), (.int .i64 (0)), (.int .i64 (0)), (.int .i64 (0)), (.int .i64 (0)), (.int .i64 (0)), (.int .i64 (0)), (.int .i64 (0)), (.int .i64 (0)), (.int .i64 (0)), (.int .i64 (0)), (.int .i64 (0)), (.int .i64 (0)), (.int .i64 (0)), (.int .i64 (0)), (.int .i64 (0)), (.int .i64 (0)), (.int .i64 (0)), (.int .i64 (0)), (.int .i64 (0)), (.int .i64 (0)), (.int .i64 (0)), (.int .i64 (0)), (.int .i64 (0)), (.int .i64 (0)), (.int .i64 (0)), (.int .i64 (0)), (.int .i64 (0)), (.int .i64 (0)), (.int .i64 (0)), (.int .i64 (0)), (.int .i64 (0)), (.int .i64 (0)), (.int .i64 (0)), (.int .i64 (0)), (.int .i64 (0)), (.int .i64 (0)), (.int .i64 (0)), (.int .i64 (0)), (.int .i64 (0)), (.int .i64 (0)), (.int .i64 (0)), (.int .i64 (0)), (.int .i64 (0)), (.int .i64 (0)), (.int .i64 (0)), (.int .i64 (0)), (.int .i64 (0)), (.int .i64 (0)), (.int .i64 (0)), (.int .i64 (0)), (.int .i64 (0)), (.int .i64 (0)), (.int .i64 (0)), (.int .i64 (0)), (.int .i64 (0)), (.int .i64 (0)), (.int .i64 (0)), (.int .i64 (0)), (.int .i64 (0)), (.int .i64 (0)), (.int .i64 (0)), (.int .i64 (0)), (.int .i64 (0)), (.int .i64 (0)), (.int .i64 (0)), (.int .i64 (0)), (.int .i64 (0)), (.int .i64 (0)), (.int .i64 (0)), (.int .i64 (0)), (.int .i64 (0)), (.int .i64 (0)), (.int .i64 (0)), (.int .i64 (0)), (.int .i64 (0)), (.int .i64 (0)), (.int .i64 (0)), (.int .i64 (0)), (.int .i64 (0)), (.int .i64 (0)), (.int .i64 (0)), (.int .i64 (0)), (.int .i64 (0)), (.int .i64 (0)), (.int .i64 (0)), (.int .i64 (0)), (.int .i64 (0)), (.int .i64 (0)), (.int .i64 (0)), (.int .i64 (0)), (.int .i64 (0)), (.int .i64 (0)), (.int .i64 (0)), (.int .i64 (0)), (.int .i64 (0)), (.int .i64 (0)), (.int .i64 (0)), (.int .i64 (0)), (.int .i64 (0)), (.int .i64 (0)), (.int .i64 (0)), (.int .i64 (0)), (.int .i64 (0)), (.int .i64 (0)), (.int .i64 (0)), (.int .i64 (0)), (.int .i64 (0)), (.int .i64 (0)), (.int .i64 (0)), (.int .i64 (0)), (.int .i64 (0)), (.int .i64 (0)), (.int .i64 (0)), (.int .i64 (0)), (.int .i64 (0)), (.int .i64 (0)), (.int .i64 (0)), (.int .i64 (0)), (.int .i64 (0)), (.int .i64 (0)), (.int .i64 (0)), (.int .i64 (0)), (.int .i64 (0)), (.int .i64 (0)), (.int .i64 (0)), (.int .i64 (0)), (.int .i64 (0)), (.int .i64 (0)), (.int .i64 (0)), (.int .i64 (0)), (.int .i64 (0)), (.int .i64 (0)), (.int .i64 (0)), (.int .i64 (0)), (.int .i64 (0)), (.int .i64 (0)), (.int .i64 (0)), (.int .i64 (0)), (.int .i64 (0)), (.int .i64 (0)), (.int .i64 (0)), (.int .i64 (0)), (.int .i64 (0)), (.int .i64 (0)), (.int .i64 (0)), (.int .i64 (0)), (.int .i64 (0)), (.int .i64 (0)), (.int .i64 (0)), (.int .i64 (0)), (.int .i64 (0)), (.int .i64 (0)), (.int .i64 (0)), (.int .i64 (0)), (.int .i64 (0)), (.int .i64 (0)), (.int .i64 (0)), (.int .i64 (0)), (.int .i64 (0)), (.int .i64 (0)), (.int .i64 (0)), (.int .i64 (0)), (.int .i64 (0)), (.int .i64 (0)), (.int .i64 (0)), (.int .i64 (0)), (.int .i64 (0)), (.int .i64 (0)), (.int .i64 (0)), (.int .i64 (0)), (.int .i64 (0)), (.int .i64 (0)), (.int .i64 (0)), (.int .i64 (0)), (.int .i64 (0)), (.int .i64 (0)), (.int .i64 (0)), (.int .i64 (0)), (.int .i64 (0)), (.int .i64 (0)), (.int .i64 (0)), (.int .i64 (0)), (.int .i64 (0)), (.int .i64 (0)), (.int .i64 (0)), (.int .i64 (0)), (.int .i64 (0)), (.int .i64 (0)), (.int .i64 (0)), (.int .i64 (0)), (.int .i64 (0)), (.int .i64 (0)), (.int .i64 (0)), (.int .i64 (0)), (.int .i64 (0)), (.int .i64 (0)), (.int .i64 (0)), (.int .i64 (0)), (.int .i64 (0)), (.int .i64 (0)), (.int .i64 (0)), (.int .i64 (0)), (.int .i64 (0)), (.int .i64 (0)), (.int .i64 (0)), (.int .i64 (0)), (.int .i64 (0)), (.int .i64 (0)), (.int .i64 (0)), (.int .i64 (0)), (.int .i64 (0)), (.int .i64 (0)), (.int .i64 (0)), (.int .i64 (0)), (.int .i64 (0)), (.int .i64 (0)), (.int .i64 (0)), (.int .i64 (0)), (.int .i64 (0)), (.int .i64 (0)), (.int .i64 (0)), (.int .i64 (0)), (.int .i64 (0)), (.int .i64 (0)), (.int .i64 (0)), (.int .i64 (0)), (.int .i64 (0)), (.int .i64 (0)), (.int .i64 (0)), (.int .i64 (0)), (.int .i64 (0)), (.int .i64 (0)), (.int .i64 (0)), (.int .i64 (0)), (.int .i64 (0)), (.int .i64 (0)), (.int .i64 (0)), (.int .i64 (0)), (.int .i64 (0)), (.int .i64 (0)), (.int .i64 (0)), (.slice none 0 0)] [(0, 3, (t_ 20)), (3, 1, (t_ 21))]),
  o_ 23 (.box (t_ 22)),
  o_ 6 (.mov (t_ 23))]
def c88_4 : List SOper := [o_ 24 (.mov (k_ 0))]
def c88_5 : List SOper := [o_ 25 (.bin .lss (t_ 24) (k_ 4))]
def c88_6 : List SOper := [o_ 26 (.mov (t_ 24)),
  o_ 7 (.mov (t_ 26))]
def c88_7 : List SOper := [⟨(some 27), .mov (t_ 6), none, [6], 0, [], 0, 0, []⟩,
  ⟨(some 28), .mov (t_ 7), none, [7], 1, [], 0, 0, []⟩,
  ⟨(some 29), .mov (t_ 6), none, [6], 2, [], 0, 0, []⟩,
  ⟨(some 30), .nilchk (t_ 29), none, [29], 3, [2], 0, 0, []⟩,
  ⟨(some 31), .fld 0 (t_ 30), none, [30], 4, [3], 0, 0, []⟩,
  ⟨(some 32), .loadN 3 (t_ 31), none, [31], 5, [4], 0, 0, []⟩,
  ⟨(some 33), .mov (t_ 7), none, [7], 6, [], 0, 0, []⟩,
  ⟨(some 35), .nilchk (t_ 27), none, [27], 8, [0], 0, 0, []⟩,
  ⟨(some 36), .fld 4 (t_ 35), none, [35], 9, [8], 0, 0, []⟩,
  ⟨(some 34), .call 60 [(t_ 32), (t_ 33)], none, [32, 33], 7, [5, 6], 0, 0, []⟩,
  ⟨(some 37), .idxA 4 5 (t_ 36) (t_ 28), none, [36, 28], 10, [9, 1, 0, 1, 2, 3, 4, 5, 6, 7], 0, 0, []⟩]
def c88_7b : List SOper := [⟨none, .storeN 5 (t_ 37) (t_ 34), none, [37, 34], 11, [10, 7, 7, 0, 1, 2, 3, 4, 5, 6, 7], 0, 0, [5]⟩]
def c88_8 : List SOper := [⟨(some 38), .mov (t_ 6), none, [6], 0, [], 0, 0, []⟩,
  ⟨(some 39), .mov (t_ 7), none, [7], 1, [], 0, 0, []⟩,
  ⟨(some 40), .mov (t_ 1), none, [1], 2, [], 0, 0, []⟩,
  ⟨(some 42), .nilchk (t_ 38), none, [38], 4, [0], 0, 0, []⟩,
  ⟨(some 43), .fld 32 (t_ 42), none, [42], 5, [4], 0, 0, []⟩,
  ⟨(some 41), .call 4 [(t_ 40)], none, [40], 3, [2], 0, 0, []⟩,
  ⟨(some 44), .idxA 4 74 (t_ 43) (t_ 39), none, [43, 39], 6, [5, 1, 0, 1, 2, 3], 0, 0, []⟩]
def c88_8b : List SOper := [⟨none, .storeN 74 (t_ 44) (t_ 41), none, [44, 41], 7, [6, 3, 3, 0, 1, 2, 3], 0, 0, []⟩]
def c88_9 : List SOper := [o_ 45 (.mov (t_ 6)),
  o_ 46 (.mov (t_ 7)),
  o_ 47 (.nilchk (t_ 45)),
  o_ 48 (.fld 28 (t_ 47)),
  o_ 49 (.idxA 4 1 (t_ 48) (t_ 46)),
  n_ (.store1 (t_ 49) (k_ (-1)))]
def c88_10 : List SOper := [o_ 50 (.bin .add (t_ 24) (k_ 1)),
  o_ 24 (.mov (t_ 50))]
def c88_11 : SCode := (.seq (.reg [1, 2, 6, 24, 25] c88_5) (.seq (.cond (t_ 25) .skip (.exit 0)) (.seq (.block 1 (.seq (.reg [1, 2, 6, 7, 24] c88_6) (.seq (.dreg [1, 2, 6, 7, 24] c88_7 c88_7b) (.seq (.dreg [1, 2, 6, 7, 24] c88_8 c88_8b) (.reg [1, 2, 6, 24] c88_9))))) (.reg [1, 2, 6, 24] c88_10))))
def c88_12 : List SOper := [⟨(some 51), .mov (t_ 6), none, [6], 0, [], 0, 0, []⟩,
  ⟨(some 52), .nilchk (t_ 51), none, [51], 1, [0], 0, 0, []⟩,
  ⟨(some 53), .fld 24 (t_ 52), none, [52], 2, [1], 0, 0, []⟩,
  ⟨(some 54), .slarr 4 1 (t_ 53) none none none, none, [53], 3, [2], 0, 0, []⟩,
  ⟨(some 55), .fld 1 (t_ 2), none, [2], 4, [], 0, 0, []⟩,
  ⟨(some 56), .load1 (t_ 55), none, [55], 5, [4], 0, 0, []⟩,
  ⟨(some 57), .copy 1 (t_ 54) (t_ 56), none, [54, 56], 6, [3, 5], 0, 0, []⟩]
def c88_12b : List SOper := []
def c88_13 : List SOper := [o_ 58 (.mov (t_ 6)),
  o_ 4 (.mov (t_ 58)),
  o_ 5 (.mov (k_ 0))]
def c88_body : SCode := (.seq (.reg [1, 2] c88_0) (.seq (.seq (.reg [1, 2, 18] c88_1) (.cond (t_ 18) (.seq (.reg [4, 5] c88_2) .ret) .skip)) (.seq (.reg [1, 2, 6] c88_3) (.seq (.seq (.reg [1, 2, 6, 24] c88_4) (.block 0 (.loop [1, 2, 6, 24] c88_11))) (.seq (.dreg [6] c88_12 c88_12b) (.seq (.reg [4, 5] c88_13) .ret))))))
def c88 : SFunc := ⟨2, 59, c88_body, [.tmp 4, .tmp 5]⟩

/- (*jacquard/vm.VM).Pick -/
def c161_0 : List SOper := [o_ 4 (.alloc (zi 7)),
  o_ 5 (.mov (.const (.bool false)))]
def c161_1 : List SOper := [o_ 7 (.mov (t_ 0)),
  o_ 8 (.call 159 [(t_ 7)]),
  o_ 9 (.mov (t_ 1)),
  o_ 10 (.call 58 [(t_ 8), (t_ 9)]),
  o_ 11 (.un .not (t_ 10))]
def c161_2 : List SOper := [o_ 12 (.build (zi 7) []),
  n_ (.storeN 7 (t_ 4) (t_ 12)),
  o_ 5 (.mov (.const (.bool false)))]
def c161_3 : List SOper := [o_ 6 (.alloc (zi 7))]
def c161_4 : List SOper := [o_ 22 (.mov (t_ 1)),
  o_ 23 (.bin .lss (t_ 22) (k_ 4)),
  o_ 21 (.mov (t_ 23))]
def c161_5 : List SOper := [o_ 24 (.mov (t_ 0)),
  o_ 25 (.mov (t_ 1)),
  o_ 26 (.call 211 [(t_ 24), (t_ 25)]),
  n_ (.storeN 7 (t_ 6) (t_ 26))]
def c161_6 : List SOper := [o_ 28 (.mov (t_ 1)),
  o_ 29 (.bin .lss (t_ 28) (k_ 8)),
  o_ 27 (.mov (t_ 29))]
def c161_7 : List SOper := [o_ 30 (.mov (t_ 0)),
  o_ 31 (.mov (t_ 1)),
  o_ 32 (.bin .sub (t_ 31) (k_ 4)),
  o_ 33 (.call 212 [(t_ 30), (t_ 32), (k_ 0)]),
  n_ (.storeN 7 (t_ 6) (t_ 33))]
def c161_8 : List SOper := [o_ 13 (.mov (t_ 0)),
  o_ 14 (.mov (t_ 1)),
  o_ 15 (.bin .sub (t_ 14) (k_ 8)),
  o_ 16 (.bin .quo (t_ 15) (k_ 4)),
  o_ 17 (.mov (t_ 1)),
  o_ 18 (.bin .sub (t_ 17) (k_ 8)),
  o_ 19 (.bin .rem (t_ 18) (k_ 4)),
  o_ 20 (.call 212 [(t_ 13), (t_ 16), (t_ 19)]),
  n_ (.storeN 7 (t_ 6) (t_ 20))]
def c161_9 : List SOper := [o_ 34 (.mov (t_ 1)),
  o_ 35 (.fld 0 (t_ 6)),
  n_ (.store1 (t_ 35) (t_ 34))]
def c161_10 : List SOper := [⟨(some 36), .mov (t_ 0), none, [0], 0, [], 0, 0, []⟩,
  ⟨(some 37), .mov (t_ 0), none, [0], 1, [], 0, 0, []⟩,
  ⟨(some 38), .nilchk (t_ 37), none, [37], 2, [1], 0, 0, []⟩,
  ⟨(some 39), .fld 328 (t_ 38), none, [38], 3, [2], 0, 0, []⟩,
  ⟨(some 40), .load1 (t_ 39), none, [39], 4, [3], 0, 0, []⟩,
  ⟨(some 41), .loadN 7 (t_ 6), none, [6], 5, [], 0, 0, []⟩,
  ⟨(some 42), .mkslice 1 (zi 7) [(0, 7, (t_ 41))], none, [41], 6, [5], 0, 0, []⟩,
  ⟨(some 43), .append 7 56 (t_ 40) (t_ 42), none, [40, 42], 7, [4, 6], 0, 0, [6]⟩,
  ⟨(some 44), .nilchk (t_ 36), none, [36], 8, [0, 0, 1, 2, 3, 4, 5, 6, 7], 0, 0, []⟩,
  ⟨(some 45), .fld 328 (t_ 44), none, [44], 9, [8, 0, 1, 2, 3, 4, 5, 6, 7], 0, 0, []⟩]
def c161_10b : List SOper := [⟨none, .store1 (t_ 45) (t_ 43), none, [45, 43], 10, [9, 7, 7, 0, 1, 2, 3, 4, 5, 6, 7], 0, 0, [4, 5, 6]⟩]
def c161_11 : List SOper := [o_ 46 (.loadN 7 (t_ 6)),
  n_ (.storeN 7 (t_ 4) (t_ 46)),
  o_ 5 (.mov (.const (.bool true)))]
def c161_body : SCode := (.seq (.reg [0, 1, 4] c161_0) (.seq (.seq (.reg [0, 1, 4, 11] c161_1) (.cond (t_ 11) (.seq (.reg [4, 5] c161_2) .ret) .skip)) (.seq (.reg [0, 1, 4, 6] c161_3) (.seq (.block 0 (.seq (.reg [0, 1, 4, 6, 21] c161_4) (.cond (t_ 21) (.reg [0, 1, 4, 6] c161_5) (.seq (.reg [0, 1, 4, 6, 27] c161_6) (.cond (t_ 27) (.reg [0, 1, 4, 6] c161_7) (.reg [0, 1, 4, 6] c161_8)))))) (.seq (.reg [0, 4, 6] c161_9) (.seq (.dreg [4, 6] c161_10 c161_10b) (.seq (.reg [4, 5] c161_11) .ret)))))))
def c161 : SFunc := ⟨2, 47, c161_body, [.cellN 4 7, .tmp 5]⟩

/- slices.Clone[[]jacquard/api.Step,jacquard/api.Step] -/
def c92_0 : List SOper := [o_ 2 (.mov (.const (.slice none 0 0)))]
def c92_1 : List SOper := [o_ 3 (.mov (t_ 0)),
  o_ 4 (.isnil 1 false (t_ 3))]
def c92_2 : List SOper := [o_ 2 (.mov (.const (.slice none 0 0)))]
def c92_3 : List SOper := [o_ 5 (.mkslice 0 [] []),
  o_ 6 (.mov (t_ 0)),
  o_ 7 (.append 7 56 (t_ 5) (t_ 6)),
  o_ 2 (.mov (t_ 7))]
def c92_body : SCode := (.seq (.reg [0] c92_0) (.seq (.seq (.reg [0, 4] c92_1) (.cond (t_ 4) (.seq (.reg [2] c92_2) .ret) .skip)) (.seq (.reg [2] c92_3) .ret)))
def c92 : SFunc := ⟨1, 8, c92_body, [.tmp 2]⟩

/- (*jacquard/vm.VM).Enabled -/
def c159_0 : List SOper := [o_ 2 (.mov (.const (.int .u64 (0))))]
def c159_1 : List SOper := [o_ 3 (.mov (.const (.int .u64 (0))))]
def c159_2 : List SOper := [o_ 13 (.mov (k_ 0))]
def c159_3 : List SOper := [o_ 14 (.bin .lss (t_ 13) (k_ 4))]
def c159_4 : List SOper := [o_ 15 (.mov (t_ 13)),
  o_ 4 (.mov (t_ 15))]
def c159_5 : List SOper := [⟨(some 17), .mov (t_ 0), none, [0], 0, [], 0, 0, []⟩,
  ⟨(some 18), .nilchk (t_ 17), none, [17], 1, [0], 0, 0, []⟩,
  ⟨(some 19), .fld 0 (t_ 18), none, [18], 2, [1], 0, 0, []⟩,
  ⟨(some 20), .loadN 3 (t_ 19), none, [19], 3, [2], 0, 0, []⟩,
  ⟨(some 21), .mov (t_ 4), none, [4], 4, [], 0, 0, []⟩,
  ⟨(some 22), .mov (t_ 0), none, [0], 5, [], 0, 0, []⟩,
  ⟨(some 23), .mov (t_ 4), none, [4], 6, [], 0, 0, []⟩,
  ⟨(some 24), .nilchk (t_ 22), none, [22], 7, [5], 0, 0, []⟩,
  ⟨(some 25), .fld 4 (t_ 24), none, [24], 8, [7], 0, 0, []⟩,
  ⟨(some 26), .idxA 4 5 (t_ 25) (t_ 23), none, [25, 23], 9, [8, 6], 0, 0, []⟩,
  ⟨(some 27), .loadN 5 (t_ 26), none, [26], 10, [9], 0, 0, []⟩,
  ⟨(some 5), .alloc (zi 9), none, [], 15, [], 0, 0, []⟩,
  ⟨(some 28), .call 113 [(t_ 20), (t_ 21), (t_ 27)], none, [20, 21, 27], 11, [3, 4, 10], 0, 0, []⟩,
  ⟨(some 16), .mov (t_ 28), none, [28], 12, [11], 0, 0, []⟩,
  ⟨(some 29), .extr (t_ 16) 0, none, [16], 13, [12], 0, 0, []⟩,
  ⟨(some 30), .extr (t_ 16) 1, none, [16], 14, [12], 0, 0, []⟩,
  ⟨(some 6), .mov (t_ 30), none, [30], 17, [14, 16, 0, 1, 2, 3, 4, 5, 6, 7, 8, 9, 10, 11, 12, 13, 14, 15, 16], 0, 0, []⟩]
def c159_5b : List SOper := [⟨none, .storeN 9 (t_ 5) (t_ 29), none, [5, 29], 16, [15, 13, 11, 0, 1, 2, 3, 4, 5, 6, 7, 8, 9, 10, 11, 12, 13, 15], 0, 0, [3, 10, 15]⟩]
def c159_6 : List SOper := [o_ 31 (.fld 0 (t_ 5)),
  o_ 32 (.load1 (t_ 31)),
  o_ 33 (.bin .eql (t_ 32) (k_ 3)),
  o_ 34 (.mov (t_ 33)),
  g_ 35 34 false (.fld 0 (t_ 5)),
  g_ 36 34 false (.load1 (t_ 35)),
  g_ 37 34 false (.bin .eql (t_ 36) (k_ 4)),
  o_ 38 (.pick (t_ 34) (.const (.bool true)) (t_ 37)),
  o_ 7 (.mov (t_ 38))]
def c159_7 : List SOper := [o_ 39 (.mov (t_ 6)),
  o_ 40 (.mov (t_ 39)),
  g_ 41 40 true (.mov (t_ 7)),
  g_ 42 40 true (.un .not (t_ 41)),
  g_ 43 40 true (.mov (t_ 42)),
  g_ 44 43 false (.mov (t_ 0)),
  g_ 45 43 false (.mov (t_ 4)),
  g_ 46 43 false (.nilchk (t_ 44)),
  g_ 47 43 false (.fld 32 (t_ 46)),
  g_ 48 43 false (.idxA 4 74 (t_ 47) (t_ 45)),
  g_ 49 43 false (.loadN 74 (t_ 48)),
  g_ 50 43 false (.call 8 [(t_ 49)]),
  g_ 51 40 true (.pick (t_ 43) (.const (.bool true)) (t_ 50)),
  o_ 52 (.pick (t_ 40) (t_ 51) (.const (.bool false)))]
def c159_8 : List SOper := [o_ 53 (.mov (t_ 3)),
  o_ 54 (.mov (t_ 4)),
  o_ 55 (.call 102 [(t_ 53), (t_ 54)]),
  o_ 3 (.mov (t_ 55))]
def c159_9 : List SOper := [o_ 56 (.mov (t_ 0)),
  o_ 57 (.nilchk (t_ 56)),
  o_ 58 (.fld 3 (t_ 57)),
  o_ 59 (.load1 (t_ 58)),
  o_ 60 (.bin .eql (t_ 59) (k_ 2)),
  o_ 61 (.mov (t_ 60)),
  g_ 62 61 true (.mov (t_ 0)),
  g_ 63 61 true (.mov (t_ 4)),
  g_ 64 61 true (.nilchk (t_ 62)),
  g_ 65 61 true (.fld 32 (t_ 64)),
  g_ 66 61 true (.idxA 4 74 (t_ 65) (t_ 63)),
  g_ 67 61 true (.loadN 74 (t_ 66)),
  g_ 68 61 true (.call 8 [(t_ 67)]),
  g_ 69 61 true (.un .not (t_ 68)),
  o_ 70 (.pick (t_ 61) (t_ 69) (.const (.bool false)))]
def c159_10 : List SOper := [o_ 71 (.mov (t_ 3)),
  o_ 72 (.mov (t_ 4)),
  o_ 73 (.bin .add (k_ 4) (t_ 72)),
  o_ 74 (.call 102 [(t_ 71), (t_ 73)]),
  o_ 3 (.mov (t_ 74))]
def c159_11 : List SOper := [o_ 75 (.mov (k_ 0))]
def c159_12 : List SOper := [o_ 76 (.bin .lss (t_ 75) (k_ 4))]
def c159_13 : List SOper := [o_ 77 (.mov (t_ 75)),
  o_ 8 (.mov (t_ 77))]
def c159_14 : List SOper := [o_ 79 (.mov (t_ 0)),
  o_ 80 (.mov (t_ 4)),
  o_ 81 (.nilchk (t_ 79)),
  o_ 82 (.fld 32 (t_ 81)),
  o_ 83 (.idxA 4 74 (t_ 82) (t_ 80)),
  o_ 84 (.loadN 74 (t_ 83)),
  o_ 85 (.mov (t_ 8)),
  o_ 86 (.call 11 [(t_ 84), (t_ 85)]),
  o_ 78 (.mov (t_ 86)),
  o_ 87 (.extr (t_ 78) 0),
  o_ 88 (.extr (t_ 78) 1),
  o_ 89 (.extr (t_ 78) 2),
  o_ 90 (.extr (t_ 78) 3),
  o_ 9 (.mov (t_ 87)),
  o_ 10 (.mov (t_ 88)),
  o_ 11 (.mov (t_ 89)),
  o_ 12 (.mov (t_ 90))]
def c159_15 : List SOper := [o_ 91 (.mov (t_ 0)),
  o_ 92 (.nilchk (t_ 91)),
  o_ 93 (.fld 3 (t_ 92)),
  o_ 94 (.load1 (t_ 93)),
  o_ 95 (.bin .eql (t_ 94) (k_ 3)),
  o_ 96 (.mov (t_ 95)),
  g_ 97 96 true (.mov (t_ 12)),
  o_ 98 (.pick (t_ 96) (t_ 97) (.const (.bool false)))]
def c159_16 : List SOper := [o_ 99 (.mov (t_ 3)),
  o_ 100 (.mov (t_ 4)),
  o_ 101 (.bin .mul (k_ 4) (t_ 100)),
  o_ 102 (.bin .add (k_ 8) (t_ 101)),
  o_ 103 (.mov (t_ 8)),
  o_ 104 (.bin .add (t_ 102) (t_ 103)),
  o_ 105 (.call 102 [(t_ 99), (t_ 104)]),
  o_ 3 (.mov (t_ 105))]
def c159_17 : List SOper := [o_ 106 (.bin .add (t_ 75) (k_ 1)),
  o_ 75 (.mov (t_ 106))]
def c159_18 : SCode := (.seq (.reg [0, 3, 4, 13, 75, 76] c159_12) (.seq (.cond (t_ 76) .skip (.exit 2)) (.seq (.block 3 (.seq (.reg [0, 3, 4, 8, 13, 75] c159_13) (.seq (.reg [0, 3, 4, 8, 12, 13, 75] c159_14) (.seq (.reg [0, 3, 4, 8, 13, 75, 98] c159_15) (.cond (t_ 98) (.reg [0, 3, 4, 13, 75] c159_16) .skip))))) (.reg [0, 3, 4, 13, 75] c159_17))))
def c159_19 : List SOper := [o_ 107 (.bin .add (t_ 13) (k_ 1)),
  o_ 13 (.mov (t_ 107))]
def c159_20 : SCode := (.seq (.reg [0, 3, 13, 14] c159_3) (.seq (.cond (t_ 14) .skip (.exit 0)) (.seq (.block 1 (.seq (.reg [0, 3, 4, 13] c159_4) (.seq (.dreg [0, 3, 4, 5, 6, 13] c159_5 c159_5b) (.seq (.reg [0, 3, 4, 6, 7, 13] c159_6) (.seq (.seq (.reg [0, 3, 4, 13, 52] c159_7) (.cond (t_ 52) (.reg [0, 3, 4, 13] c159_8) .skip)) (.seq (.seq (.reg [0, 3, 4, 13, 70] c159_9) (.cond (t_ 70) (.reg [0, 3, 4, 13] c159_10) .skip)) (.seq (.reg [0, 3, 4, 13, 75] c159_11) (.block 2 (.loop [0, 3, 4, 13, 75] c159_18))))))))) (.reg [0, 3, 13] c159_19))))
def c159_21 : List SOper := [o_ 108 (.mov (t_ 3)),
  o_ 2 (.mov (t_ 108))]
def c159_body : SCode := (.seq (.reg [0] c159_0) (.seq (.reg [0, 3] c159_1) (.seq (.seq (.reg [0, 3, 13] c159_2) (.block 0 (.loop [0, 3, 13] c159_20))) (.seq (.reg [2] c159_21) .ret))))
def c159 : SFunc := ⟨1, 109, c159_body, [.tmp 2]⟩

/- math/bits.Mul -/
def c223_0 : List SOper := [o_ 4 (.mov (.const (.int .u64 (0)))),
  o_ 5 (.mov (.const (.int .u64 (0))))]
def c223_1 : List SOper := [o_ 11 (.mov (t_ 0)),
  o_ 12 (.conv .u32 (t_ 11)),
  o_ 13 (.mov (t_ 1)),
  o_ 14 (.conv .u32 (t_ 13)),
  o_ 15 (.call 249 [(t_ 12), (t_ 14)]),
  o_ 10 (.mov (t_ 15)),
  o_ 16 (.extr (t_ 10) 0),
  o_ 17 (.extr (t_ 10) 1),
  o_ 6 (.mov (t_ 16)),
  o_ 7 (.mov (t_ 17))]
def c223_2 : List SOper := [o_ 18 (.mov (t_ 6)),
  o_ 19 (.conv .u64 (t_ 18)),
  o_ 20 (.mov (t_ 7)),
  o_ 21 (.conv .u64 (t_ 20)),
  o_ 4 (.mov (t_ 19)),
  o_ 5 (.mov (t_ 21))]
def c223_3 : List SOper := [o_ 23 (.mov (t_ 0)),
  o_ 24 (.mov (t_ 1)),
  o_ 25 (.call 250 [(t_ 23), (t_ 24)]),
  o_ 22 (.mov (t_ 25)),
  o_ 26 (.extr (t_ 22) 0),
  o_ 27 (.extr (t_ 22) 1),
  o_ 8 (.mov (t_ 26)),
  o_ 9 (.mov (t_ 27))]
def c223_4 : List SOper := [o_ 28 (.mov (t_ 8)),
  o_ 29 (.mov (t_ 9)),
  o_ 4 (.mov (t_ 28)),
  o_ 5 (.mov (t_ 29))]
def c223_body : SCode := (.seq (.reg [0, 1] c223_0) (.seq (.cond (.const (.bool false)) (.seq (.reg [6, 7] c223_1) (.seq (.reg [4, 5] c223_2) .ret)) .skip) (.seq (.reg [8, 9] c223_3) (.seq (.reg [4, 5] c223_4) .ret))))
def c223 : SFunc := ⟨2, 30, c223_body, [.tmp 4, .tmp 5]⟩

/- slices.CompareFunc[[]jacquard/api.Ev,[]jacquard/api.Ev,jacquard/api.Ev,jacquard/api.Ev] -/
def c143_0 : List SOper := [o_ 6 (.mov (k_ 0))]
def c143_1 : List SOper := [o_ 11 (.mov (t_ 0)),
  o_ 12 (.lenS (t_ 11)),
  o_ 13 (.mov (k_ 0))]
def c143_2 : List SOper := [o_ 14 (.bin .lss (t_ 13) (t_ 12))]
def c143_3 : List SOper := [o_ 15 (.mov (t_ 13)),
  o_ 16 (.idxS 6 (t_ 11) (t_ 13)),
  o_ 17 (.loadN 6 (t_ 16)),
  o_ 8 (.alloc (zi 6)),
  o_ 7 (.mov (t_ 15)),
  n_ (.storeN 6 (t_ 8) (t_ 17))]
def c143_4 : List SOper := [o_ 18 (.mov (t_ 7)),
  o_ 19 (.mov (t_ 1)),
  o_ 20 (.lenS (t_ 19)),
  o_ 21 (.bin .geq (t_ 18) (t_ 20))]
def c143_5 : List SOper := [o_ 6 (.mov (k_ 1))]
def c143_6 : List SOper := [o_ 22 (.mov (t_ 1)),
  o_ 23 (.mov (t_ 7)),
  o_ 24 (.idxS 6 (t_ 22) (t_ 23)),
  o_ 25 (.loadN 6 (t_ 24)),
  o_ 9 (.alloc (zi 6)),
  n_ (.storeN 6 (t_ 9) (t_ 25))]
def c143_7 : List SOper := [o_ 26 (.mov (t_ 2)),
  o_ 27 (.loadN 6 (t_ 8)),
  o_ 28 (.loadN 6 (t_ 9)),
  o_ 29 (.callv (t_ 26) [(t_ 27), (t_ 28)]),
  o_ 10 (.mov (t_ 29))]
def c143_8 : List SOper := [o_ 30 (.mov (t_ 10)),
  o_ 31 (.bin .neq (t_ 30) (k_ 0))]
def c143_9 : List SOper := [o_ 32 (.mov (t_ 10)),
  o_ 6 (.mov (t_ 32))]
def c143_10 : List SOper := [o_ 33 (.bin .add (t_ 13) (k_ 1)),
  o_ 13 (.mov (t_ 33))]
def c143_11 : SCode := (.seq (.reg [0, 1, 2, 11, 12, 13, 14] c143_2) (.seq (.cond (t_ 14) .skip (.exit 0)) (.seq (.block 1 (.seq (.reg [0, 1, 2, 7, 8, 11, 12, 13] c143_3) (.seq (.seq (.reg [0, 1, 2, 7, 8, 11, 12, 13, 21] c143_4) (.cond (t_ 21) (.seq (.reg [6] c143_5) .ret) .skip)) (.seq (.reg [0, 1, 2, 8, 9, 11, 12, 13] c143_6) (.seq (.reg [0, 1, 2, 10, 11, 12, 13] c143_7) (.seq (.reg [0, 1, 2, 10, 11, 12, 13, 31] c143_8) (.cond (t_ 31) (.seq (.reg [6] c143_9) .ret) .skip))))))) (.reg [0, 1, 2, 11, 12, 13] c143_10))))
def c143_12 : List SOper := [o_ 34 (.mov (t_ 0)),
  o_ 35 (.lenS (t_ 34)),
  o_ 36 (.mov (t_ 1)),
  o_ 37 (.lenS (t_ 36)),
  o_ 38 (.bin .lss (t_ 35) (t_ 37))]
def c143_13 : List SOper := [o_ 6 (.mov (k_ (-1)))]
def c143_14 : List SOper := [o_ 6 (.mov (k_ 0))]
def c143_body : SCode := (.seq (.reg [0, 1, 2] c143_0) (.seq (.seq (.reg [0, 1, 2, 11, 12, 13] c143_1) (.block 0 (.loop [0, 1, 2, 11, 12, 13] c143_11))) (.seq (.seq (.reg [38] c143_12) (.cond (t_ 38) (.seq (.reg [6] c143_13) .ret) .skip)) (.seq (.reg [6] c143_14) .ret))))
def c143 : SFunc := ⟨3, 39, c143_body, [.tmp 6]⟩

/- jacquard/exec.compareEv -/
def c144_0 : List SOper := [o_ 2 (.box (t_ 0)),
  o_ 3 (.box (t_ 1)),
  o_ 4 (.mov (k_ 0))]
def c144_1 : List SOper := [⟨(some 5), .fld 0 (t_ 2), none, [2], 0, [], 0, 0, []⟩,
  ⟨(some 6), .load1 (t_ 5), none, [5], 1, [0], 0, 0, []⟩,
  ⟨(some 7), .fld 0 (t_ 3), none, [3], 2, [], 0, 0, []⟩,
  ⟨(some 8), .load1 (t_ 7), none, [7], 3, [2], 0, 0, []⟩,
  ⟨(some 10), .fld 1 (t_ 2), none, [2], 5, [], 0, 0, []⟩,
  ⟨(some 11), .load1 (t_ 10), none, [10], 6, [5], 0, 1, []⟩,
  ⟨(some 12), .fld 1 (t_ 3), none, [3], 7, [], 0, 0, []⟩,
  ⟨(some 13), .load1 (t_ 12), none, [12], 8, [7], 0, 1, []⟩,
  ⟨(some 15), .fld 2 (t_ 2), none, [2], 10, [], 0, 0, []⟩,
  ⟨(some 16), .load1 (t_ 15), none, [15], 11, [10], 0, 2, []⟩,
  ⟨(some 17), .fld 2 (t_ 3), none, [3], 12, [], 0, 0, []⟩,
  ⟨(some 18), .load1 (t_ 17), none, [17], 13, [12], 0, 2, []⟩,
  ⟨(some 20), .fld 3 (t_ 2), none, [2], 15, [], 0, 0, []⟩,
  ⟨(some 21), .load1 (t_ 20), none, [20], 16, [15], 0, 3, []⟩,
  ⟨(some 22), .fld 3 (t_ 3), none, [3], 17, [], 0, 0, []⟩,
  ⟨(some 23), .load1 (t_ 22), none, [22], 18, [17], 0, 3, []⟩,
  ⟨(some 25), .fld 4 (t_ 2), none, [2], 20, [], 0, 0, []⟩,
  ⟨(some 26), .load1 (t_ 25), none, [25], 21, [20], 0, 4, []⟩,
  ⟨(some 27), .fld 4 (t_ 3), none, [3], 22, [], 0, 0, []⟩,
  ⟨(some 28), .load1 (t_ 27), none, [27], 23, [22], 0, 4, []⟩,
  ⟨(some 30), .fld 5 (t_ 2), none, [2], 25, [], 0, 0, []⟩,
  ⟨(some 31), .load1 (t_ 30), none, [30], 26, [25], 0, 5, []⟩,
  ⟨(some 32), .fld 5 (t_ 3), none, [3], 27, [], 0, 0, []⟩,
  ⟨(some 33), .load1 (t_ 32), none, [32], 28, [27], 0, 5, []⟩,
  ⟨(some 9), .call 197 [(t_ 6), (t_ 8)], none, [6, 8], 4, [1, 3], 0, 0, []⟩,
  ⟨(some 14), .call 197 [(t_ 11), (t_ 13)], none, [11, 13], 9, [6, 8, 4], 0, 0, []⟩,
  ⟨(some 19), .call 197 [(t_ 16), (t_ 18)], none, [16, 18], 14, [11, 13, 9], 0, 0, []⟩,
  ⟨(some 24), .call 197 [(t_ 21), (t_ 23)], none, [21, 23], 19, [16, 18, 14], 0, 0, []⟩,
  ⟨(some 29), .call 198 [(t_ 26), (t_ 28)], none, [26, 28], 24, [21, 23, 19], 0, 0, []⟩,
  ⟨(some 34), .call 198 [(t_ 31), (t_ 33)], none, [31, 33], 29, [26, 28, 24], 0, 0, []⟩,
  ⟨(some 35), .mkslice 6 (zi 6) [(0, 1, (t_ 9)), (1, 1, (t_ 14)), (2, 1, (t_ 19)), (3, 1, (t_ 24)), (4, 1, (t_ 29)), (5, 1, (t_ 34))], none, [9, 14, 19, 24, 29, 34], 30, [4, 9, 14, 19, 24, 29], 0, 0, []⟩,
  ⟨(some 36), .call 142 [(t_ 35)], none, [35], 31, [30, 29], 0, 0, [30]⟩,
  ⟨(some 4), .mov (t_ 36), none, [36], 32, [31, 31, 0, 1, 2, 3, 4, 5, 6, 7, 8, 9, 10, 11, 12, 13, 14, 15, 16, 17, 18, 19, 20, 21, 22, 23, 24, 25, 26, 27, 28, 29, 30, 31], 0, 0, []⟩]
def c144_1b : List SOper := []
def c144_body : SCode := (.seq (.reg [2, 3] c144_0) (.seq (.dreg [4] c144_1 c144_1b) .ret))
def c144 : SFunc := ⟨2, 37, c144_body, [.tmp 4]⟩

/- slices.Compare[[]int,int] -/
def c145_0 : List SOper := [o_ 4 (.mov (k_ 0))]
def c145_1 : List SOper := [o_ 9 (.mov (t_ 0)),
  o_ 10 (.lenS (t_ 9)),
  o_ 11 (.mov (k_ 0))]
def c145_2 : List SOper := [o_ 12 (.bin .lss (t_ 11) (t_ 10))]
def c145_3 : List SOper := [o_ 13 (.mov (t_ 11)),
  o_ 14 (.idxS 1 (t_ 9) (t_ 11)),
  o_ 15 (.load1 (t_ 14)),
  o_ 5 (.mov (t_ 13)),
  o_ 6 (.mov (t_ 15))]
def c145_4 : List SOper := [o_ 16 (.mov (t_ 5)),
  o_ 17 (.mov (t_ 1)),
  o_ 18 (.lenS (t_ 17)),
  o_ 19 (.bin .geq (t_ 16) (t_ 18))]
def c145_5 : List SOper := [o_ 4 (.mov (k_ 1))]
def c145_6 : List SOper := [o_ 20 (.mov (t_ 1)),
  o_ 21 (.mov (t_ 5)),
  o_ 22 (.idxS 1 (t_ 20) (t_ 21)),
  o_ 23 (.load1 (t_ 22)),
  o_ 7 (.mov (t_ 23))]
def c145_7 : List SOper := [o_ 24 (.mov (t_ 6)),
  o_ 25 (.mov (t_ 7)),
  o_ 26 (.call 197 [(t_ 24), (t_ 25)]),
  o_ 8 (.mov (t_ 26))]
def c145_8 : List SOper := [o_ 27 (.mov (t_ 8)),
  o_ 28 (.bin .neq (t_ 27) (k_ 0))]
def c145_9 : List SOper := [o_ 29 (.mov (t_ 8)),
  o_ 4 (.mov (t_ 29))]
def c145_10 : List SOper := [o_ 30 (.bin .add (t_ 11) (k_ 1)),
  o_ 11 (.mov (t_ 30))]
def c145_11 : SCode := (.seq (.reg [0, 1, 9, 10, 11, 12] c145_2) (.seq (.cond (t_ 12) .skip (.exit 0)) (.seq (.block 1 (.seq (.reg [0, 1, 5, 6, 9, 10, 11] c145_3) (.seq (.seq (.reg [0, 1, 5, 6, 9, 10, 11, 19] c145_4) (.cond (t_ 19) (.seq (.reg [4] c145_5) .ret) .skip)) (.seq (.reg [0, 1, 6, 7, 9, 10, 11] c145_6) (.seq (.reg [0, 1, 8, 9, 10, 11] c145_7) (.seq (.reg [0, 1, 8, 9, 10, 11, 28] c145_8) (.cond (t_ 28) (.seq (.reg [4] c145_9) .ret) .skip))))))) (.reg [0, 1, 9, 10, 11] c145_10))))
def c145_12 : List SOper := [o_ 31 (.mov (t_ 0)),
  o_ 32 (.lenS (t_ 31)),
  o_ 33 (.mov (t_ 1)),
  o_ 34 (.lenS (t_ 33)),
  o_ 35 (.bin .lss (t_ 32) (t_ 34))]
def c145_13 : List SOper := [o_ 4 (.mov (k_ (-1)))]
def c145_14 : List SOper := [o_ 4 (.mov (k_ 0))]
def c145_body : SCode := (.seq (.reg [0, 1] c145_0) (.seq (.seq (.reg [0, 1, 9, 10, 11] c145_1) (.block 0 (.loop [0, 1, 9, 10, 11] c145_11))) (.seq (.seq (.reg [35] c145_12) (.cond (t_ 35) (.seq (.reg [4] c145_13) .ret) .skip)) (.seq (.reg [4] c145_14) .ret))))
def c145 : SFunc := ⟨2, 36, c145_body, [.tmp 4]⟩

/- slices.CompareFunc[[][]int,[][]int,[]int,[]int] -/
def c146_0 : List SOper := [o_ 6 (.mov (k_ 0))]
def c146_1 : List SOper := [o_ 11 (.mov (t_ 0)),
  o_ 12 (.lenS (t_ 11)),
  o_ 13 (.mov (k_ 0))]
def c146_2 : List SOper := [o_ 14 (.bin .lss (t_ 13) (t_ 12))]
def c146_3 : List SOper := [o_ 15 (.mov (t_ 13)),
  o_ 16 (.idxS 1 (t_ 11) (t_ 13)),
  o_ 17 (.load1 (t_ 16)),
  o_ 7 (.mov (t_ 15)),
  o_ 8 (.mov (t_ 17))]
def c146_4 : List SOper := [o_ 18 (.mov (t_ 7)),
  o_ 19 (.mov (t_ 1)),
  o_ 20 (.lenS (t_ 19)),
  o_ 21 (.bin .geq (t_ 18) (t_ 20))]
def c146_5 : List SOper := [o_ 6 (.mov (k_ 1))]
def c146_6 : List SOper := [o_ 22 (.mov (t_ 1)),
  o_ 23 (.mov (t_ 7)),
  o_ 24 (.idxS 1 (t_ 22) (t_ 23)),
  o_ 25 (.load1 (t_ 24)),
  o_ 9 (.mov (t_ 25))]
def c146_7 : List SOper := [o_ 26 (.mov (t_ 2)),
  o_ 27 (.mov (t_ 8)),
  o_ 28 (.mov (t_ 9)),
  o_ 29 (.callv (t_ 26) [(t_ 27), (t_ 28)]),
  o_ 10 (.mov (t_ 29))]
def c146_8 : List SOper := [o_ 30 (.mov (t_ 10)),
  o_ 31 (.bin .neq (t_ 30) (k_ 0))]
def c146_9 : List SOper := [o_ 32 (.mov (t_ 10)),
  o_ 6 (.mov (t_ 32))]
def c146_10 : List SOper := [o_ 33 (.bin .add (t_ 13) (k_ 1)),
  o_ 13 (.mov (t_ 33))]
def c146_11 : SCode := (.seq (.reg [0, 1, 2, 11, 12, 13, 14] c146_2) (.seq (.cond (t_ 14) .skip (.exit 0)) (.seq (.block 1 (.seq (.reg [0, 1, 2, 7, 8, 11, 12, 13] c146_3) (.seq (.seq (.reg [0, 1, 2, 7, 8, 11, 12, 13, 21] c146_4) (.cond (t_ 21) (.seq (.reg [6] c146_5) .ret) .skip)) (.seq (.reg [0, 1, 2, 8, 9, 11, 12, 13] c146_6) (.seq (.reg [0, 1, 2, 10, 11, 12, 13] c146_7) (.seq (.reg [0, 1, 2, 10, 11, 12, 13, 31] c146_8) (.cond (t_ 31) (.seq (.reg [6] c146_9) .ret) .skip))))))) (.reg [0, 1, 2, 11, 12, 13] c146_10))))
def c146_12 : List SOper := [o_ 34 (.mov (t_ 0)),
  o_ 35 (.lenS (t_ 34)),
  o_ 36 (.mov (t_ 1)),
  o_ 37 (.lenS (t_ 36)),
  o_ 38 (.bin .lss (t_ 35) (t_ 37))]
def c146_13 : List SOper := [o_ 6 (.mov (k_ (-1)))]
def c146_14 : List SOper := [o_ 6 (.mov (k_ 0))]
def c146_body : SCode := (.seq (.reg [0, 1, 2] c146_0) (.seq (.seq (.reg [0, 1, 2, 11, 12, 13] c146_1) (.block 0 (.loop [0, 1, 2, 11, 12, 13] c146_11))) (.seq (.seq (.reg [38] c146_12) (.cond (t_ 38) (.seq (.reg [6] c146_13) .ret) .skip)) (.seq (.reg [6] c146_14) .ret))))
def c146 : SFunc := ⟨3, 39, c146_body, [.tmp 6]⟩

/- cmp.Compare[int64] -/
def c198_0 : List SOper := [o_ 4 (.mov (k_ 0))]
def c198_1 : List SOper := [o_ 7 (.mov (t_ 0)),
  o_ 8 (.call 230 [(t_ 7)]),
  o_ 5 (.mov (t_ 8))]
def c198_2 : List SOper := [o_ 9 (.mov (t_ 1)),
  o_ 10 (.call 230 [(t_ 9)]),
  o_ 6 (.mov (t_ 10))]
def c198_3 : List SOper := [o_ 11 (.mov (t_ 5))]
def c198_4 : List SOper := [o_ 12 (.mov (t_ 6))]
def c198_5 : List SOper := [o_ 4 (.mov (k_ 0))]
def c198_6 : List SOper := [o_ 4 (.mov (k_ (-1)))]
def c198_7 : List SOper := [o_ 13 (.mov (t_ 6))]
def c198_8 : List SOper := [o_ 4 (.mov (k_ 1))]
def c198_9 : List SOper := [o_ 14 (.mov (t_ 0)),
  o_ 15 (.mov (t_ 1)),
  o_ 16 (.bin .lss (t_ 14) (t_ 15))]
def c198_10 : List SOper := [o_ 4 (.mov (k_ (-1)))]
def c198_11 : List SOper := [o_ 17 (.mov (t_ 0)),
  o_ 18 (.mov (t_ 1)),
  o_ 19 (.bin .gtr (t_ 17) (t_ 18))]
def c198_12 : List SOper := [o_ 4 (.mov (k_ 1))]
def c198_13 : List SOper := [o_ 4 (.mov (k_ 0))]
def c198_body : SCode := (.seq (.reg [0, 1] c198_0) (.seq (.reg [0, 1, 5] c198_1) (.seq (.reg [0, 1, 5, 6] c198_2) (.seq (.seq (.reg [0, 1, 6, 11] c198_3) (.cond (t_ 11) (.seq (.seq (.reg [12] c198_4) (.cond (t_ 12) (.seq (.reg [4] c198_5) .ret) .skip)) (.seq (.reg [4] c198_6) .ret)) .skip)) (.seq (.seq (.reg [0, 1, 13] c198_7) (.cond (t_ 13) (.seq (.reg [4] c198_8) .ret) .skip)) (.seq (.seq (.reg [0, 1, 16] c198_9) (.cond (t_ 16) (.seq (.reg [4] c198_10) .ret) .skip)) (.seq (.seq (.reg [19] c198_11) (.cond (t_ 19) (.seq (.reg [4] c198_12) .ret) .skip)) (.seq (.reg [4] c198_13) .ret))))))))
def c198 : SFunc := ⟨2, 20, c198_body, [.tmp 4]⟩

/- jacquard/prog.Ok -/
def c59_0 : List SOper := [o_ 1 (.box (t_ 0)),
  o_ 2 (.mov (.const (.bool false)))]
def c59_1 : List SOper := [o_ 8 (.fld 2 (t_ 1)),
  o_ 9 (.load1 (t_ 8)),
  o_ 10 (.lenS (t_ 9)),
  o_ 11 (.bin .eql (t_ 10) (k_ 0)),
  o_ 12 (.mov (t_ 11)),
  g_ 13 12 false (.fld 2 (t_ 1)),
  g_ 14 12 false (.load1 (t_ 13)),
  g_ 15 12 false (.lenS (t_ 14)),
  g_ 16 12 false (.bin .gtr (t_ 15) (k_ 4)),
  o_ 17 (.pick (t_ 12) (.const (.bool true)) (t_ 16)),
  o_ 18 (.mov (t_ 17)),
  g_ 19 18 false (.fld 0 (t_ 1)),
  g_ 20 18 false (.load1 (t_ 19)),
  g_ 21 18 false (.lenS (t_ 20)),
  g_ 22 18 false (.bin .gtr (t_ 21) (k_ 4)),
  o_ 23 (.pick (t_ 18) (.const (.bool true)) (t_ 22)),
  o_ 24 (.mov (t_ 23)),
  g_ 25 24 false (.fld 1 (t_ 1)),
  g_ 26 24 false (.load1 (t_ 25)),
  g_ 27 24 false (.lenS (t_ 26)),
  g_ 28 24 false (.fld 0 (t_ 1)),
  g_ 29 24 false (.load1 (t_ 28)),
  g_ 30 24 false (.lenS (t_ 29)),
  g_ 31 24 false (.bin .neq (t_ 27) (t_ 30)),
  o_ 32 (.pick (t_ 24) (.const (.bool true)) (t_ 31)),
  o_ 33 (.mov (t_ 32)),
  g_ 34 33 false (.loadN 3 (t_ 1)),
  g_ 35 33 false (.call 104 [(t_ 34)]),
  g_ 36 33 false (.bin .gtr (t_ 35) (k_ 24)),
  o_ 37 (.pick (t_ 33) (.const (.bool true)) (t_ 36))]
def c59_2 : List SOper := [o_ 2 (.mov (.const (.bool false)))]
def c59_3 : List SOper := [o_ 38 (.fld 0 (t_ 1)),
  o_ 39 (.load1 (t_ 38)),
  o_ 40 (.lenS (t_ 39)),
  o_ 41 (.mov (k_ 0))]
def c59_4 : List SOper := [o_ 42 (.bin .lss (t_ 41) (t_ 40))]
def c59_5 : List SOper := [o_ 43 (.mov (t_ 41)),
  o_ 44 (.idxS 1 (t_ 39) (t_ 41)),
  o_ 45 (.load1 (t_ 44)),
  o_ 3 (.mov (t_ 43)),
  o_ 4 (.mov (t_ 45))]
def c59_6 : List SOper := [o_ 46 (.mov (t_ 4)),
  o_ 47 (.conv .i64 (t_ 46)),
  o_ 48 (.call 105 [(t_ 47)]),
  o_ 49 (.un .not (t_ 48)),
  o_ 50 (.mov (t_ 49)),
  g_ 51 50 false (.mov (t_ 3)),
  g_ 52 50 false (.bin .gtr (t_ 51) (k_ 0)),
  g_ 53 50 false (.mov (t_ 52)),
  g_ 54 53 true (.mov (t_ 4)),
  g_ 55 53 true (.fld 0 (t_ 1)),
  g_ 56 53 true (.load1 (t_ 55)),
  g_ 57 53 true (.mov (t_ 3)),
  g_ 58 53 true (.bin .sub (t_ 57) (k_ 1)),
  g_ 59 53 true (.idxS 1 (t_ 56) (t_ 58)),
  g_ 60 53 true (.load1 (t_ 59)),
  g_ 61 53 true (.bin .leq (t_ 54) (t_ 60)),
  g_ 62 50 false (.pick (t_ 53) (t_ 61) (.const (.bool false))),
  o_ 63 (.pick (t_ 50) (.const (.bool true)) (t_ 62))]
def c59_7 : List SOper := [o_ 2 (.mov (.const (.bool false)))]
def c59_8 : List SOper := [o_ 64 (.bin .add (t_ 41) (k_ 1)),
  o_ 41 (.mov (t_ 64))]
def c59_9 : SCode := (.seq (.reg [1, 39, 40, 41, 42] c59_4) (.seq (.cond (t_ 42) .skip (.exit 0)) (.seq (.block 1 (.seq (.reg [1, 3, 4, 39, 40, 41] c59_5) (.seq (.reg [1, 39, 40, 41, 63] c59_6) (.cond (t_ 63) (.seq (.reg [2] c59_7) .ret) .skip)))) (.reg [1, 39, 40, 41] c59_8))))
def c59_10 : List SOper := [o_ 65 (.mkfunc 106 [] [(t_ 1)]),
  o_ 5 (.alloc [.nilFunc]),
  n_ (.store1 (t_ 5) (t_ 65))]
def c59_11 : List SOper := [o_ 66 (.fld 2 (t_ 1)),
  o_ 67 (.load1 (t_ 66)),
  o_ 68 (.lenS (t_ 67)),
  o_ 69 (.mov (k_ 0))]
def c59_12 : List SOper := [o_ 70 (.bin .lss (t_ 69) (t_ 68))]
def c59_13 : List SOper := [o_ 71 (.idxS 1 (t_ 67) (t_ 69)),
  o_ 72 (.load1 (t_ 71)),
  o_ 7 (.mov (t_ 72))]
def c59_14 : List SOper := [o_ 73 (.mov (t_ 7)),
  o_ 74 (.lenS (t_ 73)),
  o_ 75 (.bin .gtr (t_ 74) (k_ 10)),
  o_ 76 (.mov (t_ 75)),
  g_ 77 76 false (.mov (t_ 7)),
  g_ 78 76 false (.call 107 [(t_ 77)]),
  g_ 79 76 false (.un .not (t_ 78)),
  o_ 80 (.pick (t_ 76) (.const (.bool true)) (t_ 79)),
  o_ 81 (.mov (t_ 80)),
  g_ 82 81 false (.mov (t_ 7)),
  g_ 83 81 false (.mkfunc 109 [] [(t_ 5)]),
  g_ 84 81 false (.call 108 [(t_ 82), (t_ 83)]),
  o_ 85 (.pick (t_ 81) (.const (.bool true)) (t_ 84))]
def c59_15 : List SOper := [o_ 2 (.mov (.const (.bool false)))]
def c59_16 : List SOper := [o_ 86 (.bin .add (t_ 69) (k_ 1)),
  o_ 69 (.mov (t_ 86))]
def c59_17 : SCode := (.seq (.reg [5, 67, 68, 69, 70] c59_12) (.seq (.cond (t_ 70) .skip (.exit 2)) (.seq (.block 3 (.seq (.reg [5, 7, 67, 68, 69] c59_13) (.seq (.reg [5, 67, 68, 69, 85] c59_14) (.cond (t_ 85) (.seq (.reg [2] c59_15) .ret) .skip)))) (.reg [5, 67, 68, 69] c59_16))))
def c59_18 : List SOper := [o_ 2 (.mov (.const (.bool true)))]
def c59_body : SCode := (.seq (.reg [1] c59_0) (.seq (.seq (.reg [1, 37] c59_1) (.cond (t_ 37) (.seq (.reg [2] c59_2) .ret) .skip)) (.seq (.seq (.reg [1, 39, 40, 41] c59_3) (.block 0 (.loop [1, 39, 40, 41] c59_9))) (.seq (.reg [1, 5] c59_10) (.seq (.seq (.reg [5, 67, 68, 69] c59_11) (.block 2 (.loop [5, 67, 68, 69] c59_17))) (.seq (.reg [2] c59_18) .ret))))))
def c59 : SFunc := ⟨1, 87, c59_body, [.tmp 2]⟩

/- jacquard/vm.copied -/
def c158_0 : List SOper := [o_ 1 (.box (t_ 0)),
  o_ 2 (.alloc [(.slice none 0 0), (.slice none 0 0), (.slice none 0 0)])]
def c158_1 : List SOper := [⟨(some 6), .fld 0 (t_ 1), none, [1], 0, [], 0, 0, []⟩,
  ⟨(some 7), .load1 (t_ 6), none, [6], 1, [0], 0, 0, []⟩,
  ⟨(some 9), .fld 1 (t_ 1), none, [1], 3, [], 0, 0, []⟩,
  ⟨(some 10), .load1 (t_ 9), none, [9], 4, [3], 0, 1, []⟩,
  ⟨(some 3), .alloc [(.slice none 0 0), (.slice none 0 0), (.slice none 0 0)], none, [], 7, [], 0, 0, []⟩,
  ⟨(some 8), .call 208 [(t_ 7)], none, [7], 2, [1], 0, 0, []⟩,
  ⟨(some 11), .call 209 [(t_ 10)], none, [10], 5, [4, 2], 0, 0, []⟩,
  ⟨(some 12), .build [(.slice none 0 0), (.slice none 0 0), (.slice none 0 0)] [(0, 1, (t_ 8)), (1, 1, (t_ 11))], none, [8, 11], 6, [2, 5], 0, 0, []⟩]
def c158_1b : List SOper := [⟨none, .storeN 3 (t_ 3) (t_ 12), none, [3, 12], 8, [7, 6, 5, 0, 1, 2, 3, 4, 5, 6, 7], 0, 0, [1, 4, 7]⟩]
def c158_2 : List SOper := [o_ 13 (.fld 2 (t_ 1)),
  o_ 14 (.load1 (t_ 13)),
  o_ 15 (.lenS (t_ 14)),
  o_ 16 (.mov (k_ 0))]
def c158_3 : List SOper := [o_ 17 (.bin .lss (t_ 16) (t_ 15))]
def c158_4 : List SOper := [o_ 18 (.idxS 1 (t_ 14) (t_ 16)),
  o_ 19 (.load1 (t_ 18)),
  o_ 5 (.mov (t_ 19))]
def c158_5 : List SOper := [⟨(some 20), .fld 2 (t_ 3), none, [3], 0, [], 0, 0, []⟩,
  ⟨(some 21), .load1 (t_ 20), none, [20], 1, [0], 0, 1, []⟩,
  ⟨(some 22), .mov (t_ 5), none, [5], 2, [], 0, 0, []⟩,
  ⟨(some 23), .call 210 [(t_ 22)], none, [22], 3, [2], 0, 0, []⟩,
  ⟨(some 24), .mkslice 1 [(.slice none 0 0)] [(0, 1, (t_ 23))], none, [23], 4, [3], 0, 0, []⟩,
  ⟨(some 25), .append 1 24 (t_ 21) (t_ 24), none, [21, 24], 5, [1, 4, 3], 0, 0, [4]⟩,
  ⟨(some 26), .fld 2 (t_ 3), none, [3], 6, [0, 1, 2, 3, 4, 5], 0, 0, []⟩]
def c158_5b : List SOper := [⟨none, .store1 (t_ 26) (t_ 25), none, [26, 25], 7, [6, 5, 5, 0, 1, 2, 3, 4, 5], 0, 0, [1, 4]⟩]
def c158_6 : List SOper := [o_ 27 (.bin .add (t_ 16) (k_ 1)),
  o_ 16 (.mov (t_ 27))]
def c158_7 : SCode := (.seq (.reg [2, 3, 14, 15, 16, 17] c158_3) (.seq (.cond (t_ 17) .skip (.exit 0)) (.seq (.block 1 (.seq (.reg [2, 3, 5, 14, 15, 16] c158_4) (.dreg [2, 3, 14, 15, 16] c158_5 c158_5b))) (.reg [2, 3, 14, 15, 16] c158_6))))
def c158_8 : List SOper := [o_ 28 (.loadN 3 (t_ 3)),
  n_ (.storeN 3 (t_ 2) (t_ 28))]
def c158_body : SCode := (.seq (.reg [1, 2] c158_0) (.seq (.dreg [1, 2, 3] c158_1 c158_1b) (.seq (.seq (.reg [2, 3, 14, 15, 16] c158_2) (.block 0 (.loop [2, 3, 14, 15, 16] c158_7))) (.seq (.reg [2] c158_8) .ret))))
def c158 : SFunc := ⟨1, 29, c158_body, [.cellN 2 3]⟩

/- jacquard/prog.Start -/
def c60_0 : List SOper := [o_ 2 (.box (t_ 0)),
  o_ 4 (.alloc (zi 5))]
def c60_1 : List SOper := [o_ 5 (.loadN 3 (t_ 2)),
  o_ 6 (.mov (t_ 1)),
  o_ 7 (.call 112 [(t_ 5), (t_ 6)]),
  o_ 8 (.build (zi 5) []),
  o_ 9 (.call 111 [(t_ 7), (t_ 8)]),
  n_ (.storeN 5 (t_ 4) (t_ 9))]
def c60_body : SCode := (.seq (.reg [1, 2, 4] c60_0) (.seq (.reg [4] c60_1) .ret))
def c60 : SFunc := ⟨2, 10, c60_body, [.cellN 4 5]⟩

/- jacquard/buf.New -/
def c4_0 : List SOper := [o_ 2 (.alloc (zi 74))]
def c4_1 : List SOper := [o_ 3 (.mov (t_ 0)),
  o_ 4 (.bin .neq (t_ 3) (k_ 2)),
  o_ 5 (.mov (t_ 4)),
  g_ 6 5 true (.mov (t_ 0)),
  g_ 7 5 true (.bin .neq (t_ 6) (k_ 3)),
  o_ 8 (.pick (t_ 5) (t_ 7) (.const (.bool false)))]
def c4_2 : List SOper := [o_ 0 (.mov (k_ 0))]
def c4_3 : List SOper := [o_ 9 (.mov (t_ 0)),
  o_ 10 (.build (zi 74) [(0, 1, (t_ 9))]),
  n_ (.storeN 74 (t_ 2) (t_ 10))]
def c4_body : SCode := (.seq (.reg [0, 2] c4_0) (.seq (.seq (.reg [0, 2, 8] c4_1) (.cond (t_ 8) (.reg [0, 2] c4_2) .skip)) (.seq (.reg [2] c4_3) .ret)))
def c4 : SFunc := ⟨1, 11, c4_body, [.cellN 2 74]⟩

/- (*jacquard/vm.VM).thread -/
def c211_0 : List SOper := [o_ 4 (.alloc (zi 7))]
def c211_1 : List SOper := [o_ 16 (.mov (t_ 0)),
  o_ 17 (.mov (t_ 1)),
  o_ 18 (.nilchk (t_ 16)),
  o_ 19 (.fld 4 (t_ 18)),
  o_ 20 (.idxA 4 5 (t_ 19) (t_ 17)),
  o_ 21 (.loadN 5 (t_ 20)),
  o_ 5 (.alloc (zi 5)),
  n_ (.storeN 5 (t_ 5) (t_ 21))]
def c211_2 : List SOper := [⟨(some 23), .mov (t_ 0), none, [0], 0, [], 0, 0, []⟩,
  ⟨(some 24), .nilchk (t_ 23), none, [23], 1, [0], 0, 0, []⟩,
  ⟨(some 25), .fld 0 (t_ 24), none, [24], 2, [1], 0, 0, []⟩,
  ⟨(some 26), .loadN 3 (t_ 25), none, [25], 3, [2], 0, 0, []⟩,
  ⟨(some 27), .mov (t_ 1), none, [1], 4, [], 0, 0, []⟩,
  ⟨(some 28), .loadN 5 (t_ 5), none, [5], 5, [], 0, 0, []⟩,
  ⟨(some 6), .alloc (zi 9), none, [], 10, [], 0, 0, []⟩,
  ⟨(some 29), .call 113 [(t_ 26), (t_ 27), (t_ 28)], none, [26, 27, 28], 6, [3, 4, 5], 0, 0, []⟩,
  ⟨(some 22), .mov (t_ 29), none, [29], 7, [6], 0, 0, []⟩,
  ⟨(some 30), .extr (t_ 22) 0, none, [22], 8, [7], 0, 0, []⟩,
  ⟨(some 31), .extr (t_ 22) 1, none, [22], 9, [7], 0, 0, []⟩,
  ⟨(some 7), .mov (t_ 31), none, [31], 12, [9, 11, 0, 1, 2, 3, 4, 5, 6, 7, 8, 9, 10, 11], 0, 0, []⟩]
def c211_2b : List SOper := [⟨none, .storeN 9 (t_ 6) (t_ 30), none, [6, 30], 11, [10, 8, 6, 0, 1, 2, 3, 4, 5, 6, 7, 8, 10], 0, 0, [3, 5, 10]⟩]
def c211_3 : List SOper := [⟨(some 32), .mov (t_ 0), none, [0], 0, [], 0, 0, []⟩,
  ⟨(some 33), .fld 2 (t_ 6), none, [6], 1, [], 0, 0, []⟩,
  ⟨(some 34), .load1 (t_ 33), none, [33], 2, [1], 0, 0, []⟩,
  ⟨(some 35), .nilchk (t_ 32), none, [32], 3, [0], 0, 0, []⟩,
  ⟨(some 36), .fld 24 (t_ 35), none, [35], 4, [3], 0, 0, []⟩,
  ⟨(some 37), .idxA 4 1 (t_ 36) (t_ 34), none, [36, 34], 5, [4, 2], 0, 0, []⟩,
  ⟨(some 38), .load1 (t_ 37), none, [37], 6, [5], 0, 0, []⟩,
  ⟨(some 39), .mov (t_ 0), none, [0], 7, [], 0, 0, []⟩,
  ⟨(some 40), .fld 2 (t_ 6), none, [6], 8, [], 0, 0, []⟩,
  ⟨(some 41), .load1 (t_ 40), none, [40], 9, [8], 0, 0, []⟩,
  ⟨(some 42), .nilchk (t_ 39), none, [39], 10, [7], 0, 0, []⟩,
  ⟨(some 43), .fld 28 (t_ 42), none, [42], 11, [10], 0, 0, []⟩,
  ⟨(some 44), .idxA 4 1 (t_ 43) (t_ 41), none, [43, 41], 12, [11, 9], 0, 0, []⟩,
  ⟨(some 45), .load1 (t_ 44), none, [44], 13, [12], 0, 0, []⟩,
  ⟨(some 8), .mov (t_ 38), none, [38], 14, [6, 0, 1, 2, 3, 4, 5, 6], 0, 0, []⟩,
  ⟨(some 9), .mov (t_ 45), none, [45], 15, [13, 14, 0, 1, 2, 3, 4, 5, 6, 7, 8, 9, 10, 11, 12, 13, 14], 0, 0, []⟩]
def c211_4 : List SOper := [⟨(some 47), .mov (t_ 0), none, [0], 0, [], 0, 0, []⟩,
  ⟨(some 48), .mov (t_ 1), none, [1], 1, [], 0, 0, []⟩,
  ⟨(some 49), .nilchk (t_ 47), none, [47], 2, [0], 0, 0, []⟩,
  ⟨(some 50), .fld 32 (t_ 49), none, [49], 3, [2], 0, 0, []⟩,
  ⟨(some 51), .idxA 4 74 (t_ 50) (t_ 48), none, [50, 48], 4, [3, 1], 0, 0, []⟩,
  ⟨(some 52), .loadN 74 (t_ 51), none, [51], 5, [4], 0, 0, []⟩,
  ⟨(some 53), .fld 2 (t_ 6), none, [6], 6, [], 0, 0, []⟩,
  ⟨(some 54), .load1 (t_ 53), none, [53], 7, [6], 0, 0, []⟩,
  ⟨(some 55), .call 14 [(t_ 52), (t_ 54)], none, [52, 54], 8, [5, 7], 0, 0, []⟩,
  ⟨(some 46), .mov (t_ 55), none, [55], 9, [8], 0, 0, []⟩,
  ⟨(some 56), .extr (t_ 46) 0, none, [46], 10, [9], 0, 0, []⟩,
  ⟨(some 57), .extr (t_ 46) 1, none, [46], 11, [9], 0, 0, []⟩,
  ⟨(some 58), .extr (t_ 46) 2, none, [46], 12, [9], 0, 0, []⟩,
  ⟨(some 10), .mov (t_ 56), none, [56], 13, [10, 8, 0, 1, 2, 3, 4, 5, 6, 7, 8, 9, 10], 0, 0, []⟩,
  ⟨(some 11), .mov (t_ 57), none, [57], 14, [11, 13, 0, 1, 2, 3, 4, 5, 6, 7, 8, 9, 10, 11, 13], 0, 0, []⟩,
  ⟨(some 12), .mov (t_ 58), none, [58], 15, [12, 14, 0, 1, 2, 3, 4, 5, 6, 7, 8, 9, 10, 11, 12, 13, 14], 0, 0, []⟩]
def c211_4b : List SOper := []
def c211_5 : List SOper := [o_ 59 (.mov (t_ 12))]
def c211_6 : List SOper := [o_ 60 (.mov (t_ 10)),
  o_ 61 (.mov (t_ 11)),
  o_ 8 (.mov (t_ 60)),
  o_ 9 (.mov (t_ 61))]
def c211_7 : List SOper := [o_ 63 (.loadN 9 (t_ 6)),
  o_ 64 (.loadN 5 (t_ 5)),
  o_ 65 (.mov (t_ 8)),
  o_ 66 (.call 114 [(t_ 63), (t_ 64), (t_ 65)]),
  o_ 62 (.mov (t_ 66)),
  o_ 67 (.extr (t_ 62) 0),
  o_ 68 (.extr (t_ 62) 1),
  o_ 13 (.alloc (zi 6)),
  n_ (.storeN 6 (t_ 13) (t_ 67)),
  o_ 14 (.mov (t_ 68))]
def c211_8 : List SOper := [o_ 69 (.mov (t_ 14)),
  o_ 70 (.un .not (t_ 69))]
def c211_9 : List SOper := [o_ 9 (.mov (k_ (-1)))]
def c211_10 : List SOper := [o_ 71 (.mov (t_ 0)),
  o_ 72 (.nilchk (t_ 71)),
  o_ 73 (.fld 328 (t_ 72)),
  o_ 74 (.load1 (t_ 73)),
  o_ 75 (.lenS (t_ 74)),
  o_ 15 (.mov (t_ 75))]
def c211_11 : List SOper := [o_ 77 (.fld 2 (t_ 13)),
  o_ 78 (.load1 (t_ 77)),
  o_ 79 (.bin .eql (t_ 78) (k_ 2)),
  o_ 80 (.mov (t_ 79)),
  g_ 81 80 true (.mov (t_ 0)),
  g_ 82 80 true (.nilchk (t_ 81)),
  g_ 83 80 true (.fld 3 (t_ 82)),
  g_ 84 80 true (.load1 (t_ 83)),
  g_ 85 80 true (.bin .neq (t_ 84) (k_ 1)),
  o_ 86 (.pick (t_ 80) (t_ 85) (.const (.bool false))),
  o_ 76 (.mov (t_ 86))]
def c211_12 : List SOper := [⟨(some 87), .mov (t_ 0), none, [0], 0, [], 0, 0, []⟩,
  ⟨(some 88), .mov (t_ 1), none, [1], 1, [], 0, 0, []⟩,
  ⟨(some 89), .mov (t_ 0), none, [0], 2, [], 0, 0, []⟩,
  ⟨(some 90), .mov (t_ 1), none, [1], 3, [], 0, 0, []⟩,
  ⟨(some 91), .nilchk (t_ 89), none, [89], 4, [2], 0, 0, []⟩,
  ⟨(some 92), .fld 32 (t_ 91), none, [91], 5, [4], 0, 0, []⟩,
  ⟨(some 93), .idxA 4 74 (t_ 92) (t_ 90), none, [92, 90], 6, [5, 3], 0, 0, []⟩,
  ⟨(some 94), .loadN 74 (t_ 93), none, [93], 7, [6], 0, 0, []⟩,
  ⟨(some 95), .fld 3 (t_ 13), none, [13], 8, [], 0, 0, []⟩,
  ⟨(some 96), .load1 (t_ 95), none, [95], 9, [8], 0, 0, []⟩,
  ⟨(some 97), .fld 5 (t_ 13), none, [13], 10, [], 0, 0, []⟩,
  ⟨(some 98), .load1 (t_ 97), none, [97], 11, [10], 0, 0, []⟩,
  ⟨(some 99), .mov (t_ 15), none, [15], 12, [], 0, 0, []⟩,
  ⟨(some 101), .nilchk (t_ 87), none, [87], 14, [0], 0, 0, []⟩,
  ⟨(some 102), .fld 32 (t_ 101), none, [101], 15, [14], 0, 0, []⟩,
  ⟨(some 100), .call 5 [(t_ 94), (t_ 96), (t_ 98), (t_ 99)], none, [94, 96, 98, 99], 13, [7, 9, 11, 12], 0, 0, []⟩,
  ⟨(some 103), .idxA 4 74 (t_ 102) (t_ 88), none, [102, 88], 16, [15, 1, 0, 1, 2, 3, 4, 5, 6, 7, 8, 9, 10, 11, 12, 13], 0, 0, []⟩]
def c211_12b : List SOper := [⟨none, .storeN 74 (t_ 103) (t_ 100), none, [103, 100], 17, [16, 13, 13, 0, 1, 2, 3, 4, 5, 6, 7, 8, 9, 10, 11, 12, 13], 0, 0, [7, 9, 11]⟩]
def c211_13 : List SOper := [o_ 105 (.loadN 6 (t_ 13)),
  o_ 106 (.call 101 [(t_ 105)]),
  o_ 104 (.mov (t_ 106))]
def c211_14 : List SOper := [⟨(some 107), .mov (t_ 0), none, [0], 0, [], 0, 0, []⟩,
  ⟨(some 108), .fld 3 (t_ 13), none, [13], 1, [], 0, 0, []⟩,
  ⟨(some 109), .load1 (t_ 108), none, [108], 2, [1], 0, 0, []⟩,
  ⟨(some 110), .mov (t_ 0), none, [0], 3, [], 0, 0, []⟩,
  ⟨(some 111), .fld 3 (t_ 13), none, [13], 4, [], 0, 0, []⟩,
  ⟨(some 112), .load1 (t_ 111), none, [111], 5, [4], 0, 0, []⟩,
  ⟨(some 113), .fld 5 (t_ 13), none, [13], 6, [], 0, 0, []⟩,
  ⟨(some 114), .load1 (t_ 113), none, [113], 7, [6], 0, 0, []⟩,
  ⟨(some 115), .mov (t_ 15), none, [15], 8, [], 0, 0, []⟩,
  ⟨(some 116), .nilchk (t_ 107), none, [107], 9, [0], 0, 0, []⟩,
  ⟨(some 117), .fld 24 (t_ 116), none, [116], 10, [9], 0, 0, []⟩,
  ⟨(some 118), .idxA 4 1 (t_ 117) (t_ 109), none, [117, 109], 11, [10, 2, 0, 1, 2, 6, 7], 0, 0, []⟩,
  ⟨(some 119), .nilchk (t_ 110), none, [110], 13, [3], 0, 0, []⟩,
  ⟨(some 120), .fld 28 (t_ 119), none, [119], 14, [13], 0, 0, []⟩,
  ⟨(some 121), .idxA 4 1 (t_ 120) (t_ 112), none, [120, 112], 15, [14, 5, 0, 1, 2, 3, 4, 5, 6, 7, 8, 9, 10, 11, 12], 0, 0, []⟩]
def c211_14b : List SOper := [⟨none, .store1 (t_ 118) (t_ 114), none, [118, 114], 12, [11, 7, 0, 1, 2, 6, 7], 0, 0, [2, 7]⟩,
  ⟨none, .store1 (t_ 121) (t_ 115), none, [121, 115], 16, [15, 8, 12, 0, 1, 2, 3, 4, 5, 6, 7, 8, 9, 10, 11, 12], 0, 0, [2, 5, 7]⟩]
def c211_15 : List SOper := [⟨(some 122), .mov (t_ 0), none, [0], 0, [], 0, 0, []⟩,
  ⟨(some 123), .mov (t_ 1), none, [1], 1, [], 0, 0, []⟩,
  ⟨(some 124), .mov (t_ 0), none, [0], 2, [], 0, 0, []⟩,
  ⟨(some 125), .nilchk (t_ 124), none, [124], 3, [2], 0, 0, []⟩,
  ⟨(some 126), .fld 0 (t_ 125), none, [125], 4, [3], 0, 0, []⟩,
  ⟨(some 127), .loadN 3 (t_ 126), none, [126], 5, [4], 0, 0, []⟩,
  ⟨(some 128), .mov (t_ 1), none, [1], 6, [], 0, 0, []⟩,
  ⟨(some 129), .loadN 5 (t_ 5), none, [5], 7, [], 0, 0, []⟩,
  ⟨(some 130), .mov (t_ 8), none, [8], 8, [], 0, 0, []⟩,
  ⟨(some 132), .nilchk (t_ 122), none, [122], 10, [0], 0, 0, []⟩,
  ⟨(some 133), .fld 4 (t_ 132), none, [132], 11, [10], 0, 0, []⟩,
  ⟨(some 131), .call 116 [(t_ 127), (t_ 128), (t_ 129), (t_ 130)], none, [127, 128, 129, 130], 9, [5, 6, 7, 8], 0, 0, []⟩,
  ⟨(some 134), .idxA 4 5 (t_ 133) (t_ 123), none, [133, 123], 12, [11, 1, 0, 1, 2, 3, 4, 5, 6, 7, 8, 9], 0, 0, []⟩]
def c211_15b : List SOper := [⟨none, .storeN 5 (t_ 134) (t_ 131), none, [134, 131], 13, [12, 9, 9, 0, 1, 2, 3, 4, 5, 6, 7, 8, 9], 0, 0, [5, 7]⟩]
def c211_16 : List SOper := [o_ 135 (.mov (t_ 1)),
  o_ 136 (.fld 2 (t_ 13)),
  o_ 137 (.load1 (t_ 136)),
  o_ 138 (.fld 3 (t_ 13)),
  o_ 139 (.load1 (t_ 138)),
  o_ 140 (.fld 4 (t_ 13)),
  o_ 141 (.load1 (t_ 140)),
  o_ 142 (.fld 5 (t_ 13)),
  o_ 143 (.load1 (t_ 142)),
  o_ 144 (.mov (t_ 9)),
  o_ 145 (.build (zi 7) [(1, 1, (t_ 135)), (2, 1, (t_ 137)), (3, 1, (t_ 139)), (4, 1, (t_ 141)), (5, 1, (t_ 143)), (6, 1, (t_ 144))]),
  n_ (.storeN 7 (t_ 4) (t_ 145))]
def c211_body : SCode := (.seq (.reg [0, 1, 4] c211_0) (.seq (.reg [0, 1, 4, 5] c211_1) (.seq (.dreg [0, 1, 4, 5, 6] c211_2 c211_2b) (.seq (.qreg [0, 1, 4, 5, 6, 8, 9] c211_3) (.seq (.seq (.dreg [0, 1, 4, 5, 6, 8, 9, 10, 11, 12] c211_4 c211_4b) (.seq (.reg [0, 1, 4, 5, 6, 8, 9, 10, 11, 59] c211_5) (.cond (t_ 59) (.reg [0, 1, 4, 5, 6, 8, 9] c211_6) .skip))) (.seq (.reg [0, 1, 4, 5, 8, 9, 13, 14] c211_7) (.seq (.seq (.reg [0, 1, 4, 5, 8, 9, 13, 70] c211_8) (.cond (t_ 70) (.reg [0, 1, 4, 5, 8, 9, 13] c211_9) .skip)) (.seq (.reg [0, 1, 4, 5, 8, 9, 13, 15] c211_10) (.seq (.block 0 (.seq (.reg [0, 1, 4, 5, 8, 9, 13, 15, 76] c211_11) (.cond (t_ 76) (.dreg [0, 1, 4, 5, 8, 9, 13] c211_12 c211_12b) (.seq (.reg [0, 1, 4, 5, 8, 9, 13, 15, 104] c211_13) (.cond (t_ 104) (.dreg [0, 1, 4, 5, 8, 9, 13] c211_14 c211_14b) .skip))))) (.seq (.dreg [1, 4, 9, 13] c211_15 c211_15b) (.seq (.reg [4] c211_16) .ret)))))))))))
def c211 : SFunc := ⟨2, 146, c211_body, [.cellN 4 7]⟩

/- (*jacquard/vm.VM).flush -/
def c212_0 : List SOper := [o_ 6 (.alloc (zi 7))]
def c212_1 : List SOper := [o_ 12 (.mov (t_ 0)),
  o_ 13 (.mov (t_ 1)),
  o_ 14 (.nilchk (t_ 12)),
  o_ 15 (.fld 32 (t_ 14)),
  o_ 16 (.idxA 4 74 (t_ 15) (t_ 13)),
  o_ 17 (.loadN 74 (t_ 16)),
  o_ 18 (.mov (t_ 2)),
  o_ 19 (.call 11 [(t_ 17), (t_ 18)]),
  o_ 11 (.mov (t_ 19)),
  o_ 20 (.extr (t_ 11) 0),
  o_ 21 (.extr (t_ 11) 1),
  o_ 22 (.extr (t_ 11) 2),
  o_ 23 (.extr (t_ 11) 3),
  o_ 7 (.mov (t_ 20)),
  o_ 8 (.mov (t_ 21)),
  o_ 9 (.mov (t_ 22)),
  o_ 10 (.mov (t_ 23))]
def c212_2 : List SOper := [⟨(some 24), .mov (t_ 0), none, [0], 0, [], 0, 0, []⟩,
  ⟨(some 25), .mov (t_ 1), none, [1], 1, [], 0, 0, []⟩,
  ⟨(some 26), .mov (t_ 0), none, [0], 2, [], 0, 0, []⟩,
  ⟨(some 27), .mov (t_ 1), none, [1], 3, [], 0, 0, []⟩,
  ⟨(some 28), .nilchk (t_ 26), none, [26], 4, [2], 0, 0, []⟩,
  ⟨(some 29), .fld 32 (t_ 28), none, [28], 5, [4], 0, 0, []⟩,
  ⟨(some 30), .idxA 4 74 (t_ 29) (t_ 27), none, [29, 27], 6, [5, 3], 0, 0, []⟩,
  ⟨(some 31), .loadN 74 (t_ 30), none, [30], 7, [6], 0, 0, []⟩,
  ⟨(some 32), .mov (t_ 2), none, [2], 8, [], 0, 0, []⟩,
  ⟨(some 34), .nilchk (t_ 24), none, [24], 10, [0], 0, 0, []⟩,
  ⟨(some 35), .fld 32 (t_ 34), none, [34], 11, [10], 0, 0, []⟩,
  ⟨(some 33), .call 10 [(t_ 31), (t_ 32)], none, [31, 32], 9, [7, 8], 0, 0, []⟩,
  ⟨(some 36), .idxA 4 74 (t_ 35) (t_ 25), none, [35, 25], 12, [11, 1, 0, 1, 2, 3, 4, 5, 6, 7, 8, 9], 0, 0, []⟩]
def c212_2b : List SOper := [⟨none, .storeN 74 (t_ 36) (t_ 33), none, [36, 33], 13, [12, 9, 9, 0, 1, 2, 3, 4, 5, 6, 7, 8, 9], 0, 0, [7]⟩]
def c212_3 : List SOper := [⟨(some 37), .mov (t_ 0), none, [0], 0, [], 0, 0, []⟩,
  ⟨(some 38), .mov (t_ 7), none, [7], 1, [], 0, 0, []⟩,
  ⟨(some 39), .mov (t_ 0), none, [0], 2, [], 0, 0, []⟩,
  ⟨(some 40), .mov (t_ 7), none, [7], 3, [], 0, 0, []⟩,
  ⟨(some 41), .mov (t_ 8), none, [8], 4, [], 0, 0, []⟩,
  ⟨(some 42), .mov (t_ 9), none, [9], 5, [], 0, 0, []⟩,
  ⟨(some 43), .nilchk (t_ 37), none, [37], 6, [0], 0, 0, []⟩,
  ⟨(some 44), .fld 24 (t_ 43), none, [43], 7, [6], 0, 0, []⟩,
  ⟨(some 45), .idxA 4 1 (t_ 44) (t_ 38), none, [44, 38], 8, [7, 1, 0, 1, 4], 0, 0, []⟩,
  ⟨(some 46), .nilchk (t_ 39), none, [39], 10, [2], 0, 0, []⟩,
  ⟨(some 47), .fld 28 (t_ 46), none, [46], 11, [10], 0, 0, []⟩,
  ⟨(some 48), .idxA 4 1 (t_ 47) (t_ 40), none, [47, 40], 12, [11, 3, 0, 1, 2, 3, 4, 5, 6, 7, 8, 9], 0, 0, []⟩]
def c212_3b : List SOper := [⟨none, .store1 (t_ 45) (t_ 41), none, [45, 41], 9, [8, 4, 0, 1, 4], 0, 0, []⟩,
  ⟨none, .store1 (t_ 48) (t_ 42), none, [48, 42], 13, [12, 5, 9, 0, 1, 2, 3, 4, 5, 6, 7, 8, 9], 0, 0, []⟩]
def c212_4 : List SOper := [o_ 49 (.mov (t_ 1)),
  o_ 50 (.mov (t_ 7)),
  o_ 51 (.mov (t_ 8)),
  o_ 52 (.mov (t_ 9)),
  o_ 53 (.build (zi 7) [(1, 1, (t_ 49)), (2, 1, (k_ 6)), (3, 1, (t_ 50)), (5, 1, (t_ 51)), (6, 1, (t_ 52))]),
  n_ (.storeN 7 (t_ 6) (t_ 53))]
def c212_body : SCode := (.seq (.reg [0, 1, 2, 6] c212_0) (.seq (.reg [0, 1, 2, 6, 7, 8, 9] c212_1) (.seq (.dreg [0, 1, 6, 7, 8, 9] c212_2 c212_2b) (.seq (.dreg [1, 6, 7, 8, 9] c212_3 c212_3b) (.seq (.reg [6] c212_4) .ret)))))
def c212 : SFunc := ⟨3, 54, c212_body, [.cellN 6 7]⟩

/- jacquard/prog.Next -/
def c113_0 : List SOper := [o_ 3 (.box (t_ 0)),
  o_ 5 (.box (t_ 2)),
  o_ 6 (.alloc (zi 9)),
  o_ 7 (.mov (.const (.bool false)))]
def c113_1 : List SOper := [o_ 10 (.loadN 3 (t_ 3)),
  o_ 11 (.mov (t_ 1)),
  o_ 12 (.call 112 [(t_ 10), (t_ 11)]),
  o_ 8 (.mov (t_ 12))]
def c113_2 : List SOper := [o_ 13 (.fld 0 (t_ 5)),
  o_ 14 (.load1 (t_ 13)),
  o_ 15 (.bin .lss (t_ 14) (k_ 0)),
  o_ 16 (.mov (t_ 15)),
  g_ 17 16 false (.fld 0 (t_ 5)),
  g_ 18 16 false (.load1 (t_ 17)),
  g_ 19 16 false (.mov (t_ 8)),
  g_ 20 16 false (.lenS (t_ 19)),
  g_ 21 16 false (.bin .geq (t_ 18) (t_ 20)),
  o_ 22 (.pick (t_ 16) (.const (.bool true)) (t_ 21))]
def c113_3 : List SOper := [o_ 23 (.build (zi 9) []),
  n_ (.storeN 9 (t_ 6) (t_ 23)),
  o_ 7 (.mov (.const (.bool false)))]
def c113_4 : List SOper := [o_ 24 (.mov (t_ 8)),
  o_ 25 (.fld 0 (t_ 5)),
  o_ 26 (.load1 (t_ 25)),
  o_ 27 (.idxS 9 (t_ 24) (t_ 26)),
  o_ 28 (.loadN 9 (t_ 27)),
  o_ 9 (.alloc (zi 9)),
  n_ (.storeN 9 (t_ 9) (t_ 28))]
def c113_5 : List SOper := [o_ 29 (.fld 0 (t_ 9)),
  o_ 30 (.load1 (t_ 29)),
  o_ 31 (.bin .lss (t_ 30) (k_ 1)),
  o_ 32 (.mov (t_ 31)),
  g_ 33 32 false (.fld 0 (t_ 9)),
  g_ 34 32 false (.load1 (t_ 33)),
  g_ 35 32 false (.bin .gtr (t_ 34) (k_ 4)),
  o_ 36 (.pick (t_ 32) (.const (.bool true)) (t_ 35))]
def c113_6 : List SOper := [o_ 37 (.build (zi 9) []),
  n_ (.storeN 9 (t_ 6) (t_ 37)),
  o_ 7 (.mov (.const (.bool false)))]
def c113_7 : List SOper := [o_ 38 (.loadN 9 (t_ 9)),
  n_ (.storeN 9 (t_ 6) (t_ 38)),
  o_ 7 (.mov (.const (.bool true)))]
def c113_body : SCode := (.seq (.reg [1, 3, 5, 6] c113_0) (.seq (.reg [5, 6, 8] c113_1) (.seq (.seq (.reg [5, 6, 8, 22] c113_2) (.cond (t_ 22) (.seq (.reg [6, 7] c113_3) .ret) .skip)) (.seq (.reg [6, 9] c113_4) (.seq (.seq (.reg [6, 9, 36] c113_5) (.cond (t_ 36) (.seq (.reg [6, 7] c113_6) .ret) .skip)) (.seq (.reg [6, 7] c113_7) .ret))))))
def c113 : SFunc := ⟨3, 39, c113_body, [.cellN 6 9, .tmp 7]⟩

/- (jacquard/buf.Buf).Empty -/
def c8_0 : List SOper := [o_ 1 (.box (t_ 0)),
  o_ 2 (.mov (.const (.bool false)))]
def c8_1 : List SOper := [o_ 3 (.fld 1 (t_ 1)),
  o_ 4 (.load1 (t_ 3)),
  o_ 5 (.bin .eql (t_ 4) (k_ 0)),
  o_ 2 (.mov (t_ 5))]
def c8_body : SCode := (.seq (.reg [1] c8_0) (.seq (.reg [2] c8_1) .ret))
def c8 : SFunc := ⟨1, 6, c8_body, [.tmp 2]⟩

/- (jacquard/buf.Buf).Oldest -/
def c11_0 : List SOper := [o_ 2 (.box (t_ 0)),
  o_ 4 (.mov (k_ 0)),
  o_ 5 (.mov (k_ 0)),
  o_ 6 (.mov (k_ 0)),
  o_ 7 (.mov (.const (.bool false)))]
def c11_1 : List SOper := [o_ 9 (.loadN 74 (t_ 2)),
  o_ 10 (.mov (t_ 1)),
  o_ 11 (.call 15 [(t_ 9), (t_ 10)]),
  o_ 8 (.mov (t_ 11))]
def c11_2 : List SOper := [o_ 12 (.mov (t_ 8)),
  o_ 13 (.bin .lss (t_ 12) (k_ 0))]
def c11_3 : List SOper := [o_ 4 (.mov (k_ 0)),
  o_ 5 (.mov (k_ 0)),
  o_ 6 (.mov (k_ 0)),
  o_ 7 (.mov (.const (.bool false)))]
def c11_4 : List SOper := [⟨(some 14), .mov (t_ 8), none, [8], 0, [], 0, 0, []⟩,
  ⟨(some 15), .fld 2 (t_ 2), none, [2], 1, [], 0, 0, []⟩,
  ⟨(some 16), .idxA 24 3 (t_ 15) (t_ 14), none, [15, 14], 2, [1, 0], 0, 0, []⟩,
  ⟨(some 17), .fld 0 (t_ 16), none, [16], 3, [2], 0, 0, []⟩,
  ⟨(some 18), .load1 (t_ 17), none, [17], 4, [3], 0, 0, []⟩,
  ⟨(some 19), .mov (t_ 8), none, [8], 5, [], 0, 0, []⟩,
  ⟨(some 20), .fld 2 (t_ 2), none, [2], 6, [], 0, 0, []⟩,
  ⟨(some 21), .idxA 24 3 (t_ 20) (t_ 19), none, [20, 19], 7, [6, 5], 0, 0, []⟩,
  ⟨(some 22), .fld 1 (t_ 21), none, [21], 8, [7], 0, 0, []⟩,
  ⟨(some 23), .load1 (t_ 22), none, [22], 9, [8], 0, 0, []⟩,
  ⟨(some 24), .mov (t_ 8), none, [8], 10, [], 0, 0, []⟩,
  ⟨(some 25), .fld 2 (t_ 2), none, [2], 11, [], 0, 0, []⟩,
  ⟨(some 26), .idxA 24 3 (t_ 25) (t_ 24), none, [25, 24], 12, [11, 10], 0, 0, []⟩,
  ⟨(some 27), .fld 2 (t_ 26), none, [26], 13, [12], 0, 0, []⟩,
  ⟨(some 28), .load1 (t_ 27), none, [27], 14, [13], 0, 0, []⟩,
  ⟨(some 4), .mov (t_ 18), none, [18], 15, [4, 0, 1, 2, 3, 4], 0, 0, []⟩,
  ⟨(some 5), .mov (t_ 23), none, [23], 16, [9, 15, 0, 1, 2, 3, 4, 5, 6, 7, 8, 9, 15], 0, 0, []⟩,
  ⟨(some 6), .mov (t_ 28), none, [28], 17, [14, 16, 0, 1, 2, 3, 4, 5, 6, 7, 8, 9, 10, 11, 12, 13, 14, 15, 16], 0, 0, []⟩,
  ⟨(some 7), .mov (.const (.bool true)), none, [], 18, [17, 0, 1, 2, 3, 4, 5, 6, 7, 8, 9, 10, 11, 12, 13, 14, 15, 16, 17], 0, 0, []⟩]
def c11_body : SCode := (.seq (.reg [1, 2] c11_0) (.seq (.reg [2, 8] c11_1) (.seq (.seq (.reg [2, 8, 13] c11_2) (.cond (t_ 13) (.seq (.reg [4, 5, 6, 7] c11_3) .ret) .skip)) (.seq (.qreg [4, 5, 6, 7] c11_4) .ret))))
def c11 : SFunc := ⟨2, 29, c11_body, [.tmp 4, .tmp 5, .tmp 6, .tmp 7]⟩

/- math/bits.Mul32 -/
def c249_0 : List SOper := [o_ 4 (.mov (.const (.int .u32 (0)))),
  o_ 5 (.mov (.const (.int .u32 (0))))]
def c249_1 : List SOper := [o_ 7 (.mov (t_ 0)),
  o_ 8 (.conv .u64 (t_ 7)),
  o_ 9 (.mov (t_ 1)),
  o_ 10 (.conv .u64 (t_ 9)),
  o_ 11 (.bin .mul (t_ 8) (t_ 10)),
  o_ 6 (.mov (t_ 11))]
def c249_2 : List SOper := [o_ 12 (.mov (t_ 6)),
  o_ 13 (.bin .shr (t_ 12) (.const (.int .u64 (32)))),
  o_ 14 (.conv .u32 (t_ 13)),
  o_ 15 (.mov (t_ 6)),
  o_ 16 (.conv .u32 (t_ 15)),
  o_ 4 (.mov (t_ 14)),
  o_ 5 (.mov (t_ 16))]
def c249_body : SCode := (.seq (.reg [0, 1] c249_0) (.seq (.reg [6] c249_1) (.seq (.reg [4, 5] c249_2) .ret)))
def c249 : SFunc := ⟨2, 17, c249_body, [.tmp 4, .tmp 5]⟩

/- math/bits.Mul64 -/
def c250_0 : List SOper := [o_ 4 (.mov (.const (.int .u64 (0)))),
  o_ 5 (.mov (.const (.int .u64 (0))))]
def c250_1 : List SOper := [o_ 14 (.mov (t_ 0)),
  o_ 15 (.bin .and (t_ 14) (.const (.int .u64 (4294967295)))),
  o_ 6 (.mov (t_ 15))]
def c250_2 : List SOper := [o_ 16 (.mov (t_ 0)),
  o_ 17 (.bin .shr (t_ 16) (.const (.int .u64 (32)))),
  o_ 7 (.mov (t_ 17))]
def c250_3 : List SOper := [o_ 18 (.mov (t_ 1)),
  o_ 19 (.bin .and (t_ 18) (.const (.int .u64 (4294967295)))),
  o_ 8 (.mov (t_ 19))]
def c250_4 : List SOper := [o_ 20 (.mov (t_ 1)),
  o_ 21 (.bin .shr (t_ 20) (.const (.int .u64 (32)))),
  o_ 9 (.mov (t_ 21))]
def c250_5 : List SOper := [o_ 22 (.mov (t_ 6)),
  o_ 23 (.mov (t_ 8)),
  o_ 24 (.bin .mul (t_ 22) (t_ 23)),
  o_ 10 (.mov (t_ 24))]
def c250_6 : List SOper := [o_ 25 (.mov (t_ 7)),
  o_ 26 (.mov (t_ 8)),
  o_ 27 (.bin .mul (t_ 25) (t_ 26)),
  o_ 28 (.mov (t_ 10)),
  o_ 29 (.bin .shr (t_ 28) (.const (.int .u64 (32)))),
  o_ 30 (.bin .add (t_ 27) (t_ 29)),
  o_ 11 (.mov (t_ 30))]
def c250_7 : List SOper := [o_ 31 (.mov (t_ 11)),
  o_ 32 (.bin .and (t_ 31) (.const (.int .u64 (4294967295)))),
  o_ 12 (.mov (t_ 32))]
def c250_8 : List SOper := [o_ 33 (.mov (t_ 11)),
  o_ 34 (.bin .shr (t_ 33) (.const (.int .u64 (32)))),
  o_ 13 (.mov (t_ 34))]
def c250_9 : List SOper := [o_ 35 (.mov (t_ 12)),
  o_ 36 (.mov (t_ 6)),
  o_ 37 (.mov (t_ 9)),
  o_ 38 (.bin .mul (t_ 36) (t_ 37)),
  o_ 39 (.bin .add (t_ 35) (t_ 38)),
  o_ 12 (.mov (t_ 39))]
def c250_10 : List SOper := [o_ 40 (.mov (t_ 7)),
  o_ 41 (.mov (t_ 9)),
  o_ 42 (.bin .mul (t_ 40) (t_ 41)),
  o_ 43 (.mov (t_ 13)),
  o_ 44 (.bin .add (t_ 42) (t_ 43)),
  o_ 45 (.mov (t_ 12)),
  o_ 46 (.bin .shr (t_ 45) (.const (.int .u64 (32)))),
  o_ 47 (.bin .add (t_ 44) (t_ 46)),
  o_ 4 (.mov (t_ 47))]
def c250_11 : List SOper := [o_ 48 (.mov (t_ 0)),
  o_ 49 (.mov (t_ 1)),
  o_ 50 (.bin .mul (t_ 48) (t_ 49)),
  o_ 5 (.mov (t_ 50))]
def c250_body : SCode := (.seq (.reg [0, 1] c250_0) (.seq (.reg [0, 1, 6] c250_1) (.seq (.reg [0, 1, 6, 7] c250_2) (.seq (.reg [0, 1, 6, 7, 8] c250_3) (.seq (.reg [0, 1, 6, 7, 8, 9] c250_4) (.seq (.reg [0, 1, 6, 7, 8, 9, 10] c250_5) (.seq (.reg [0, 1, 6, 7, 9, 11] c250_6) (.seq (.reg [0, 1, 6, 7, 9, 11, 12] c250_7) (.seq (.reg [0, 1, 6, 7, 9, 12, 13] c250_8) (.seq (.reg [0, 1, 7, 9, 12, 13] c250_9) (.seq (.reg [0, 1, 4] c250_10) (.seq (.reg [4, 5] c250_11) .ret))))))))))))
def c250 : SFunc := ⟨2, 51, c250_body, [.tmp 4, .tmp 5]⟩

/- cmp.Compare[int] -/
def c197_0 : List SOper := [o_ 4 (.mov (k_ 0))]
def c197_1 : List SOper := [o_ 7 (.mov (t_ 0)),
  o_ 8 (.call 229 [(t_ 7)]),
  o_ 5 (.mov (t_ 8))]
def c197_2 : List SOper := [o_ 9 (.mov (t_ 1)),
  o_ 10 (.call 229 [(t_ 9)]),
  o_ 6 (.mov (t_ 10))]
def c197_3 : List SOper := [o_ 11 (.mov (t_ 5))]
def c197_4 : List SOper := [o_ 12 (.mov (t_ 6))]
def c197_5 : List SOper := [o_ 4 (.mov (k_ 0))]
def c197_6 : List SOper := [o_ 4 (.mov (k_ (-1)))]
def c197_7 : List SOper := [o_ 13 (.mov (t_ 6))]
def c197_8 : List SOper := [o_ 4 (.mov (k_ 1))]
def c197_9 : List SOper := [o_ 14 (.mov (t_ 0)),
  o_ 15 (.mov (t_ 1)),
  o_ 16 (.bin .lss (t_ 14) (t_ 15))]
def c197_10 : List SOper := [o_ 4 (.mov (k_ (-1)))]
def c197_11 : List SOper := [o_ 17 (.mov (t_ 0)),
  o_ 18 (.mov (t_ 1)),
  o_ 19 (.bin .gtr (t_ 17) (t_ 18))]
def c197_12 : List SOper := [o_ 4 (.mov (k_ 1))]
def c197_13 : List SOper := [o_ 4 (.mov (k_ 0))]
def c197_body : SCode := (.seq (.reg [0, 1] c197_0) (.seq (.reg [0, 1, 5] c197_1) (.seq (.reg [0, 1, 5, 6] c197_2) (.seq (.seq (.reg [0, 1, 6, 11] c197_3) (.cond (t_ 11) (.seq (.seq (.reg [12] c197_4) (.cond (t_ 12) (.seq (.reg [4] c197_5) .ret) .skip)) (.seq (.reg [4] c197_6) .ret)) .skip)) (.seq (.seq (.reg [0, 1, 13] c197_7) (.cond (t_ 13) (.seq (.reg [4] c197_8) .ret) .skip)) (.seq (.seq (.reg [0, 1, 16] c197_9) (.cond (t_ 16) (.seq (.reg [4] c197_10) .ret) .skip)) (.seq (.seq (.reg [19] c197_11) (.cond (t_ 19) (.seq (.reg [4] c197_12) .ret) .skip)) (.seq (.reg [4] c197_13) .ret))))))))
def c197 : SFunc := ⟨2, 20, c197_body, [.tmp 4]⟩

/- cmp.isNaN[int64] -/
def c230_0 : List SOper := [o_ 2 (.mov (.const (.bool false)))]
def c230_1 : List SOper := [o_ 3 (.mov (t_ 0)),
  o_ 4 (.mov (t_ 0)),
  o_ 5 (.bin .neq (t_ 3) (t_ 4)),
  o_ 2 (.mov (t_ 5))]
def c230_body : SCode := (.seq (.reg [0] c230_0) (.seq (.reg [2] c230_1) .ret))
def c230 : SFunc := ⟨1, 6, c230_body, [.tmp 2]⟩

/- jacquard/prog.Size -/
def c104_0 : List SOper := [o_ 1 (.box (t_ 0)),
  o_ 2 (.mov (k_ 0))]
def c104_1 : List SOper := [o_ 3 (.mov (k_ 0))]
def c104_2 : List SOper := [o_ 6 (.fld 2 (t_ 1)),
  o_ 7 (.load1 (t_ 6)),
  o_ 8 (.lenS (t_ 7)),
  o_ 9 (.mov (k_ 0))]
def c104_3 : List SOper := [o_ 10 (.bin .lss (t_ 9) (t_ 8))]
def c104_4 : List SOper := [o_ 11 (.idxS 1 (t_ 7) (t_ 9)),
  o_ 12 (.load1 (t_ 11)),
  o_ 5 (.mov (t_ 12))]
def c104_5 : List SOper := [o_ 13 (.mov (t_ 3)),
  o_ 14 (.mov (t_ 5)),
  o_ 15 (.lenS (t_ 14)),
  o_ 16 (.bin .add (t_ 13) (t_ 15)),
  o_ 3 (.mov (t_ 16))]
def c104_6 : List SOper := [o_ 17 (.bin .add (t_ 9) (k_ 1)),
  o_ 9 (.mov (t_ 17))]
def c104_7 : SCode := (.seq (.reg [3, 7, 8, 9, 10] c104_3) (.seq (.cond (t_ 10) .skip (.exit 0)) (.seq (.block 1 (.seq (.reg [3, 5, 7, 8, 9] c104_4) (.reg [3, 7, 8, 9] c104_5))) (.reg [3, 7, 8, 9] c104_6))))
def c104_8 : List SOper := [o_ 18 (.mov (t_ 3)),
  o_ 2 (.mov (t_ 18))]
def c104_body : SCode := (.seq (.reg [1] c104_0) (.seq (.reg [1, 3] c104_1) (.seq (.seq (.reg [3, 7, 8, 9] c104_2) (.block 0 (.loop [3, 7, 8, 9] c104_7))) (.seq (.reg [2] c104_8) .ret))))
def c104 : SFunc := ⟨1, 19, c104_body, [.tmp 2]⟩

/- jacquard/print.IsLoc -/
def c105_0 : List SOper := [o_ 2 (.mov (.const (.bool false)))]
def c105_1 : List SOper := [o_ 3 (.mov (t_ 0)),
  o_ 4 (.bin .geq (t_ 3) (k_ 97)),
  o_ 5 (.mov (t_ 4)),
  g_ 6 5 true (.mov (t_ 0)),
  g_ 7 5 true (.bin .leq (t_ 6) (k_ 122)),
  o_ 8 (.pick (t_ 5) (t_ 7) (.const (.bool false))),
  o_ 2 (.mov (t_ 8))]
def c105_body : SCode := (.seq (.reg [0] c105_0) (.seq (.reg [2] c105_1) .ret))
def c105 : SFunc := ⟨1, 9, c105_body, [.tmp 2]⟩

/- jacquard/prog.Ok$1 -/
def c106_0 : List SOper := [o_ 3 (.mov (.const (.bool false)))]
def c106_1 : List SOper := [o_ 4 (.mov (t_ 0)),
  o_ 5 (.bin .geq (t_ 4) (k_ 0)),
  o_ 6 (.mov (t_ 5)),
  g_ 7 6 true (.mov (t_ 0)),
  g_ 8 6 true (.fld 0 (t_ 1)),
  g_ 9 6 true (.load1 (t_ 8)),
  g_ 10 6 true (.lenS (t_ 9)),
  g_ 11 6 true (.bin .lss (t_ 7) (t_ 10)),
  o_ 12 (.pick (t_ 6) (t_ 11) (.const (.bool false))),
  o_ 3 (.mov (t_ 12))]
def c106_body : SCode := (.seq (.reg [0, 1] c106_0) (.seq (.reg [3] c106_1) .ret))
def c106 : SFunc := ⟨2, 13, c106_body, [.tmp 3]⟩

/- jacquard/well.Jumps -/
def c107_0 : List SOper := [o_ 2 (.mov (.const (.bool false)))]
def c107_1 : List SOper := [o_ 5 (.mov (t_ 0)),
  o_ 6 (.lenS (t_ 5)),
  o_ 7 (.mov (k_ 0))]
def c107_2 : List SOper := [o_ 8 (.bin .lss (t_ 7) (t_ 6))]
def c107_3 : List SOper := [o_ 9 (.mov (t_ 7)),
  o_ 10 (.idxS 9 (t_ 5) (t_ 7)),
  o_ 11 (.loadN 9 (t_ 10)),
  o_ 4 (.alloc (zi 9)),
  o_ 3 (.mov (t_ 9)),
  n_ (.storeN 9 (t_ 4) (t_ 11))]
def c107_4 : List SOper := [o_ 12 (.fld 0 (t_ 4)),
  o_ 13 (.load1 (t_ 12)),
  o_ 14 (.bin .eql (t_ 13) (k_ 6)),
  o_ 15 (.mov (t_ 14)),
  g_ 16 15 true (.fld 8 (t_ 4)),
  g_ 17 15 true (.load1 (t_ 16)),
  g_ 18 15 true (.bin .lss (t_ 17) (k_ 1)),
  g_ 19 15 true (.mov (t_ 18)),
  g_ 20 19 false (.fld 8 (t_ 4)),
  g_ 21 19 false (.load1 (t_ 20)),
  g_ 22 19 false (.mov (t_ 0)),
  g_ 23 19 false (.lenS (t_ 22)),
  g_ 24 19 false (.mov (t_ 3)),
  g_ 25 19 false (.bin .sub (t_ 23) (t_ 24)),
  g_ 26 19 false (.bin .sub (t_ 25) (k_ 1)),
  g_ 27 19 false (.bin .gtr (t_ 21) (t_ 26)),
  g_ 28 15 true (.pick (t_ 19) (.const (.bool true)) (t_ 27)),
  o_ 29 (.pick (t_ 15) (t_ 28) (.const (.bool false)))]
def c107_5 : List SOper := [o_ 2 (.mov (.const (.bool false)))]
def c107_6 : List SOper := [o_ 30 (.bin .add (t_ 7) (k_ 1)),
  o_ 7 (.mov (t_ 30))]
def c107_7 : SCode := (.seq (.reg [0, 5, 6, 7, 8] c107_2) (.seq (.cond (t_ 8) .skip (.exit 0)) (.seq (.block 1 (.seq (.reg [0, 3, 4, 5, 6, 7] c107_3) (.seq (.reg [0, 5, 6, 7, 29] c107_4) (.cond (t_ 29) (.seq (.reg [2] c107_5) .ret) .skip)))) (.reg [0, 5, 6, 7] c107_6))))
def c107_8 : List SOper := [o_ 2 (.mov (.const (.bool true)))]
def c107_body : SCode := (.seq (.reg [0] c107_0) (.seq (.seq (.reg [0, 5, 6, 7] c107_1) (.block 0 (.loop [0, 5, 6, 7] c107_7))) (.seq (.reg [2] c107_8) .ret)))
def c107 : SFunc := ⟨1, 31, c107_body, [.tmp 2]⟩

/- slices.ContainsFunc[[]jacquard/api.Ins,jacquard/api.Ins] -/
def c108_0 : List SOper := [o_ 4 (.mov (.const (.bool false)))]
def c108_1 : List SOper := [o_ 5 (.mov (t_ 0)),
  o_ 6 (.mov (t_ 1)),
  o_ 7 (.call 171 [(t_ 5), (t_ 6)]),
  o_ 8 (.bin .geq (t_ 7) (k_ 0)),
  o_ 4 (.mov (t_ 8))]
def c108_body : SCode := (.seq (.reg [0, 1] c108_0) (.seq (.reg [4] c108_1) .ret))
def c108 : SFunc := ⟨2, 9, c108_body, [.tmp 4]⟩

/- jacquard/prog.Ok$2 -/
def c109_0 : List SOper := [o_ 2 (.box (t_ 0)),
  o_ 3 (.mov (.const (.bool false)))]
def c109_1 : List SOper := [o_ 4 (.loadN 9 (t_ 2)),
  o_ 5 (.load1 (t_ 1)),
  o_ 6 (.call 110 [(t_ 4), (t_ 5)]),
  o_ 7 (.un .not (t_ 6)),
  o_ 3 (.mov (t_ 7))]
def c109_body : SCode := (.seq (.reg [1, 2] c109_0) (.seq (.reg [3] c109_1) .ret))
def c109 : SFunc := ⟨2, 8, c109_body, [.tmp 3]⟩

/- jacquard/print.Fields -/
def c110_0 : List SOper := [o_ 2 (.box (t_ 0)),
  o_ 4 (.mov (.const (.bool false)))]
def c110_1 : List SOper := [o_ 7 (.fld 0 (t_ 2)),
  o_ 8 (.load1 (t_ 7)),
  o_ 9 (.build (zi 9) [(0, 1, (t_ 8))]),
  o_ 5 (.alloc (zi 9)),
  n_ (.storeN 9 (t_ 5) (t_ 9))]
def c110_2 : List SOper := [o_ 6 (.mov (.const (.bool true)))]
def c110_3 : List SOper := [o_ 10 (.fld 0 (t_ 2)),
  o_ 11 (.load1 (t_ 10))]
def c110_4 : List SOper := [o_ 13 (.bin .eql (t_ 11) (k_ 1)),
  o_ 12 (.mov (t_ 13))]
def c110_5 : List SOper := [⟨(some 14), .fld 2 (t_ 2), none, [2], 0, [], 0, 0, []⟩,
  ⟨(some 15), .load1 (t_ 14), none, [14], 1, [0], 0, 0, []⟩,
  ⟨(some 16), .fld 3 (t_ 2), none, [2], 2, [], 0, 0, []⟩,
  ⟨(some 17), .loadN 2 (t_ 16), none, [16], 3, [2], 0, 0, []⟩,
  ⟨(some 18), .fld 2 (t_ 5), none, [5], 4, [0, 1], 0, 0, []⟩,
  ⟨(some 19), .fld 3 (t_ 5), none, [5], 6, [0, 1, 2, 3, 4, 5], 0, 0, []⟩]
def c110_5b : List SOper := [⟨none, .store1 (t_ 18) (t_ 15), none, [18, 15], 5, [4, 1, 0, 1], 0, 0, [1]⟩,
  ⟨none, .storeN 2 (t_ 19) (t_ 17), none, [19, 17], 7, [6, 3, 5, 0, 1, 2, 3, 4, 5], 0, 0, [1, 3]⟩]
def c110_6 : List SOper := [o_ 20 (.mov (t_ 1)),
  o_ 21 (.fld 2 (t_ 2)),
  o_ 22 (.load1 (t_ 21)),
  o_ 23 (.callv (t_ 20) [(t_ 22)]),
  o_ 24 (.mov (t_ 23)),
  g_ 25 24 true (.fld 3 (t_ 2)),
  g_ 26 24 true (.loadN 2 (t_ 25)),
  g_ 27 24 true (.call 172 [(t_ 26)]),
  o_ 28 (.pick (t_ 24) (t_ 27) (.const (.bool false))),
  o_ 6 (.mov (t_ 28))]
def c110_7 : List SOper := [o_ 30 (.bin .eql (t_ 11) (k_ 2)),
  o_ 29 (.mov (t_ 30))]
def c110_8 : List SOper := [⟨(some 31), .fld 1 (t_ 2), none, [2], 0, [], 0, 0, []⟩,
  ⟨(some 32), .load1 (t_ 31), none, [31], 1, [0], 0, 0, []⟩,
  ⟨(some 33), .fld 2 (t_ 2), none, [2], 2, [], 0, 0, []⟩,
  ⟨(some 34), .load1 (t_ 33), none, [33], 3, [2], 0, 0, []⟩,
  ⟨(some 35), .fld 1 (t_ 5), none, [5], 4, [0, 1], 0, 0, []⟩,
  ⟨(some 36), .fld 2 (t_ 5), none, [5], 6, [0, 1, 2, 3, 4, 5], 0, 0, []⟩]
def c110_8b : List SOper := [⟨none, .store1 (t_ 35) (t_ 32), none, [35, 32], 5, [4, 1, 0, 1], 0, 0, [1]⟩,
  ⟨none, .store1 (t_ 36) (t_ 34), none, [36, 34], 7, [6, 3, 5, 0, 1, 2, 3, 4, 5], 0, 0, [1, 3]⟩]
def c110_9 : List SOper := [o_ 37 (.mov (t_ 1)),
  o_ 38 (.fld 2 (t_ 2)),
  o_ 39 (.load1 (t_ 38)),
  o_ 40 (.callv (t_ 37) [(t_ 39)]),
  o_ 41 (.mov (t_ 40)),
  g_ 42 41 true (.fld 1 (t_ 2)),
  g_ 43 41 true (.load1 (t_ 42)),
  g_ 44 41 true (.call 173 [(t_ 43)]),
  o_ 45 (.pick (t_ 41) (t_ 44) (.const (.bool false))),
  o_ 6 (.mov (t_ 45))]
def c110_10 : List SOper := [o_ 47 (.bin .eql (t_ 11) (k_ 3)),
  o_ 46 (.mov (t_ 47))]
def c110_11 : List SOper := [o_ 49 (.bin .eql (t_ 11) (k_ 4)),
  o_ 48 (.mov (t_ 49))]
def c110_12 : List SOper := [⟨(some 50), .fld 1 (t_ 2), none, [2], 0, [], 0, 0, []⟩,
  ⟨(some 51), .load1 (t_ 50), none, [50], 1, [0], 0, 0, []⟩,
  ⟨(some 52), .fld 2 (t_ 2), none, [2], 2, [], 0, 0, []⟩,
  ⟨(some 53), .load1 (t_ 52), none, [52], 3, [2], 0, 0, []⟩,
  ⟨(some 54), .fld 3 (t_ 2), none, [2], 4, [], 0, 0, []⟩,
  ⟨(some 55), .loadN 2 (t_ 54), none, [54], 5, [4], 0, 0, []⟩,
  ⟨(some 56), .fld 6 (t_ 2), none, [2], 6, [], 0, 0, []⟩,
  ⟨(some 57), .loadN 2 (t_ 56), none, [56], 7, [6], 0, 0, []⟩,
  ⟨(some 58), .fld 1 (t_ 5), none, [5], 8, [0, 1], 0, 0, []⟩,
  ⟨(some 59), .fld 2 (t_ 5), none, [5], 10, [0, 1, 2, 3, 8, 9], 0, 0, []⟩,
  ⟨(some 60), .fld 3 (t_ 5), none, [5], 12, [0, 1, 2, 3, 4, 5, 8, 9, 10, 11], 0, 0, []⟩,
  ⟨(some 61), .fld 6 (t_ 5), none, [5], 14, [0, 1, 2, 3, 4, 5, 6, 7, 8, 9, 10, 11, 12, 13], 0, 0, []⟩]
def c110_12b : List SOper := [⟨none, .store1 (t_ 58) (t_ 51), none, [58, 51], 9, [8, 1, 0, 1], 0, 0, [1]⟩,
  ⟨none, .store1 (t_ 59) (t_ 53), none, [59, 53], 11, [10, 3, 9, 0, 1, 2, 3, 8, 9], 0, 0, [1, 3]⟩,
  ⟨none, .storeN 2 (t_ 60) (t_ 55), none, [60, 55], 13, [12, 5, 11, 0, 1, 2, 3, 4, 5, 8, 9, 10, 11], 0, 0, [1, 3, 5]⟩,
  ⟨none, .storeN 2 (t_ 61) (t_ 57), none, [61, 57], 15, [14, 7, 13, 0, 1, 2, 3, 4, 5, 6, 7, 8, 9, 10, 11, 12, 13], 0, 0, [1, 3, 5, 7]⟩]
def c110_13 : List SOper := [o_ 62 (.mov (t_ 1)),
  o_ 63 (.fld 2 (t_ 2)),
  o_ 64 (.load1 (t_ 63)),
  o_ 65 (.callv (t_ 62) [(t_ 64)]),
  o_ 66 (.mov (t_ 65)),
  g_ 67 66 true (.fld 1 (t_ 2)),
  g_ 68 66 true (.load1 (t_ 67)),
  g_ 69 66 true (.call 173 [(t_ 68)]),
  o_ 70 (.pick (t_ 66) (t_ 69) (.const (.bool false))),
  o_ 71 (.mov (t_ 70)),
  g_ 72 71 true (.fld 3 (t_ 2)),
  g_ 73 71 true (.loadN 2 (t_ 72)),
  g_ 74 71 true (.call 172 [(t_ 73)]),
  o_ 75 (.pick (t_ 71) (t_ 74) (.const (.bool false))),
  o_ 76 (.mov (t_ 75)),
  g_ 77 76 true (.fld 6 (t_ 2)),
  g_ 78 76 true (.loadN 2 (t_ 77)),
  g_ 79 76 true (.call 172 [(t_ 78)]),
  o_ 80 (.pick (t_ 76) (t_ 79) (.const (.bool false))),
  o_ 6 (.mov (t_ 80))]
def c110_14 : List SOper := [o_ 82 (.bin .eql (t_ 11) (k_ 5)),
  o_ 81 (.mov (t_ 82))]
def c110_15 : List SOper := [⟨(some 83), .fld 1 (t_ 2), none, [2], 0, [], 0, 0, []⟩,
  ⟨(some 84), .load1 (t_ 83), none, [83], 1, [0], 0, 0, []⟩,
  ⟨(some 85), .fld 3 (t_ 2), none, [2], 2, [], 0, 0, []⟩,
  ⟨(some 86), .loadN 2 (t_ 85), none, [85], 3, [2], 0, 0, []⟩,
  ⟨(some 87), .fld 5 (t_ 2), none, [2], 4, [], 0, 0, []⟩,
  ⟨(some 88), .load1 (t_ 87), none, [87], 5, [4], 0, 0, []⟩,
  ⟨(some 89), .fld 6 (t_ 2), none, [2], 6, [], 0, 0, []⟩,
  ⟨(some 90), .loadN 2 (t_ 89), none, [89], 7, [6], 0, 0, []⟩,
  ⟨(some 91), .fld 1 (t_ 5), none, [5], 8, [0, 1], 0, 0, []⟩,
  ⟨(some 92), .fld 3 (t_ 5), none, [5], 10, [0, 1, 2, 3, 8, 9], 0, 0, []⟩,
  ⟨(some 93), .fld 5 (t_ 5), none, [5], 12, [0, 1, 2, 3, 4, 5, 8, 9, 10, 11], 0, 0, []⟩,
  ⟨(some 94), .fld 6 (t_ 5), none, [5], 14, [0, 1, 2, 3, 4, 5, 6, 7, 8, 9, 10, 11, 12, 13], 0, 0, []⟩]
def c110_15b : List SOper := [⟨none, .store1 (t_ 91) (t_ 84), none, [91, 84], 9, [8, 1, 0, 1], 0, 0, [1]⟩,
  ⟨none, .storeN 2 (t_ 92) (t_ 86), none, [92, 86], 11, [10, 3, 9, 0, 1, 2, 3, 8, 9], 0, 0, [1, 3]⟩,
  ⟨none, .store1 (t_ 93) (t_ 88), none, [93, 88], 13, [12, 5, 11, 0, 1, 2, 3, 4, 5, 8, 9, 10, 11], 0, 0, [1, 3, 5]⟩,
  ⟨none, .storeN 2 (t_ 94) (t_ 90), none, [94, 90], 15, [14, 7, 13, 0, 1, 2, 3, 4, 5, 6, 7, 8, 9, 10, 11, 12, 13], 0, 0, [1, 3, 5, 7]⟩]
def c110_16 : List SOper := [o_ 95 (.fld 1 (t_ 2)),
  o_ 96 (.load1 (t_ 95)),
  o_ 97 (.call 173 [(t_ 96)]),
  o_ 98 (.mov (t_ 97)),
  g_ 99 98 true (.fld 3 (t_ 2)),
  g_ 100 98 true (.loadN 2 (t_ 99)),
  g_ 101 98 true (.call 172 [(t_ 100)]),
  o_ 102 (.pick (t_ 98) (t_ 101) (.const (.bool false))),
  o_ 103 (.mov (t_ 102)),
  g_ 104 103 true (.fld 6 (t_ 2)),
  g_ 105 103 true (.loadN 2 (t_ 104)),
  g_ 106 103 true (.call 172 [(t_ 105)]),
  o_ 107 (.pick (t_ 103) (t_ 106) (.const (.bool false))),
  o_ 108 (.mov (t_ 107)),
  g_ 109 108 true (.fld 5 (t_ 2)),
  g_ 110 108 true (.load1 (t_ 109)),
  g_ 111 108 true (.bin .geq (t_ 110) (k_ 0)),
  o_ 112 (.pick (t_ 108) (t_ 111) (.const (.bool false))),
  o_ 113 (.mov (t_ 112)),
  g_ 114 113 true (.fld 5 (t_ 2)),
  g_ 115 113 true (.load1 (t_ 114)),
  g_ 116 113 true (.bin .leq (t_ 115) (k_ 11)),
  o_ 117 (.pick (t_ 113) (t_ 116) (.const (.bool false))),
  o_ 118 (.mov (t_ 117)),
  g_ 119 118 true (.fld 5 (t_ 2)),
  g_ 120 118 true (.load1 (t_ 119)),
  g_ 121 118 true (.bin .gtr (t_ 120) (k_ 0)),
  g_ 122 118 true (.mov (t_ 121)),
  g_ 123 122 false (.fld 6 (t_ 2)),
  g_ 124 122 false (.loadN 2 (t_ 123)),
  g_ 125 122 false (.build [(.int .i64 (0)), (.int .i64 (0))] [(0, 1, (k_ (-1)))]),
  g_ 126 122 false (.eqN false [0, 0] (t_ 124) (t_ 125)),
  g_ 127 118 true (.pick (t_ 122) (.const (.bool true)) (t_ 126)),
  o_ 128 (.pick (t_ 118) (t_ 127) (.const (.bool false))),
  o_ 6 (.mov (t_ 128))]
def c110_17 : List SOper := [o_ 130 (.bin .eql (t_ 11) (k_ 6)),
  o_ 129 (.mov (t_ 130))]
def c110_18 : List SOper := [⟨(some 131), .fld 8 (t_ 2), none, [2], 0, [], 0, 0, []⟩,
  ⟨(some 132), .load1 (t_ 131), none, [131], 1, [0], 0, 0, []⟩,
  ⟨(some 133), .fld 3 (t_ 2), none, [2], 2, [], 0, 0, []⟩,
  ⟨(some 134), .loadN 2 (t_ 133), none, [133], 3, [2], 0, 0, []⟩,
  ⟨(some 135), .fld 6 (t_ 2), none, [2], 4, [], 0, 0, []⟩,
  ⟨(some 136), .loadN 2 (t_ 135), none, [135], 5, [4], 0, 0, []⟩,
  ⟨(some 137), .fld 8 (t_ 5), none, [5], 6, [0, 1], 0, 0, []⟩,
  ⟨(some 138), .fld 3 (t_ 5), none, [5], 8, [0, 1, 2, 3, 6, 7], 0, 0, []⟩,
  ⟨(some 139), .fld 6 (t_ 5), none, [5], 10, [0, 1, 2, 3, 4, 5, 6, 7, 8, 9], 0, 0, []⟩]
def c110_18b : List SOper := [⟨none, .store1 (t_ 137) (t_ 132), none, [137, 132], 7, [6, 1, 0, 1], 0, 0, [1]⟩,
  ⟨none, .storeN 2 (t_ 138) (t_ 134), none, [138, 134], 9, [8, 3, 7, 0, 1, 2, 3, 6, 7], 0, 0, [1, 3]⟩,
  ⟨none, .storeN 2 (t_ 139) (t_ 136), none, [139, 136], 11, [10, 5, 9, 0, 1, 2, 3, 4, 5, 6, 7, 8, 9], 0, 0, [1, 3, 5]⟩]
def c110_19 : List SOper := [o_ 140 (.fld 8 (t_ 2)),
  o_ 141 (.load1 (t_ 140)),
  o_ 142 (.bin .geq (t_ 141) (k_ 0)),
  o_ 143 (.mov (t_ 142)),
  g_ 144 143 true (.fld 3 (t_ 2)),
  g_ 145 143 true (.loadN 2 (t_ 144)),
  g_ 146 143 true (.call 172 [(t_ 145)]),
  o_ 147 (.pick (t_ 143) (t_ 146) (.const (.bool false))),
  o_ 148 (.mov (t_ 147)),
  g_ 149 148 true (.fld 6 (t_ 2)),
  g_ 150 148 true (.loadN 2 (t_ 149)),
  g_ 151 148 true (.call 172 [(t_ 150)]),
  o_ 152 (.pick (t_ 148) (t_ 151) (.const (.bool false))),
  o_ 6 (.mov (t_ 152))]
def c110_20 : List SOper := [o_ 4 (.mov (.const (.bool false)))]
def c110_21 : List SOper := [o_ 153 (.mov (t_ 6)),
  o_ 154 (.mov (t_ 153)),
  g_ 155 154 true (.loadN 9 (t_ 2)),
  g_ 156 154 true (.loadN 9 (t_ 5)),
  g_ 157 154 true (.eqN false (zk 9) (t_ 155) (t_ 156)),
  o_ 158 (.pick (t_ 154) (t_ 157) (.const (.bool false))),
  o_ 4 (.mov (t_ 158))]
def c110_body : SCode := (.seq (.reg [1, 2] c110_0) (.seq (.reg [1, 2, 5] c110_1) (.seq (.reg [1, 2, 5, 6] c110_2) (.seq (.seq (.reg [1, 2, 5, 6, 11] c110_3) (.block 0 (.seq (.reg [1, 2, 5, 6, 11, 12] c110_4) (.cond (t_ 12) (.seq (.dreg [1, 2, 5] c110_5 c110_5b) (.reg [2, 5, 6] c110_6)) (.seq (.reg [1, 2, 5, 6, 11, 29] c110_7) (.cond (t_ 29) (.seq (.dreg [1, 2, 5] c110_8 c110_8b) (.reg [2, 5, 6] c110_9)) (.seq (.reg [1, 2, 5, 6, 11, 46] c110_10) (.cond (t_ 46) .skip (.seq (.reg [1, 2, 5, 11, 48] c110_11) (.cond (t_ 48) (.seq (.dreg [1, 2, 5] c110_12 c110_12b) (.reg [2, 5, 6] c110_13)) (.seq (.reg [2, 5, 11, 81] c110_14) (.cond (t_ 81) (.seq (.dreg [2, 5] c110_15 c110_15b) (.reg [2, 5, 6] c110_16)) (.seq (.reg [2, 5, 129] c110_17) (.cond (t_ 129) (.seq (.dreg [2, 5] c110_18 c110_18b) (.reg [2, 5, 6] c110_19)) (.seq (.reg [4] c110_20) .ret))))))))))))))) (.seq (.reg [4] c110_21) .ret)))))
def c110 : SFunc := ⟨2, 159, c110_body, [.tmp 4]⟩

/- slices.Clone[[]byte,byte] -/
def c208_0 : List SOper := [o_ 2 (.mov (.const (.slice none 0 0)))]
def c208_1 : List SOper := [o_ 3 (.mov (t_ 0)),
  o_ 4 (.isnil 1 false (t_ 3))]
def c208_2 : List SOper := [o_ 2 (.mov (.const (.slice none 0 0)))]
def c208_3 : List SOper := [o_ 5 (.mkslice 0 [] []),
  o_ 6 (.mov (t_ 0)),
  o_ 7 (.append 1 1 (t_ 5) (t_ 6)),
  o_ 2 (.mov (t_ 7))]
def c208_body : SCode := (.seq (.reg [0] c208_0) (.seq (.seq (.reg [0, 4] c208_1) (.cond (t_ 4) (.seq (.reg [2] c208_2) .ret) .skip)) (.seq (.reg [2] c208_3) .ret)))
def c208 : SFunc := ⟨1, 8, c208_body, [.tmp 2]⟩

/- slices.Clone[[]int64,int64] -/
def c209_0 : List SOper := [o_ 2 (.mov (.const (.slice none 0 0)))]
def c209_1 : List SOper := [o_ 3 (.mov (t_ 0)),
  o_ 4 (.isnil 1 false (t_ 3))]
def c209_2 : List SOper := [o_ 2 (.mov (.const (.slice none 0 0)))]
def c209_3 : List SOper := [o_ 5 (.mkslice 0 [] []),
  o_ 6 (.mov (t_ 0)),
  o_ 7 (.append 1 8 (t_ 5) (t_ 6)),
  o_ 2 (.mov (t_ 7))]
def c209_body : SCode := (.seq (.reg [0] c209_0) (.seq (.seq (.reg [0, 4] c209_1) (.cond (t_ 4) (.seq (.reg [2] c209_2) .ret) .skip)) (.seq (.reg [2] c209_3) .ret)))
def c209 : SFunc := ⟨1, 8, c209_body, [.tmp 2]⟩

/- slices.Clone[[]jacquard/api.Ins,jacquard/api.Ins] -/
def c210_0 : List SOper := [o_ 2 (.mov (.const (.slice none 0 0)))]
def c210_1 : List SOper := [o_ 3 (.mov (t_ 0)),
  o_ 4 (.isnil 1 false (t_ 3))]
def c210_2 : List SOper := [o_ 2 (.mov (.const (.slice none 0 0)))]
def c210_3 : List SOper := [o_ 5 (.mkslice 0 [] []),
  o_ 6 (.mov (t_ 0)),
  o_ 7 (.append 9 72 (t_ 5) (t_ 6)),
  o_ 2 (.mov (t_ 7))]
def c210_body : SCode := (.seq (.reg [0] c210_0) (.seq (.seq (.reg [0, 4] c210_1) (.cond (t_ 4) (.seq (.reg [2] c210_2) .ret) .skip)) (.seq (.reg [2] c210_3) .ret)))
def c210 : SFunc := ⟨1, 8, c210_body, [.tmp 2]⟩

/- jacquard/prog.normal -/
def c111_0 : List SOper := [o_ 3 (.box (t_ 1)),
  o_ 4 (.alloc (zi 5))]
def c111_1 : List SOper := [o_ 10 (.fld 0 (t_ 3)),
  o_ 11 (.load1 (t_ 10)),
  o_ 12 (.bin .geq (t_ 11) (k_ 0)),
  o_ 13 (.mov (t_ 12)),
  g_ 14 13 true (.fld 0 (t_ 3)),
  g_ 15 13 true (.load1 (t_ 14)),
  g_ 16 13 true (.mov (t_ 0)),
  g_ 17 13 true (.lenS (t_ 16)),
  g_ 18 13 true (.bin .lss (t_ 15) (t_ 17)),
  o_ 19 (.pick (t_ 13) (t_ 18) (.const (.bool false)))]
def c111_2 : List SOper := [o_ 20 (.mov (t_ 0)),
  o_ 21 (.fld 0 (t_ 3)),
  o_ 22 (.load1 (t_ 21)),
  o_ 23 (.idxS 9 (t_ 20) (t_ 22)),
  o_ 24 (.loadN 9 (t_ 23)),
  o_ 5 (.alloc (zi 9)),
  n_ (.storeN 9 (t_ 5) (t_ 24))]
def c111_3 : List SOper := [⟨(some 25), .fld 3 (t_ 5), none, [5], 0, [], 0, 0, []⟩,
  ⟨(some 26), .loadN 2 (t_ 25), none, [25], 1, [0], 0, 0, []⟩,
  ⟨(some 27), .loadN 5 (t_ 3), none, [3], 2, [], 0, 0, []⟩,
  ⟨(some 29), .fld 6 (t_ 5), none, [5], 4, [], 0, 0, []⟩,
  ⟨(some 30), .loadN 2 (t_ 29), none, [29], 5, [4], 0, 1, []⟩,
  ⟨(some 31), .loadN 5 (t_ 3), none, [3], 6, [], 0, 1, []⟩,
  ⟨(some 28), .call 174 [(t_ 26), (t_ 27)], none, [26, 27], 3, [1, 2], 0, 0, []⟩,
  ⟨(some 32), .call 174 [(t_ 30), (t_ 31)], none, [30, 31], 7, [5, 6, 3], 0, 0, []⟩,
  ⟨(some 6), .mov (t_ 28), none, [28], 8, [3, 7, 0, 1, 2, 3], 0, 0, []⟩,
  ⟨(some 7), .mov (t_ 32), none, [32], 9, [7, 8, 0, 1, 2, 3, 4, 5, 6, 7, 8], 0, 0, []⟩]
def c111_3b : List SOper := []
def c111_4 : List SOper := [o_ 33 (.fld 0 (t_ 5)),
  o_ 34 (.load1 (t_ 33))]
def c111_5 : List SOper := [o_ 37 (.bin .eql (t_ 34) (k_ 5)),
  o_ 36 (.mov (t_ 37))]
def c111_6 : List SOper := [o_ 39 (.fld 5 (t_ 5)),
  o_ 40 (.load1 (t_ 39)),
  o_ 41 (.mov (t_ 6)),
  o_ 42 (.mov (t_ 7)),
  o_ 43 (.call 175 [(t_ 40), (t_ 41), (t_ 42)]),
  o_ 38 (.mov (t_ 43)),
  o_ 44 (.extr (t_ 38) 0),
  o_ 45 (.extr (t_ 38) 1),
  o_ 8 (.mov (t_ 44)),
  o_ 9 (.mov (t_ 45))]
def c111_7 : List SOper := [o_ 46 (.mov (t_ 9))]
def c111_8 : List SOper := [o_ 47 (.mov (t_ 8)),
  o_ 6 (.mov (t_ 47))]
def c111_9 : List SOper := [o_ 48 (.fld 1 (t_ 5)),
  o_ 49 (.load1 (t_ 48)),
  o_ 50 (.mov (t_ 6)),
  o_ 51 (.call 176 [(t_ 3), (t_ 49), (t_ 50)])]
def c111_10 : List SOper := [o_ 53 (.bin .eql (t_ 34) (k_ 6)),
  o_ 52 (.mov (t_ 53))]
def c111_11 : List SOper := [o_ 54 (.mov (t_ 6)),
  o_ 55 (.mov (t_ 7)),
  o_ 56 (.bin .eql (t_ 54) (t_ 55))]
def c111_12 : List SOper := [o_ 57 (.fld 0 (t_ 3)),
  o_ 58 (.load1 (t_ 57)),
  o_ 59 (.fld 8 (t_ 5)),
  o_ 60 (.load1 (t_ 59)),
  o_ 61 (.mm true [(t_ 60), (k_ 0)]),
  o_ 62 (.mov (t_ 0)),
  o_ 63 (.lenS (t_ 62)),
  o_ 64 (.mm false [(t_ 61), (t_ 63)]),
  o_ 65 (.bin .add (t_ 58) (t_ 64)),
  o_ 66 (.fld 0 (t_ 3)),
  n_ (.store1 (t_ 66) (t_ 65))]
def c111_13 : List SOper := [o_ 35 (.loadN 5 (t_ 3)),
  n_ (.storeN 5 (t_ 4) (t_ 35))]
def c111_14 : List SOper := [o_ 67 (.fld 0 (t_ 3)),
  o_ 68 (.load1 (t_ 67)),
  o_ 69 (.bin .add (t_ 68) (k_ 1)),
  o_ 70 (.fld 0 (t_ 3)),
  n_ (.store1 (t_ 70) (t_ 69))]
def c111_15 : SCode := (.seq (.seq (.reg [0, 3, 4, 19] c111_1) (.cond (t_ 19) .skip (.exit 0))) (.block 1 (.seq (.reg [0, 3, 4, 5] c111_2) (.seq (.dreg [0, 3, 4, 5, 6, 7] c111_3 c111_3b) (.seq (.seq (.reg [0, 3, 4, 5, 6, 7, 34] c111_4) (.block 2 (.seq (.reg [0, 3, 4, 5, 6, 7, 34, 36] c111_5) (.cond (t_ 36) (.seq (.seq (.reg [0, 3, 4, 5, 6, 8, 9] c111_6) (.seq (.reg [0, 3, 4, 5, 6, 8, 46] c111_7) (.cond (t_ 46) (.reg [0, 3, 4, 5, 6] c111_8) .skip))) (.reg [0, 3, 4] c111_9)) (.seq (.reg [0, 3, 4, 5, 6, 7, 52] c111_10) (.cond (t_ 52) (.seq (.reg [0, 3, 4, 5, 56] c111_11) (.cond (t_ 56) (.reg [0, 3, 4] c111_12) .skip)) (.seq (.reg [4] c111_13) .ret))))))) (.reg [0, 3, 4] c111_14))))))
def c111_16 : List SOper := [o_ 71 (.loadN 5 (t_ 3)),
  n_ (.storeN 5 (t_ 4) (t_ 71))]
def c111_body : SCode := (.seq (.reg [0, 3, 4] c111_0) (.seq (.block 0 (.loop [0, 3, 4] c111_15)) (.seq (.reg [4] c111_16) .ret)))
def c111 : SFunc := ⟨2, 72, c111_body, [.cellN 4 5]⟩

/- jacquard/prog.thread -/
def c112_0 : List SOper := [o_ 2 (.box (t_ 0)),
  o_ 4 (.mov (.const (.slice none 0 0)))]
def c112_1 : List SOper := [o_ 5 (.mov (t_ 1)),
  o_ 6 (.bin .lss (t_ 5) (k_ 0)),
  o_ 7 (.mov (t_ 6)),
  g_ 8 7 false (.mov (t_ 1)),
  g_ 9 7 false (.fld 2 (t_ 2)),
  g_ 10 7 false (.load1 (t_ 9)),
  g_ 11 7 false (.lenS (t_ 10)),
  g_ 12 7 false (.bin .geq (t_ 8) (t_ 11)),
  o_ 13 (.pick (t_ 7) (.const (.bool true)) (t_ 12))]
def c112_2 : List SOper := [o_ 4 (.mov (.const (.slice none 0 0)))]
def c112_3 : List SOper := [o_ 14 (.fld 2 (t_ 2)),
  o_ 15 (.load1 (t_ 14)),
  o_ 16 (.mov (t_ 1)),
  o_ 17 (.idxS 1 (t_ 15) (t_ 16)),
  o_ 18 (.load1 (t_ 17)),
  o_ 4 (.mov (t_ 18))]
def c112_body : SCode := (.seq (.reg [1, 2] c112_0) (.seq (.seq (.reg [1, 2, 13] c112_1) (.cond (t_ 13) (.seq (.reg [4] c112_2) .ret) .skip)) (.seq (.reg [4] c112_3) .ret)))
def c112 : SFunc := ⟨2, 19, c112_body, [.tmp 4]⟩

/- (jacquard/buf.Buf).Newest -/
def c14_0 : List SOper := [o_ 2 (.box (t_ 0)),
  o_ 4 (.mov (k_ 0)),
  o_ 5 (.mov (k_ 0)),
  o_ 6 (.mov (.const (.bool false)))]
def c14_1 : List SOper := [o_ 8 (.fld 1 (t_ 2)),
  o_ 9 (.load1 (t_ 8)),
  o_ 10 (.bin .sub (t_ 9) (k_ 1)),
  o_ 7 (.mov (t_ 10))]
def c14_2 : List SOper := [o_ 11 (.mov (t_ 7)),
  o_ 12 (.bin .geq (t_ 11) (k_ 0))]
def c14_3 : List SOper := [o_ 15 (.mov (t_ 7)),
  o_ 16 (.fld 2 (t_ 2)),
  o_ 17 (.idxA 24 3 (t_ 16) (t_ 15)),
  o_ 18 (.fld 0 (t_ 17)),
  o_ 19 (.load1 (t_ 18)),
  o_ 20 (.mov (t_ 1)),
  o_ 21 (.bin .eql (t_ 19) (t_ 20))]
def c14_4 : List SOper := [⟨(some 22), .mov (t_ 7), none, [7], 0, [], 0, 0, []⟩,
  ⟨(some 23), .fld 2 (t_ 2), none, [2], 1, [], 0, 0, []⟩,
  ⟨(some 24), .idxA 24 3 (t_ 23) (t_ 22), none, [23, 22], 2, [1, 0], 0, 0, []⟩,
  ⟨(some 25), .fld 1 (t_ 24), none, [24], 3, [2], 0, 0, []⟩,
  ⟨(some 26), .load1 (t_ 25), none, [25], 4, [3], 0, 0, []⟩,
  ⟨(some 27), .mov (t_ 7), none, [7], 5, [], 0, 0, []⟩,
  ⟨(some 28), .fld 2 (t_ 2), none, [2], 6, [], 0, 0, []⟩,
  ⟨(some 29), .idxA 24 3 (t_ 28) (t_ 27), none, [28, 27], 7, [6, 5], 0, 0, []⟩,
  ⟨(some 30), .fld 2 (t_ 29), none, [29], 8, [7], 0, 0, []⟩,
  ⟨(some 31), .load1 (t_ 30), none, [30], 9, [8], 0, 0, []⟩,
  ⟨(some 4), .mov (t_ 26), none, [26], 10, [4, 0, 1, 2, 3, 4], 0, 0, []⟩,
  ⟨(some 5), .mov (t_ 31), none, [31], 11, [9, 10, 0, 1, 2, 3, 4, 5, 6, 7, 8, 9, 10], 0, 0, []⟩,
  ⟨(some 6), .mov (.const (.bool true)), none, [], 12, [11, 0, 1, 2, 3, 4, 5, 6, 7, 8, 9, 10, 11], 0, 0, []⟩]
def c14_5 : List SOper := [o_ 13 (.mov (t_ 7)),
  o_ 14 (.bin .sub (t_ 13) (k_ 1)),
  o_ 7 (.mov (t_ 14))]
def c14_6 : SCode := (.seq (.seq (.reg [1, 2, 7, 12] c14_2) (.cond (t_ 12) .skip (.exit 0))) (.seq (.block 1 (.seq (.reg [1, 2, 7, 21] c14_3) (.cond (t_ 21) (.seq (.qreg [4, 5, 6] c14_4) .ret) .skip))) (.reg [1, 2, 7] c14_5)))
def c14_7 : List SOper := [o_ 4 (.mov (k_ 0)),
  o_ 5 (.mov (k_ 0)),
  o_ 6 (.mov (.const (.bool false)))]
def c14_body : SCode := (.seq (.reg [1, 2] c14_0) (.seq (.seq (.reg [1, 2, 7] c14_1) (.block 0 (.loop [1, 2, 7] c14_6))) (.seq (.reg [4, 5, 6] c14_7) .ret)))
def c14 : SFunc := ⟨2, 32, c14_body, [.tmp 4, .tmp 5, .tmp 6]⟩

/- jacquard/event.Of -/
def c114_0 : List SOper := [o_ 3 (.box (t_ 0)),
  o_ 4 (.box (t_ 1)),
  o_ 6 (.alloc (zi 6)),
  o_ 7 (.mov (.const (.bool false)))]
def c114_1 : List SOper := [o_ 8 (.fld 0 (t_ 3)),
  o_ 9 (.load1 (t_ 8))]
def c114_2 : List SOper := [o_ 11 (.bin .eql (t_ 9) (k_ 1)),
  o_ 10 (.mov (t_ 11))]
def c114_3 : List SOper := [⟨(some 12), .fld 2 (t_ 3), none, [3], 0, [], 0, 0, []⟩,
  ⟨(some 13), .load1 (t_ 12), none, [12], 1, [0], 0, 1, []⟩,
  ⟨(some 14), .fld 3 (t_ 3), none, [3], 2, [], 0, 0, []⟩,
  ⟨(some 15), .loadN 2 (t_ 14), none, [14], 3, [2], 0, 0, []⟩,
  ⟨(some 16), .loadN 5 (t_ 4), none, [4], 4, [], 0, 0, []⟩,
  ⟨(some 17), .call 174 [(t_ 15), (t_ 16)], none, [15, 16], 5, [3, 4], 0, 0, []⟩,
  ⟨(some 18), .build (zi 6) [(2, 1, (k_ 2)), (3, 1, (t_ 13)), (5, 1, (t_ 17))], none, [13, 17], 6, [1, 5], 0, 0, []⟩,
  ⟨(some 7), .mov (.const (.bool false)), none, [], 8, [7, 0, 1, 2, 3, 4, 5, 6, 7], 0, 0, []⟩]
def c114_3b : List SOper := [⟨none, .storeN 6 (t_ 6) (t_ 18), none, [6, 18], 7, [6, 5, 0, 1, 2, 3, 4, 5, 6], 0, 0, [1, 3, 4]⟩]
def c114_4 : List SOper := [o_ 20 (.bin .eql (t_ 9) (k_ 2)),
  o_ 19 (.mov (t_ 20))]
def c114_5 : List SOper := [o_ 21 (.fld 2 (t_ 3)),
  o_ 22 (.load1 (t_ 21)),
  o_ 23 (.mov (t_ 2)),
  o_ 24 (.build (zi 6) [(2, 1, (k_ 1)), (3, 1, (t_ 22)), (4, 1, (t_ 23))]),
  n_ (.storeN 6 (t_ 6) (t_ 24)),
  o_ 7 (.mov (.const (.bool true)))]
def c114_6 : List SOper := [o_ 26 (.bin .eql (t_ 9) (k_ 4)),
  o_ 25 (.mov (t_ 26))]
def c114_7 : List SOper := [o_ 27 (.fld 3 (t_ 3)),
  o_ 28 (.loadN 2 (t_ 27)),
  o_ 29 (.loadN 5 (t_ 4)),
  o_ 30 (.call 174 [(t_ 28), (t_ 29)]),
  o_ 31 (.mov (t_ 2)),
  o_ 32 (.bin .eql (t_ 30) (t_ 31))]
def c114_8 : List SOper := [⟨(some 33), .fld 2 (t_ 3), none, [3], 0, [], 0, 0, []⟩,
  ⟨(some 34), .load1 (t_ 33), none, [33], 1, [0], 0, 1, []⟩,
  ⟨(some 35), .mov (t_ 2), none, [2], 2, [], 0, 0, []⟩,
  ⟨(some 36), .fld 6 (t_ 3), none, [3], 3, [], 0, 0, []⟩,
  ⟨(some 37), .loadN 2 (t_ 36), none, [36], 4, [3], 0, 0, []⟩,
  ⟨(some 38), .loadN 5 (t_ 4), none, [4], 5, [], 0, 0, []⟩,
  ⟨(some 39), .call 174 [(t_ 37), (t_ 38)], none, [37, 38], 6, [4, 5], 0, 0, []⟩,
  ⟨(some 40), .build (zi 6) [(2, 1, (k_ 4)), (3, 1, (t_ 34)), (4, 1, (t_ 35)), (5, 1, (t_ 39))], none, [34, 35, 39], 7, [1, 2, 6], 0, 0, []⟩,
  ⟨(some 7), .mov (.const (.bool true)), none, [], 9, [8, 0, 1, 2, 3, 4, 5, 6, 7, 8], 0, 0, []⟩]
def c114_8b : List SOper := [⟨none, .storeN 6 (t_ 6) (t_ 40), none, [6, 40], 8, [7, 6, 0, 1, 2, 3, 4, 5, 6, 7], 0, 0, [1, 4, 5]⟩]
def c114_9 : List SOper := [o_ 41 (.fld 2 (t_ 3)),
  o_ 42 (.load1 (t_ 41)),
  o_ 43 (.mov (t_ 2)),
  o_ 44 (.build (zi 6) [(2, 1, (k_ 5)), (3, 1, (t_ 42)), (4, 1, (t_ 43))]),
  n_ (.storeN 6 (t_ 6) (t_ 44)),
  o_ 7 (.mov (.const (.bool true)))]
def c114_10 : List SOper := [o_ 45 (.build (zi 6) [(2, 1, (k_ 3))]),
  n_ (.storeN 6 (t_ 6) (t_ 45)),
  o_ 7 (.mov (.const (.bool false)))]
def c114_body : SCode := (.seq (.reg [2, 3, 4, 6] c114_0) (.seq (.seq (.reg [2, 3, 4, 6, 9] c114_1) (.block 0 (.seq (.reg [2, 3, 4, 6, 9, 10] c114_2) (.cond (t_ 10) (.seq (.dreg [6, 7] c114_3 c114_3b) .ret) (.seq (.reg [2, 3, 4, 6, 9, 19] c114_4) (.cond (t_ 19) (.seq (.reg [6, 7] c114_5) .ret) (.seq (.reg [2, 3, 4, 6, 25] c114_6) (.cond (t_ 25) (.seq (.seq (.reg [2, 3, 4, 6, 32] c114_7) (.cond (t_ 32) (.seq (.dreg [6, 7] c114_8 c114_8b) .ret) .skip)) (.seq (.reg [6, 7] c114_9) .ret)) .skip)))))))) (.seq (.reg [6, 7] c114_10) .ret)))
def c114 : SFunc := ⟨3, 46, c114_body, [.cellN 6 6, .tmp 7]⟩

/- (jacquard/buf.Buf).Put -/
def c5_0 : List SOper := [o_ 4 (.box (t_ 0)),
  o_ 8 (.alloc (zi 74))]
def c5_1 : List SOper := [o_ 9 (.fld 0 (t_ 4)),
  o_ 10 (.load1 (t_ 9)),
  o_ 11 (.bin .eql (t_ 10) (k_ 0)),
  o_ 12 (.mov (t_ 11)),
  g_ 13 12 false (.mov (t_ 1)),
  g_ 14 12 false (.bin .lss (t_ 13) (k_ 0)),
  o_ 15 (.pick (t_ 12) (.const (.bool true)) (t_ 14)),
  o_ 16 (.mov (t_ 15)),
  g_ 17 16 false (.mov (t_ 1)),
  g_ 18 16 false (.bin .geq (t_ 17) (k_ 4)),
  o_ 19 (.pick (t_ 16) (.const (.bool true)) (t_ 18)),
  o_ 20 (.mov (t_ 19)),
  g_ 21 20 false (.fld 1 (t_ 4)),
  g_ 22 20 false (.load1 (t_ 21)),
  g_ 23 20 false (.bin .geq (t_ 22) (k_ 24)),
  o_ 24 (.pick (t_ 20) (.const (.bool true)) (t_ 23))]
def c5_2 : List SOper := [o_ 25 (.loadN 74 (t_ 4)),
  n_ (.storeN 74 (t_ 8) (t_ 25))]
def c5_3 : List SOper := [o_ 26 (.fld 1 (t_ 4)),
  o_ 27 (.load1 (t_ 26)),
  o_ 28 (.mov (t_ 1)),
  o_ 29 (.mov (t_ 2)),
  o_ 30 (.mov (t_ 3)),
  o_ 31 (.build [(.int .i64 (0)), (.int .i64 (0)), (.int .i64 (0))] [(0, 1, (t_ 28)), (1, 1, (t_ 29)), (2, 1, (t_ 30))]),
  o_ 32 (.fld 2 (t_ 4)),
  o_ 33 (.idxA 24 3 (t_ 32) (t_ 27)),
  n_ (.storeN 3 (t_ 33) (t_ 31))]
def c5_4 : List SOper := [o_ 34 (.fld 1 (t_ 4)),
  o_ 35 (.load1 (t_ 34)),
  o_ 36 (.bin .add (t_ 35) (k_ 1)),
  o_ 37 (.fld 1 (t_ 4)),
  n_ (.store1 (t_ 37) (t_ 36))]
def c5_5 : List SOper := [o_ 38 (.loadN 74 (t_ 4)),
  n_ (.storeN 74 (t_ 8) (t_ 38))]
def c5_body : SCode := (.seq (.reg [1, 2, 3, 4, 8] c5_0) (.seq (.seq (.reg [1, 2, 3, 4, 8, 24] c5_1) (.cond (t_ 24) (.seq (.reg [8] c5_2) .ret) .skip)) (.seq (.reg [4, 8] c5_3) (.seq (.reg [4, 8] c5_4) (.seq (.reg [8] c5_5) .ret)))))
def c5 : SFunc := ⟨4, 39, c5_body, [.cellN 8 74]⟩

/- jacquard/event.Writes -/
def c101_0 : List SOper := [o_ 1 (.box (t_ 0)),
  o_ 2 (.mov (.const (.bool false)))]
def c101_1 : List SOper := [o_ 3 (.fld 2 (t_ 1)),
  o_ 4 (.load1 (t_ 3)),
  o_ 5 (.bin .eql (t_ 4) (k_ 2)),
  o_ 6 (.mov (t_ 5)),
  g_ 7 6 false (.fld 2 (t_ 1)),
  g_ 8 6 false (.load1 (t_ 7)),
  g_ 9 6 false (.bin .eql (t_ 8) (k_ 4)),
  o_ 10 (.pick (t_ 6) (.const (.bool true)) (t_ 9)),
  o_ 2 (.mov (t_ 10))]
def c101_body : SCode := (.seq (.reg [1] c101_0) (.seq (.reg [2] c101_1) .ret))
def c101 : SFunc := ⟨1, 11, c101_body, [.tmp 2]⟩

/- jacquard/prog.After -/
def c116_0 : List SOper := [o_ 4 (.box (t_ 0)),
  o_ 6 (.box (t_ 2)),
  o_ 8 (.alloc (zi 5))]
def c116_1 : List SOper := [o_ 12 (.loadN 3 (t_ 4)),
  o_ 13 (.mov (t_ 1)),
  o_ 14 (.loadN 5 (t_ 6)),
  o_ 15 (.call 113 [(t_ 12), (t_ 13), (t_ 14)]),
  o_ 11 (.mov (t_ 15)),
  o_ 16 (.extr (t_ 11) 0),
  o_ 17 (.extr (t_ 11) 1),
  o_ 9 (.alloc (zi 9)),
  n_ (.storeN 9 (t_ 9) (t_ 16)),
  o_ 10 (.mov (t_ 17))]
def c116_2 : List SOper := [o_ 18 (.mov (t_ 10)),
  o_ 19 (.un .not (t_ 18))]
def c116_3 : List SOper := [o_ 20 (.loadN 5 (t_ 6)),
  n_ (.storeN 5 (t_ 8) (t_ 20))]
def c116_4 : List SOper := [o_ 21 (.fld 0 (t_ 9)),
  o_ 22 (.load1 (t_ 21)),
  o_ 23 (.bin .eql (t_ 22) (k_ 2)),
  o_ 24 (.mov (t_ 23)),
  g_ 25 24 false (.fld 0 (t_ 9)),
  g_ 26 24 false (.load1 (t_ 25)),
  g_ 27 24 false (.bin .eql (t_ 26) (k_ 4)),
  o_ 28 (.pick (t_ 24) (.const (.bool true)) (t_ 27))]
def c116_5 : List SOper := [o_ 29 (.fld 1 (t_ 9)),
  o_ 30 (.load1 (t_ 29)),
  o_ 31 (.mov (t_ 3)),
  o_ 32 (.call 176 [(t_ 6), (t_ 30), (t_ 31)])]
def c116_6 : List SOper := [o_ 33 (.fld 0 (t_ 6)),
  o_ 34 (.load1 (t_ 33)),
  o_ 35 (.bin .add (t_ 34) (k_ 1)),
  o_ 36 (.fld 0 (t_ 6)),
  n_ (.store1 (t_ 36) (t_ 35))]
def c116_7 : List SOper := [⟨(some 37), .loadN 3 (t_ 4), none, [4], 0, [], 0, 0, []⟩,
  ⟨(some 38), .mov (t_ 1), none, [1], 1, [], 0, 0, []⟩,
  ⟨(some 40), .loadN 5 (t_ 6), none, [6], 3, [], 0, 1, []⟩,
  ⟨(some 39), .call 112 [(t_ 37), (t_ 38)], none, [37, 38], 2, [0, 1], 0, 0, []⟩,
  ⟨(some 41), .call 111 [(t_ 39), (t_ 40)], none, [39, 40], 4, [2, 3, 2], 0, 0, []⟩]
def c116_7b : List SOper := [⟨none, .storeN 5 (t_ 8) (t_ 41), none, [8, 41], 5, [4, 4, 0, 1, 2, 3, 4], 0, 0, [0, 3]⟩]
def c116_body : SCode := (.seq (.reg [1, 3, 4, 6, 8] c116_0) (.seq (.reg [1, 3, 4, 6, 8, 9, 10] c116_1) (.seq (.seq (.reg [1, 3, 4, 6, 8, 9, 19] c116_2) (.cond (t_ 19) (.seq (.reg [8] c116_3) .ret) .skip)) (.seq (.seq (.reg [1, 3, 4, 6, 8, 9, 28] c116_4) (.cond (t_ 28) (.reg [1, 4, 6, 8] c116_5) .skip)) (.seq (.reg [1, 4, 6, 8] c116_6) (.seq (.dreg [8] c116_7 c116_7b) .ret))))))
def c116 : SFunc := ⟨4, 42, c116_body, [.cellN 8 5]⟩

/- (jacquard/buf.Buf).Drop -/
def c10_0 : List SOper := [o_ 2 (.box (t_ 0)),
  o_ 4 (.alloc (zi 74))]
def c10_1 : List SOper := [o_ 6 (.loadN 74 (t_ 2)),
  o_ 7 (.mov (t_ 1)),
  o_ 8 (.call 15 [(t_ 6), (t_ 7)]),
  o_ 5 (.mov (t_ 8))]
def c10_2 : List SOper := [o_ 9 (.mov (t_ 5)),
  o_ 10 (.bin .lss (t_ 9) (k_ 0))]
def c10_3 : List SOper := [o_ 11 (.loadN 74 (t_ 2)),
  n_ (.storeN 74 (t_ 4) (t_ 11))]
def c10_4 : List SOper := [⟨(some 12), .fld 2 (t_ 2), none, [2], 0, [], 0, 0, []⟩,
  ⟨(some 13), .mov (t_ 5), none, [5], 1, [], 0, 0, []⟩,
  ⟨(some 14), .slarr 24 3 (t_ 12) (some (t_ 13)) none none, none, [12, 13], 2, [0, 1], 0, 0, []⟩,
  ⟨(some 15), .fld 2 (t_ 2), none, [2], 3, [], 0, 0, []⟩,
  ⟨(some 16), .mov (t_ 5), none, [5], 4, [], 0, 0, []⟩,
  ⟨(some 17), .bin .add (t_ 16) (k_ 1), none, [16], 5, [4], 0, 0, []⟩,
  ⟨(some 18), .slarr 24 3 (t_ 15) (some (t_ 17)) none none, none, [15, 17], 6, [3, 5], 0, 0, []⟩,
  ⟨(some 19), .copy 3 (t_ 14) (t_ 18), none, [14, 18], 7, [2, 6], 0, 0, []⟩]
def c10_4b : List SOper := []
def c10_5 : List SOper := [o_ 20 (.fld 1 (t_ 2)),
  o_ 21 (.load1 (t_ 20)),
  o_ 22 (.bin .sub (t_ 21) (k_ 1)),
  o_ 23 (.fld 1 (t_ 2)),
  n_ (.store1 (t_ 23) (t_ 22))]
def c10_6 : List SOper := [o_ 24 (.fld 1 (t_ 2)),
  o_ 25 (.load1 (t_ 24)),
  o_ 26 (.build [(.int .i64 (0)), (.int .i64 (0)), (.int .i64 (0))] []),
  o_ 27 (.fld 2 (t_ 2)),
  o_ 28 (.idxA 24 3 (t_ 27) (t_ 25)),
  n_ (.storeN 3 (t_ 28) (t_ 26))]
def c10_7 : List SOper := [o_ 29 (.loadN 74 (t_ 2)),
  n_ (.storeN 74 (t_ 4) (t_ 29))]
def c10_body : SCode := (.seq (.reg [1, 2, 4] c10_0) (.seq (.reg [2, 4, 5] c10_1) (.seq (.seq (.reg [2, 4, 5, 10] c10_2) (.cond (t_ 10) (.seq (.reg [4] c10_3) .ret) .skip)) (.seq (.dreg [2, 4] c10_4 c10_4b) (.seq (.reg [2, 4] c10_5) (.seq (.reg [2, 4] c10_6) (.seq (.reg [4] c10_7) .ret)))))))
def c10 : SFunc := ⟨2, 30, c10_body, [.cellN 4 74]⟩

/- (jacquard/buf.Buf).oldest -/
def c15_0 : List SOper := [o_ 2 (.box (t_ 0)),
  o_ 4 (.mov (k_ 0))]
def c15_1 : List SOper := [o_ 6 (.fld 1 (t_ 2)),
  o_ 7 (.load1 (t_ 6)),
  o_ 8 (.mov (k_ 0))]
def c15_2 : List SOper := [o_ 9 (.bin .lss (t_ 8) (t_ 7))]
def c15_3 : List SOper := [o_ 10 (.mov (t_ 8)),
  o_ 5 (.mov (t_ 10))]
def c15_4 : List SOper := [o_ 11 (.fld 0 (t_ 2)),
  o_ 12 (.load1 (t_ 11)),
  o_ 13 (.bin .eql (t_ 12) (k_ 2)),
  o_ 14 (.mov (t_ 13)),
  g_ 15 14 false (.mov (t_ 5)),
  g_ 16 14 false (.fld 2 (t_ 2)),
  g_ 17 14 false (.idxA 24 3 (t_ 16) (t_ 15)),
  g_ 18 14 false (.fld 0 (t_ 17)),
  g_ 19 14 false (.load1 (t_ 18)),
  g_ 20 14 false (.mov (t_ 1)),
  g_ 21 14 false (.bin .eql (t_ 19) (t_ 20)),
  o_ 22 (.pick (t_ 14) (.const (.bool true)) (t_ 21))]
def c15_5 : List SOper := [o_ 23 (.mov (t_ 5)),
  o_ 4 (.mov (t_ 23))]
def c15_6 : List SOper := [o_ 24 (.bin .add (t_ 8) (k_ 1)),
  o_ 8 (.mov (t_ 24))]
def c15_7 : SCode := (.seq (.reg [1, 2, 7, 8, 9] c15_2) (.seq (.cond (t_ 9) .skip (.exit 0)) (.seq (.block 1 (.seq (.reg [1, 2, 5, 7, 8] c15_3) (.seq (.reg [1, 2, 5, 7, 8, 22] c15_4) (.cond (t_ 22) (.seq (.reg [4] c15_5) .ret) .skip)))) (.reg [1, 2, 7, 8] c15_6))))
def c15_8 : List SOper := [o_ 4 (.mov (k_ (-1)))]
def c15_body : SCode := (.seq (.reg [1, 2] c15_0) (.seq (.seq (.reg [1, 2, 7, 8] c15_1) (.block 0 (.loop [1, 2, 7, 8] c15_7))) (.seq (.reg [4] c15_8) .ret)))
def c15 : SFunc := ⟨2, 25, c15_body, [.tmp 4]⟩

/- cmp.isNaN[int] -/
def c229_0 : List SOper := [o_ 2 (.mov (.const (.bool false)))]
def c229_1 : List SOper := [o_ 3 (.mov (t_ 0)),
  o_ 4 (.mov (t_ 0)),
  o_ 5 (.bin .neq (t_ 3) (t_ 4)),
  o_ 2 (.mov (t_ 5))]
def c229_body : SCode := (.seq (.reg [0] c229_0) (.seq (.reg [2] c229_1) .ret))
def c229 : SFunc := ⟨1, 6, c229_body, [.tmp 2]⟩

/- slices.IndexFunc[[]jacquard/api.Ins,jacquard/api.Ins] -/
def c171_0 : List SOper := [o_ 4 (.mov (k_ 0))]
def c171_1 : List SOper := [o_ 6 (.mov (t_ 0)),
  o_ 7 (.lenS (t_ 6)),
  o_ 8 (.mov (k_ 0))]
def c171_2 : List SOper := [o_ 9 (.bin .lss (t_ 8) (t_ 7))]
def c171_3 : List SOper := [o_ 10 (.mov (t_ 8)),
  o_ 5 (.mov (t_ 10))]
def c171_4 : List SOper := [o_ 11 (.mov (t_ 1)),
  o_ 12 (.mov (t_ 0)),
  o_ 13 (.mov (t_ 5)),
  o_ 14 (.idxS 9 (t_ 12) (t_ 13)),
  o_ 15 (.loadN 9 (t_ 14)),
  o_ 16 (.callv (t_ 11) [(t_ 15)])]
def c171_5 : List SOper := [o_ 17 (.mov (t_ 5)),
  o_ 4 (.mov (t_ 17))]
def c171_6 : List SOper := [o_ 18 (.bin .add (t_ 8) (k_ 1)),
  o_ 8 (.mov (t_ 18))]
def c171_7 : SCode := (.seq (.reg [0, 1, 7, 8, 9] c171_2) (.seq (.cond (t_ 9) .skip (.exit 0)) (.seq (.block 1 (.seq (.reg [0, 1, 5, 7, 8] c171_3) (.seq (.reg [0, 1, 5, 7, 8, 16] c171_4) (.cond (t_ 16) (.seq (.reg [4] c171_5) .ret) .skip)))) (.reg [0, 1, 7, 8] c171_6))))
def c171_8 : List SOper := [o_ 4 (.mov (k_ (-1)))]
def c171_body : SCode := (.seq (.reg [0, 1] c171_0) (.seq (.seq (.reg [0, 1, 7, 8] c171_1) (.block 0 (.loop [0, 1, 7, 8] c171_7))) (.seq (.reg [4] c171_8) .ret)))
def c171 : SFunc := ⟨2, 19, c171_body, [.tmp 4]⟩

/- jacquard/print.isOperand -/
def c172_0 : List SOper := [o_ 1 (.box (t_ 0)),
  o_ 2 (.mov (.const (.bool false)))]
def c172_1 : List SOper := [o_ 3 (.fld 0 (t_ 1)),
  o_ 4 (.load1 (t_ 3)),
  o_ 5 (.bin .eql (t_ 4) (k_ (-1))),
  o_ 6 (.mov (t_ 5)),
  g_ 7 6 false (.fld 0 (t_ 1)),
  g_ 8 6 false (.load1 (t_ 7)),
  g_ 9 6 false (.call 173 [(t_ 8)]),
  g_ 10 6 false (.mov (t_ 9)),
  g_ 11 10 true (.fld 1 (t_ 1)),
  g_ 12 10 true (.load1 (t_ 11)),
  g_ 13 10 true (.bin .eql (t_ 12) (k_ 0)),
  g_ 14 6 false (.pick (t_ 10) (t_ 13) (.const (.bool false))),
  o_ 15 (.pick (t_ 6) (.const (.bool true)) (t_ 14)),
  o_ 2 (.mov (t_ 15))]
def c172_body : SCode := (.seq (.reg [1] c172_0) (.seq (.reg [2] c172_1) .ret))
def c172 : SFunc := ⟨1, 16, c172_body, [.tmp 2]⟩

/- jacquard/print.isReg -/
def c173_0 : List SOper := [o_ 2 (.mov (.const (.bool false)))]
def c173_1 : List SOper := [o_ 3 (.mov (t_ 0)),
  o_ 4 (.bin .geq (t_ 3) (k_ 0)),
  o_ 5 (.mov (t_ 4)),
  g_ 6 5 true (.mov (t_ 0)),
  g_ 7 5 true (.bin .lss (t_ 6) (k_ 4)),
  o_ 8 (.pick (t_ 5) (t_ 7) (.const (.bool false))),
  o_ 2 (.mov (t_ 8))]
def c173_body : SCode := (.seq (.reg [0] c173_0) (.seq (.reg [2] c173_1) .ret))
def c173 : SFunc := ⟨1, 9, c173_body, [.tmp 2]⟩

/- jacquard/prog.Value -/
def c174_0 : List SOper := [o_ 2 (.box (t_ 0)),
  o_ 3 (.box (t_ 1)),
  o_ 4 (.mov (k_ 0))]
def c174_1 : List SOper := [o_ 5 (.fld 0 (t_ 2)),
  o_ 6 (.load1 (t_ 5)),
  o_ 7 (.bin .geq (t_ 6) (k_ 0)),
  o_ 8 (.mov (t_ 7)),
  g_ 9 8 true (.fld 0 (t_ 2)),
  g_ 10 8 true (.load1 (t_ 9)),
  g_ 11 8 true (.bin .lss (t_ 10) (k_ 4)),
  o_ 12 (.pick (t_ 8) (t_ 11) (.const (.bool false)))]
def c174_2 : List SOper := [o_ 13 (.fld 0 (t_ 2)),
  o_ 14 (.load1 (t_ 13)),
  o_ 15 (.fld 1 (t_ 3)),
  o_ 16 (.idxA 4 1 (t_ 15) (t_ 14)),
  o_ 17 (.load1 (t_ 16)),
  o_ 4 (.mov (t_ 17))]
def c174_3 : List SOper := [o_ 18 (.fld 1 (t_ 2)),
  o_ 19 (.load1 (t_ 18)),
  o_ 4 (.mov (t_ 19))]
def c174_body : SCode := (.seq (.reg [2, 3] c174_0) (.seq (.seq (.reg [2, 3, 12] c174_1) (.cond (t_ 12) (.seq (.reg [4] c174_2) .ret) .skip)) (.seq (.reg [4] c174_3) .ret)))
def c174 : SFunc := ⟨2, 20, c174_body, [.tmp 4]⟩

/- jacquard/num.Do -/
def c175_0 : List SOper := [o_ 6 (.mov (k_ 0)),
  o_ 7 (.mov (.const (.bool false)))]
def c175_1 : List SOper := [o_ 9 (.mov (t_ 2)),
  o_ 10 (.conv .u64 (t_ 9)),
  o_ 11 (.bin .rem (t_ 10) (.const (.int .u64 (64)))),
  o_ 8 (.mov (t_ 11))]
def c175_2 : List SOper := [o_ 12 (.mov (t_ 0))]
def c175_3 : List SOper := [o_ 14 (.bin .eql (t_ 12) (k_ 1)),
  o_ 13 (.mov (t_ 14))]
def c175_4 : List SOper := [o_ 15 (.mov (t_ 1)),
  o_ 16 (.mov (t_ 2)),
  o_ 17 (.bin .add (t_ 15) (t_ 16)),
  o_ 6 (.mov (t_ 17)),
  o_ 7 (.mov (.const (.bool true)))]
def c175_5 : List SOper := [o_ 19 (.bin .eql (t_ 12) (k_ 2)),
  o_ 18 (.mov (t_ 19))]
def c175_6 : List SOper := [o_ 20 (.mov (t_ 1)),
  o_ 21 (.mov (t_ 2)),
  o_ 22 (.bin .sub (t_ 20) (t_ 21)),
  o_ 6 (.mov (t_ 22)),
  o_ 7 (.mov (.const (.bool true)))]
def c175_7 : List SOper := [o_ 24 (.bin .eql (t_ 12) (k_ 3)),
  o_ 23 (.mov (t_ 24))]
def c175_8 : List SOper := [o_ 25 (.mov (t_ 1)),
  o_ 26 (.mov (t_ 2)),
  o_ 27 (.bin .mul (t_ 25) (t_ 26)),
  o_ 6 (.mov (t_ 27)),
  o_ 7 (.mov (.const (.bool true)))]
def c175_9 : List SOper := [o_ 29 (.bin .eql (t_ 12) (k_ 4)),
  o_ 28 (.mov (t_ 29))]
def c175_10 : List SOper := [o_ 30 (.mov (t_ 1)),
  o_ 31 (.mov (t_ 2)),
  o_ 32 (.bin .and (t_ 30) (t_ 31)),
  o_ 6 (.mov (t_ 32)),
  o_ 7 (.mov (.const (.bool true)))]
def c175_11 : List SOper := [o_ 34 (.bin .eql (t_ 12) (k_ 5)),
  o_ 33 (.mov (t_ 34))]
def c175_12 : List SOper := [o_ 35 (.mov (t_ 1)),
  o_ 36 (.mov (t_ 2)),
  o_ 37 (.bin .or (t_ 35) (t_ 36)),
  o_ 6 (.mov (t_ 37)),
  o_ 7 (.mov (.const (.bool true)))]
def c175_13 : List SOper := [o_ 39 (.bin .eql (t_ 12) (k_ 6)),
  o_ 38 (.mov (t_ 39))]
def c175_14 : List SOper := [o_ 40 (.mov (t_ 1)),
  o_ 41 (.mov (t_ 2)),
  o_ 42 (.bin .xor (t_ 40) (t_ 41)),
  o_ 6 (.mov (t_ 42)),
  o_ 7 (.mov (.const (.bool true)))]
def c175_15 : List SOper := [o_ 44 (.bin .eql (t_ 12) (k_ 7)),
  o_ 43 (.mov (t_ 44))]
def c175_16 : List SOper := [o_ 45 (.mov (t_ 1)),
  o_ 46 (.mov (t_ 8)),
  o_ 47 (.bin .shl (t_ 45) (t_ 46)),
  o_ 6 (.mov (t_ 47)),
  o_ 7 (.mov (.const (.bool true)))]
def c175_17 : List SOper := [o_ 49 (.bin .eql (t_ 12) (k_ 8)),
  o_ 48 (.mov (t_ 49))]
def c175_18 : List SOper := [o_ 50 (.mov (t_ 1)),
  o_ 51 (.mov (t_ 8)),
  o_ 52 (.bin .shr (t_ 50) (t_ 51)),
  o_ 6 (.mov (t_ 52)),
  o_ 7 (.mov (.const (.bool true)))]
def c175_19 : List SOper := [o_ 54 (.bin .eql (t_ 12) (k_ 9)),
  o_ 53 (.mov (t_ 54))]
def c175_20 : List SOper := [o_ 55 (.mov (t_ 1)),
  o_ 56 (.mov (t_ 2)),
  o_ 57 (.bin .eql (t_ 55) (t_ 56)),
  o_ 58 (.call 222 [(t_ 57)]),
  o_ 6 (.mov (t_ 58)),
  o_ 7 (.mov (.const (.bool true)))]
def c175_21 : List SOper := [o_ 60 (.bin .eql (t_ 12) (k_ 10)),
  o_ 59 (.mov (t_ 60))]
def c175_22 : List SOper := [o_ 61 (.mov (t_ 1)),
  o_ 62 (.mov (t_ 2)),
  o_ 63 (.bin .neq (t_ 61) (t_ 62)),
  o_ 64 (.call 222 [(t_ 63)]),
  o_ 6 (.mov (t_ 64)),
  o_ 7 (.mov (.const (.bool true)))]
def c175_23 : List SOper := [o_ 66 (.bin .eql (t_ 12) (k_ 11)),
  o_ 65 (.mov (t_ 66))]
def c175_24 : List SOper := [o_ 67 (.mov (t_ 1)),
  o_ 68 (.mov (t_ 2)),
  o_ 69 (.bin .lss (t_ 67) (t_ 68)),
  o_ 70 (.call 222 [(t_ 69)]),
  o_ 6 (.mov (t_ 70)),
  o_ 7 (.mov (.const (.bool true)))]
def c175_25 : List SOper := [o_ 6 (.mov (k_ 0)),
  o_ 7 (.mov (.const (.bool false)))]
def c175_body : SCode := (.seq (.reg [0, 1, 2] c175_0) (.seq (.reg [0, 1, 2, 8] c175_1) (.seq (.seq (.reg [1, 2, 8, 12] c175_2) (.block 0 (.seq (.reg [1, 2, 8, 12, 13] c175_3) (.cond (t_ 13) (.seq (.reg [6, 7] c175_4) .ret) (.seq (.reg [1, 2, 8, 12, 18] c175_5) (.cond (t_ 18) (.seq (.reg [6, 7] c175_6) .ret) (.seq (.reg [1, 2, 8, 12, 23] c175_7) (.cond (t_ 23) (.seq (.reg [6, 7] c175_8) .ret) (.seq (.reg [1, 2, 8, 12, 28] c175_9) (.cond (t_ 28) (.seq (.reg [6, 7] c175_10) .ret) (.seq (.reg [1, 2, 8, 12, 33] c175_11) (.cond (t_ 33) (.seq (.reg [6, 7] c175_12) .ret) (.seq (.reg [1, 2, 8, 12, 38] c175_13) (.cond (t_ 38) (.seq (.reg [6, 7] c175_14) .ret) (.seq (.reg [1, 2, 8, 12, 43] c175_15) (.cond (t_ 43) (.seq (.reg [6, 7] c175_16) .ret) (.seq (.reg [1, 2, 8, 12, 48] c175_17) (.cond (t_ 48) (.seq (.reg [6, 7] c175_18) .ret) (.seq (.reg [1, 2, 12, 53] c175_19) (.cond (t_ 53) (.seq (.reg [6, 7] c175_20) .ret) (.seq (.reg [1, 2, 12, 59] c175_21) (.cond (t_ 59) (.seq (.reg [6, 7] c175_22) .ret) (.seq (.reg [1, 2, 65] c175_23) (.cond (t_ 65) (.seq (.reg [6, 7] c175_24) .ret) .skip)))))))))))))))))))))))) (.seq (.reg [6, 7] c175_25) .ret))))
def c175 : SFunc := ⟨3, 71, c175_body, [.tmp 6, .tmp 7]⟩

/- jacquard/prog.set -/
def c176_0 : List SOper := [o_ 6 (.mov (t_ 1)),
  o_ 7 (.bin .geq (t_ 6) (k_ 0)),
  o_ 8 (.mov (t_ 7)),
  g_ 9 8 true (.mov (t_ 1)),
  g_ 10 8 true (.bin .lss (t_ 9) (k_ 4)),
  o_ 11 (.pick (t_ 8) (t_ 10) (.const (.bool false)))]
def c176_1 : List SOper := [o_ 12 (.mov (t_ 0)),
  o_ 13 (.mov (t_ 1)),
  o_ 14 (.mov (t_ 2)),
  o_ 15 (.nilchk (t_ 12)),
  o_ 16 (.fld 1 (t_ 15)),
  o_ 17 (.idxA 4 1 (t_ 16) (t_ 13)),
  n_ (.store1 (t_ 17) (t_ 14))]
def c176_body : SCode := (.seq (.reg [0, 1, 2, 11] c176_0) (.cond (t_ 11) (.reg [] c176_1) .skip))
def c176 : SFunc := ⟨3, 18, c176_body, []⟩

/- jacquard/num.one -/
def c222_0 : List SOper := [o_ 2 (.mov (k_ 0))]
def c222_1 : List SOper := [o_ 3 (.mov (t_ 0))]
def c222_2 : List SOper := [o_ 2 (.mov (k_ 1))]
def c222_3 : List SOper := [o_ 2 (.mov (k_ 0))]
def c222_body : SCode := (.seq (.reg [0] c222_0) (.seq (.seq (.reg [3] c222_1) (.cond (t_ 3) (.seq (.reg [2] c222_2) .ret) .skip)) (.seq (.reg [2] c222_3) .ret)))
def c222 : SFunc := ⟨1, 4, c222_body, [.tmp 2]⟩

end Go.Jq

