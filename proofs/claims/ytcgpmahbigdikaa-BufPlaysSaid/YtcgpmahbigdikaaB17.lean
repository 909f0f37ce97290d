/- Stores that wait: BufPlays, the walk. -/
import Derived.Test.YtcgpmahbigdikaaB16
set_option linter.unusedSimpArgs false
set_option linter.unusedVariables false
namespace Go.Jq
variable {G : Nat → SFunc} {h : AH} {R : Value → AH → Prop}

/-- the memory of BufPlays: b's block, the law's own list, the input -/
structure MemP (m : Int) (l : List OpT) (lv : Value) (B : Nat) (es : List Ent) (w : Value) (hh : AH) : Prop where
  b : hh.get B = .cells (bufC (newM m) es) false false
  nx : B < hh.next
  le : es.length ≤ 24
  mo : newM m = m ∨ es = []
  ws : SlR 3 hh es.length (es.flatMap Ent.c) w
  wb : ∀ b o sp n c, w = .slice (some ⟨b, o, sp⟩) n c → b ≠ B ∧ (sp = none ∨ sp = some 3) ∧ n ≤ c
  ops : Ops hh l lv
  low : ∀ b o sp c, lv = .slice (some ⟨b, o, sp⟩) l.length c → b < B

theorem MemP.ext {m : Int} {l : List OpT} {lv : Value} {B : Nat} {es : List Ent} {w : Value} {hh h1 : AH} (s : MemP m l lv B es w hh) (x : Ext hh h1) : MemP m l lv B es w h1 :=
  ⟨(x.get B s.nx).trans s.b, Nat.lt_of_lt_of_le s.nx x.next, s.le, s.mo, s.ws.ext x, s.wb, SlV.ext s.ops x, s.low⟩

def inv3b (m loc : Int) (l : List OpT) (lv : Value) (B : Nat) (es : List Ent) (w : Value) (i : Nat) (k : Nat) (F : Fr) (hh : AH) : Prop :=
  ∃ c : Nat, k = 6 - c ∧ c ≤ 6 ∧ MemP m l lv B es w hh ∧ F = [(0, .int .i64 m), (1, lv), (2, .int .i64 loc), (7, .pointer (some ⟨B, 0, none⟩)), (8, w), (9, .int .i64 i), (13, .int .i64 ((c : Int) - 1))]

theorem plays_b (g : BufL G) {m loc : Int} {l : List OpT} {lv : Value} {B : Nat} {es : List Ent} {w : Value} {i k : Nat} {F : Fr} {hh : AH} {R : SExit → Fr → AH → Prop} (I : inv3b m loc l lv B es w i k F hh)
    (K : ∀ hh' t, MemP m l lv B es w hh' → R (.exit 2) [(0, .int .i64 m), (1, lv), (2, .int .i64 loc), (7, .pointer (some ⟨B, 0, none⟩)), (8, w), (9, .int .i64 i), (13, .int .i64 5), (105, t)] hh') :
    W G c3_22 (F.keep [0, 1, 2, 7, 8, 9, 13]) hh (loopK (fun F1 h1 => ∃ n, n < k ∧ inv3b m loc l lv B es w i n F1 h1) R) := by
  obtain ⟨c, rfl, hc, M, rfl⟩ := I
  unfold c3_22 c3_18 c3_19 c3_21
  have L := fun m => bufC_length (m := m) M.le
  have eb := M.b
  by_cases h1 : c < 6
  · have h2 : (c : Int) - 1 ≤ 4 := by omega
    have hw : IntKind.i64.wrap (c : Int) = (c : Int) := wrap64 (by omega)
    simp -implicitDefEqProofs [h2, eb, L, List.take_of_length_le]
    refine same_spec g (m := m) (c := (c : Int) - 1) M.mo M.le M.ws.1 fun h3 x3 => ?_
    simp -implicitDefEqProofs [hw]
    exact ⟨6 - (c + 1), by omega, c + 1, rfl, by omega, M.ext x3, by simp⟩
  · have : c = 6 := by omega
    subst this
    simp -implicitDefEqProofs
    exact K hh _ M
end Go.Jq
