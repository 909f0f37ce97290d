/- Stores that wait: what they are in memory; New, Put, Len, Empty. -/
import Derived.Test.YtcgpmahbigdikaaB0
set_option linter.unusedSimpArgs false
set_option linter.unusedVariables false
namespace Go.Jq

structure Ent where
  loc : Int
  v : Int
  id : Int
  deriving DecidableEq, Inhabited
def Ent.c (e : Ent) : List Value := [.int .i64 e.loc, .int .i64 e.v, .int .i64 e.id]
def e0 : Ent := ⟨0, 0, 0⟩
def pad (es : List Ent) : List Ent := es ++ List.replicate (24 - es.length) e0
def bufC (m : Int) (es : List Ent) : List Value := .int .i64 m :: .int .i64 es.length :: (pad es).flatMap Ent.c
def bufV (m : Int) (es : List Ent) : Value := .agg (bufC m es).toArray
theorem Ent.c_length (e : Ent) : e.c.length = 3 := rfl
theorem pad_length {es : List Ent} (h : es.length ≤ 24) : (pad es).length = 24 := by simp [pad]; omega
theorem flat_length {es : List Ent} (h : es.length ≤ 24) : ((pad es).flatMap Ent.c).length = 72 := by rw [fm_length Ent.c_length, pad_length h]
theorem bufC_length {m : Int} {es : List Ent} (h : es.length ≤ 24) : (bufC m es).length = 74 := by simp [bufC, flat_length h]
theorem zi74 : zi 74 = bufC 0 [] := rfl

structure BufG (G : Nat → SFunc) : Prop where
  g4 : G 4 = c4
  g5 : G 5 = c5
  g6 : G 6 = c6
  g7 : G 7 = c7
  g8 : G 8 = c8
  g10 : G 10 = c10
  g11 : G 11 = c11
  g14 : G 14 = c14
  g15 : G 15 = c15

variable {G : Nat → SFunc} {h : AH} {R : Value → AH → Prop}

def newM (m : Int) : Int := if m = 2 ∨ m = 3 then m else 0

theorem New_spec (g : BufG G) {m : Int} (k : ∀ h1, Ext h h1 → R (bufV (newM m) []) h1) : WC G 4 [.int .i64 m] h R := by
  refine WC_enter g.g4 rfl ?_
  show W G c4_body _ _ (retK [.cellN 2 74] R)
  unfold c4_body c4_0 c4_1 c4_2 c4_3
  have hl : ((pad []).flatMap Ent.c).length = 72 := rfl
  have k1 : ∀ o o', R (bufV (newM m) []) ((h.alloc o).put h.next o') := fun o o' => k _ (((Ext.refl h).alloc _).put (Nat.le_refl _) _)
  by_cases h2 : m = 2
  · simp [h2, zi74, bufC, hl, splice_all, List.take_of_length_le]
    simpa [newM, h2, bufV, bufC] using k1 _ _
  · by_cases h3 : m = 3
    · simp [h3, zi74, bufC, hl, splice_all, List.take_of_length_le]
      simpa [newM, h3, bufV, bufC] using k1 _ _
    · simp [h2, h3, zi74, bufC, hl, splice_all, List.take_of_length_le]
      simpa [newM, h2, h3, bufV, bufC] using k1 _ _

def addS (m : Int) (es : List Ent) (loc v id : Int) : List Ent := if m = 0 ∨ loc < 0 ∨ 4 ≤ loc ∨ 24 ≤ es.length then es else es ++ [⟨loc, v, id⟩]
theorem addS_le {m : Int} {es : List Ent} {loc v id : Int} (h : es.length ≤ 24) : (addS m es loc v id).length ≤ 24 := by
  unfold addS; split
  · exact h
  · simp; omega

theorem pad_put {es : List Ent} (hn : es.length < 24) (e : Ent) : splice ((pad es).flatMap Ent.c) (es.length * 3) e.c = (pad (es ++ [e])).flatMap Ent.c := by
  have := fm_splice Ent.c_length (pad es) [e] es.length
  simp only [List.flatMap_cons, List.flatMap_nil, List.append_nil] at this
  rw [this]
  congr 1
  simp only [pad, List.take_left', List.length_cons, List.length_nil, List.length_append, List.append_assoc]
  congr 2
  rw [List.drop_append, List.drop_of_length_le (by omega), List.drop_replicate, List.nil_append]
  congr 1
  omega

theorem Put_spec (g : BufG G) {m : Int} {es : List Ent} {loc v id : Int} (hes : es.length ≤ 24) (k : ∀ h1, Ext h h1 → R (bufV m (addS m es loc v id)) h1) :
    WC G 5 [bufV m es, .int .i64 loc, .int .i64 v, .int .i64 id] h R := by
  refine WC_enter g.g5 rfl ?_
  show W G c5_body _ _ (retK [.cellN 8 74] R)
  unfold c5_body c5_0 c5_1 c5_2 c5_3 c5_4 c5_5
  have hl := flat_length hes
  by_cases h1 : m = 0
  · simp -implicitDefEqProofs [h1, bufV, bufC, hl, splice_all, List.take_of_length_le]
    simpa [addS, h1, bufV, bufC] using k _ ((((Ext.refl h).alloc _).alloc _).put (Nat.le_succ _) _)
  · by_cases h2 : loc < 0
    · simp -implicitDefEqProofs [h1, h2, bufV, bufC, hl, splice_all, List.take_of_length_le]
      simpa [addS, h1, h2, bufV, bufC] using k _ ((((Ext.refl h).alloc _).alloc _).put (Nat.le_succ _) _)
    · by_cases h3 : 4 ≤ loc
      · simp -implicitDefEqProofs [h1, h2, h3, bufV, bufC, hl, splice_all, List.take_of_length_le]
        simpa [addS, h1, h2, h3, bufV, bufC] using k _ ((((Ext.refl h).alloc _).alloc _).put (Nat.le_succ _) _)
      · by_cases h4 : 24 ≤ es.length
        · have h4' : (24 : Int) ≤ es.length := by omega
          simp -implicitDefEqProofs [h1, h2, h3, h4', bufV, bufC, hl, splice_all, List.take_of_length_le]
          simpa [addS, h1, h2, h3, h4, bufV, bufC] using k _ ((((Ext.refl h).alloc _).alloc _).put (Nat.le_succ _) _)
        · have h4' : ¬ (24 : Int) ≤ es.length := by omega
          have f1 : (es.length : Int) < 24 := by omega
          have f2 : 2 + es.length * 3 ≤ 71 := by omega
          have hp : splice ((pad es).flatMap Ent.c) (es.length * 3) [.int .i64 loc, .int .i64 v, .int .i64 id] = _ := pad_put (by omega) ⟨loc, v, id⟩
          have hl2 : ((pad (es ++ [⟨loc, v, id⟩])).flatMap Ent.c).length = 72 := flat_length (by simp; omega)
          have hw : IntKind.i64.wrap ((es.length : Int) + 1) = (es.length : Int) + 1 := wrap64 (by omega)
          simp -implicitDefEqProofs [h1, h2, h3, h4', f1, f2, hp, hl2, hw, splice_two, bufV, bufC, hl, splice_all, List.take_of_length_le]
          simpa [addS, h1, h2, h3, h4, bufV, bufC] using k _ ((((((Ext.refl h).alloc _).alloc _).put (Nat.le_refl _) _).put (Nat.le_refl _) _).put (Nat.le_succ _) _)
end Go.Jq
