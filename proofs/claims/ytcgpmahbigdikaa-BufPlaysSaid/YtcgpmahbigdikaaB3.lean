/- Stores that wait: Drop. -/
import Derived.Test.YtcgpmahbigdikaaB2
set_option linter.unusedSimpArgs false
set_option linter.unusedVariables false
namespace Go.Jq
variable {G : Nat → SFunc} {h : AH} {R : Value → AH → Prop}

def dropS (m loc : Int) (es : List Ent) : List Ent :=
  match oldN m loc es with
  | some i => es.eraseIdx i
  | none => es
theorem dropS_le {m loc : Int} {es : List Ent} (h : es.length ≤ 24) : (dropS m loc es).length ≤ 24 := by
  unfold dropS; split
  · rw [List.length_eraseIdx]; split <;> omega
  · exact h

theorem pad_shift {m : Int} {es : List Ent} {i : Nat} (hi : i < es.length) (h23 : i < 23) (hes : es.length ≤ 24) :
    splice (bufC m es) (2 + i * 3) (((bufC m es).drop (2 + (i + 1) * 3)).take ((23 - i) * 3)) = .int .i64 m :: .int .i64 es.length :: ((pad es).take i ++ ((pad es).drop (i + 1) ++ (pad es).drop 23)).flatMap Ent.c := by
  have hl := pad_length hes
  have e1 : (bufC m es).drop (2 + (i + 1) * 3) = ((pad es).drop (i + 1)).flatMap Ent.c := by
    rw [← fm_drop Ent.c_length, bufC, Nat.add_comm 2]
    rfl
  have e2 : ((pad es).drop (i + 1)).length = 23 - i := by rw [List.length_drop, hl]; omega
  rw [e1, fm_take Ent.c_length, List.take_of_length_le (by omega), bufC, splice_two, fm_splice Ent.c_length, e2, show i + (23 - i) = 23 by omega]

theorem pad_drop {es : List Ent} {i : Nat} (hi : i < es.length) (hes : es.length ≤ 24) :
    splice (((pad es).take i ++ ((pad es).drop (i + 1) ++ (pad es).drop 23)).flatMap Ent.c) ((es.length - 1) * 3) [.int .i64 0, .int .i64 0, .int .i64 0] = (pad (es.eraseIdx i)).flatMap Ent.c := by
  have h0 : [Value.int .i64 0, .int .i64 0, .int .i64 0] = [e0].flatMap Ent.c := rfl
  rw [h0, fm_splice Ent.c_length]
  congr 1
  have h1 : (pad es).take i = es.take i := by rw [pad, List.take_append_of_le_length (by omega)]
  have h2 : (pad es).drop (i + 1) = es.drop (i + 1) ++ List.replicate (24 - es.length) e0 := by rw [pad, List.drop_append_of_le_length (by omega)]
  have h3 : (es.take i ++ es.drop (i + 1)).length = es.length - 1 := by simp; omega
  rw [h1, h2, List.eraseIdx_eq_take_drop_succ]
  have e3 : es.take i ++ (es.drop (i + 1) ++ List.replicate (24 - es.length) e0 ++ (pad es).drop 23) = (es.take i ++ es.drop (i + 1)) ++ (List.replicate (24 - es.length) e0 ++ (pad es).drop 23) := by simp
  rw [e3]
  have hD : List.replicate (24 - es.length) e0 ++ (pad es).drop 23 = List.replicate (24 - (es.length - 1)) e0 ∨ es.length = 24 ∧ ∃ x, List.replicate (24 - es.length) e0 ++ (pad es).drop 23 = [x] := by
    by_cases h24 : es.length = 24
    · refine .inr ⟨h24, es[23], ?_⟩
      rw [pad, show List.replicate (24 - es.length) e0 = [] by rw [h24]; rfl]
      simp only [List.append_nil, List.nil_append]
      rw [List.drop_eq_getElem_cons (by omega), List.drop_of_length_le (by omega)]
    · left
      rw [pad, List.drop_append, List.drop_of_length_le (by omega), List.drop_replicate, List.nil_append, List.replicate_append_replicate]
      congr 1
      omega
  generalize List.replicate (24 - es.length) e0 ++ (pad es).drop 23 = D at hD
  rw [pad, h3]
  generalize List.take i es ++ List.drop (i + 1) es = A at *
  rw [← h3, List.take_left]
  congr 1
  simp only [List.length_cons, List.length_nil]
  rw [List.drop_append, List.drop_of_length_le (by omega), List.nil_append, show A.length + (0 + 1) - A.length = 1 by omega, h3]
  rcases hD with hD | ⟨h24, x, hD⟩
  · rw [hD, show 24 - (es.length - 1) = 24 - es.length + 1 by omega, List.replicate_succ]
    rfl
  · rw [hD, h24]
    rfl

theorem Drop_spec (g : BufG G) {m loc : Int} {es : List Ent} (hes : es.length ≤ 24) (k : ∀ h1, Ext h h1 → R (bufV m (dropS m loc es)) h1) : WC G 10 [bufV m es, .int .i64 loc] h R := by
  refine WC_enter g.g10 rfl ?_
  show W G c10_body _ _ (retK [.cellN 4 74] R)
  unfold c10_body c10_0 c10_1 c10_2 c10_3
  have hl := flat_length hes
  simp -implicitDefEqProofs [bufV, bufC_length hes, List.take_of_length_le]
  refine oldest_spec g hes fun h1 x => ?_
  have hx : h1.get h.next = .cells (bufC m es) false false := by
    rw [x.get _ (by simp)]; simp
  have hx2 : h1.get (h.next + 1) = .cells (zi 74) false false := by
    rw [x.get _ (by simp)]; simp
  have x2 : Ext h h1 := (((Ext.refl h).alloc _).alloc _).trans x
  cases ho : oldN m loc es with
  | none =>
    simp -implicitDefEqProofs [optI, hx, hx2, bufC_length hes, splice_all, List.take_of_length_le]
    simpa [dropS, ho, bufV] using k _ (x2.put (Nat.le_succ _) _)
  | some i =>
    obtain ⟨hi, hh⟩ := oldN_some ho
    have f1 : (i : Int) < 24 := by omega
    have f2 : ¬ (i : Int) < 0 := by omega
    have f3 : (i : Int) ≤ 24 := by omega
    have f4 : (0 : Int) ≤ (i : Int) + 1 := by omega
    have f5 : (i : Int) + 1 ≤ 24 := by omega
    have f6 : ¬ 24 = i := by omega
    have hw : IntKind.i64.wrap ((i : Int) + 1) = (i : Int) + 1 := wrap64 (by omega)
    have f7 : ((i : Int) + 1).toNat = i + 1 := by omega
    have f8 : ((es.length : Int) - 1).toNat = es.length - 1 := by omega
    have f9 : 0 ≤ (es.length : Int) - 1 := by omega
    have f10 : (es.length : Int) - 1 < 24 := by omega
    have hw2 : IntKind.i64.wrap ((es.length : Int) - 1) = (es.length : Int) - 1 := wrap64 (by omega)
    have f11 : 2 + (es.length - 1) * 3 + 3 ≤ 74 := by omega
    have hp := pad_drop hi hes
    have hq : ((pad es).take i ++ ((pad es).drop (i + 1) ++ (pad es).drop 23)).length = 24 := by
      simp [pad_length hes]; omega
    have hq2 : (((pad es).take i ++ ((pad es).drop (i + 1) ++ (pad es).drop 23)).flatMap Ent.c).length = 72 := by rw [fm_length Ent.c_length, hq]
    have hl2 : ((pad (es.eraseIdx i)).flatMap Ent.c).length = 72 := flat_length (by rw [List.length_eraseIdx]; split <;> omega)
    have hl3 : (es.eraseIdx i).length = es.length - 1 := by rw [List.length_eraseIdx, if_pos hi]
    have f12 : ((es.length - 1 : Nat) : Int) = (es.length : Int) - 1 := by omega
    generalize hQ : ((pad es).take i ++ ((pad es).drop (i + 1) ++ (pad es).drop 23)).flatMap Ent.c = Q at hp hq2
    unfold c10_4 c10_4b c10_5 c10_6 c10_7
    by_cases h23 : i = 23
    · subst h23
      have hQ2 : (pad es).flatMap Ent.c = Q := by
        rw [← hQ]
        congr 1
        rw [List.drop_of_length_le (i := 23 + 1) (by rw [pad_length hes]; omega), List.nil_append, List.take_append_drop]
      have h24 : es.length = 24 := by omega
      rw [h24] at hp f9 f10 hw2 f8 f11 f12
      simp -implicitDefEqProofs [optI, wrap64, f1, f2, f3, f4, f5, f6, f7, f8, f9, f10, f11, hw, hw2, hx, hx2, hp, hq2, hl2, hQ2, h24, bufC, hl, splice_two, splice_all, List.take_of_length_le, wD_move, wD_keep, SOp.still, SOp.quiet, SOp.float, putD, sslice, scopy_ss, addrAdd, bufC_length hes]
      have hc : (23 : Int) = es.length - 1 := by omega
      simpa [dropS, ho, bufV, bufC, hl3, h24] using k _ ((((x2.put (Nat.le_refl _) _).put (Nat.le_refl _) _).put (Nat.le_succ _) _))
    · have h23' : i < 23 := by omega
      have f13 : min (23 - i) (24 - i) = 23 - i := by omega
      have f14 : 2 + (i + 1) * 3 + (23 - i) * 3 ≤ 74 := by omega
      have f15 : ¬ (23 - i = 0) := by omega
      have f16 : 2 + i * 3 + min ((23 - i) * 3) (74 - (2 + (i + 1) * 3)) ≤ 74 := by omega
      have hs := pad_shift (m := m) hi h23' hes
      rw [hQ] at hs
      simp -implicitDefEqProofs [optI, f1, f2, f3, f4, f5, f6, f7, f8, f9, f10, f11, f13, f14, f15, f16, h23, hw, hw2, hx, hx2, hs, hp, hq2, hl2, splice_two, splice_all, List.take_of_length_le, wD_move, wD_keep, SOp.still, SOp.quiet, SOp.float, putD, sslice, scopy_ss, addrAdd, bufC_length hes]
      refine ⟨by omega, ?_⟩
      simpa [dropS, ho, bufV, bufC, hl3, f12] using k _ (((((x2.put (Nat.le_refl _) _).put (Nat.le_refl _) _).put (Nat.le_refl _) _).put (Nat.le_succ _) _))
end Go.Jq
