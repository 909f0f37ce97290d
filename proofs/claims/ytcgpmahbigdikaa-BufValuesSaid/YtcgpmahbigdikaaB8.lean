/- Stores that wait: BufValues. -/
import Derived.Test.YtcgpmahbigdikaaB7
set_option linter.unusedSimpArgs false
set_option linter.unusedVariables false
namespace Go.Jq
variable {G : Nat → SFunc} {h : AH} {R : Value → AH → Prop}

def inv1 (m : Int) (l : List OpT) (v : Value) (k : Nat) (F : Fr) (hh : AH) : Prop :=
  ∃ (i B : Nat) (es : List Ent), k = l.length - i ∧ i ≤ l.length ∧ es.length ≤ i ∧ i ≤ 20 ∧ hh.get B = .cells (bufC m es) false false ∧ hh.get (B + 1) = .cells (bufC m es) false false ∧ B + 2 ≤ hh.next ∧ Ops hh l v ∧
    (∀ b o sp c, v = .slice (some ⟨b, o, sp⟩) l.length c → b < B) ∧
    F = [(1, v), (5, .pointer (some ⟨B, 0, none⟩)), (6, .pointer (some ⟨B + 1, 0, none⟩)), (7, .int .i64 i)]

theorem BufValues_spec (g : BufL G) {m : Int} {l : List OpT} {v : Value} (hv : Ops h l v) (hlv : ∀ b o sp c, v = .slice (some ⟨b, o, sp⟩) l.length c → b < h.next) : WC G 1 [.int .i64 m, v] h fun v _ => v = .bool true := by
  refine WC_enter g.g1 rfl ?_
  show W G c1_body _ _ (retK [.tmp 4] _)
  unfold c1_body c1_0 c1_1 c1_2 c1_3
  simp -implicitDefEqProofs
  have b1 := iand_bound (a := m) (m := 1) (by omega) (by omega)
  generalize iand .i64 m 1 = m at *
  have hw0 : IntKind.i64.wrap (m + 2) = m + 2 := wrap64 (by omega)
  rw [hw0]
  have hN : newM (m + 2) = m + 2 := by rw [newM, if_pos (by omega)]
  have hM : m + 2 = 2 ∨ m + 2 = 3 := by omega
  generalize m + 2 = m at *
  refine New_spec g.toBufG fun h1 x1 => ?_
  simp -implicitDefEqProofs
  refine New_spec g.toBufG fun h2 x2 => ?_
  have hl := fun m => bufC_length (m := m) (es := []) (by simp)
  simp -implicitDefEqProofs [bufV, hl, splice_all, hN]
  have x3 := (x1.trans x2)
  refine W_loop (inv1 m l v) l.length ?_ ?_
  · refine ⟨0, h2.next, [], by omega, by omega, by simp, by omega, by simp, by simp, by simp, ?_, ?_, rfl⟩
    · exact SlV.ext hv ((((x3.alloc _).alloc _).put x3.next _).put (Nat.le_trans x3.next (Nat.le_succ _)) _)
    · intro b o sp c e
      exact Nat.lt_of_lt_of_le (hlv b o sp c e) x3.next
  rintro k F hh ⟨i, B, es, rfl, hi, hes, hi20, e1, e2, hB, hv, hvB, rfl⟩
  obtain ⟨av, cv, ev⟩ := SlV.len hv
  have L := fun m => bufC_length (m := m) (es := es) (by omega)
  unfold c1_17 c1_4 c1_5 c1_5b
  by_cases hil : i < l.length ∧ i < 20
  · have h1 : (i : Int) < l.length := by omega
    have h2 : (i : Int) < 20 := by omega
    obtain ⟨b, o, sp, c, c0, gg, ro, rfl, hb, hgb, ld0, ld1, ld2⟩ := Ops.at hv hil.1
    have hbB := hvB b o sp c rfl
    have hBn : B ≠ hh.next := by omega
    simp -implicitDefEqProofs [h1, h2, e1, hBn, L, List.take_of_length_le, wD_move, wD_keep, SOp.still, SOp.quiet, SOp.float, putD, Rec.same, sop]
    refine Len_spec g.toBufG (m := m) (es := es) fun h3 x3 => ?_
    have n3 : hh.next < h3.next := x3.next
    have e31 : h3.get B = .cells (bufC m es) false false := by rw [x3.get B (by simp; omega)]; simp [hBn, e1]
    have e32 : h3.get (B + 1) = .cells (bufC m es) false false := by rw [x3.get (B + 1) (by simp; omega)]; simp [e2]; omega
    have e33 : h3.get hh.next = .cells (zi 74) false false := by rw [x3.get hh.next (by simp)]; simp
    have e34 : h3.get b = .cells c0 gg ro := by rw [x3.get b (by simp; omega), ← hgb]; simp; omega
    have hbn : b ≠ hh.next := by omega
    have hb3 : b ≠ h3.next := by omega
    have hB3 : B ≠ h3.next := by omega
    have hh3 : hh.next ≠ h3.next := by omega
    have hil1 := hil.1
    have hI := iand_bound (a := l[i].loc) (m := 3) (by omega) (by omega)
    unfold c1_6 c1_6b
    simp -implicitDefEqProofs [e31, e33, e34, hbn, hb3, hB3, hh3, hil1, ld0, ld1, ld2, hBn, L, List.take_of_length_le, wD_move, wD_keep, SOp.still, SOp.quiet, SOp.float, putD, Rec.same, sop, Rec.apart, splice_all]
    refine Put_spec g.toBufG (by omega) fun h4 x4 => ?_
    have hadd : addS m es (iand .i64 l[i].loc 3) l[i].v i = es ++ [⟨iand .i64 l[i].loc 3, l[i].v, i⟩] := by rw [addS, if_neg (by omega)]
    rw [hadd]
    generalize hE : (⟨iand .i64 l[i].loc 3, l[i].v, i⟩ : Ent) = E at *
    have hxs : (es ++ [E]).length = es.length + 1 := by simp
    have LX := fun m => bufC_length (m := m) (es := es ++ [E]) (by omega)
    have n4 : h3.next < h4.next := x4.next
    have e41 : h4.get B = .cells (bufC m es) false false := by rw [x4.get B (by simp; omega)]; simp [hBn, hB3, e31]
    have hB1 : B + 1 ≠ hh.next := by omega
    have hB13 : B + 1 ≠ h3.next := by omega
    have e42 : h4.get (B + 1) = .cells (bufC m es) false false := by rw [x4.get (B + 1) (by simp; omega)]; simp [hB1, hB13, e32]
    have e43 : h4.get hh.next = .cells (bufC m es) false false := by rw [x4.get hh.next (by simp; omega)]; simp [hh3]
    have e44 : h4.get h3.next = .cells (zi 74) false false := by rw [x4.get h3.next (by simp)]; simp
    have e45 : h4.get b = .cells c0 gg ro := by rw [x4.get b (by simp; omega)]; simp [hbn, hb3, e34]
    have hb4 : b ≠ h4.next := by omega
    have hB4 : B ≠ h4.next := by omega
    have hB14 : B + 1 ≠ h4.next := by omega
    have hh4 : hh.next ≠ h4.next := by omega
    have h34 : h3.next ≠ h4.next := by omega
    unfold c1_7 c1_7b
    simp -implicitDefEqProofs [bufV, e41, e42, e43, e44, e45, hbn, hb3, hB3, hh3, hb4, hB4, hh4, h34, hil1, ld0, ld1, ld2, hBn, L, LX, List.take_of_length_le, wD_move, wD_keep, SOp.still, SOp.quiet, SOp.float, putD, Rec.same, sop, Rec.apart, splice_all]
    refine Drop_spec g.toBufG (by omega) fun h5 x5 => ?_
    have hdl := dropS_le (m := m) (loc := iand .i64 l[i].loc 3) (es := es) (by omega)
    have hdl2 : (dropS m (iand .i64 l[i].loc 3) es).length ≤ es.length := by
      unfold dropS; split
      · exact List.length_eraseIdx_le _ _
      · exact Nat.le_refl _
    have LY := fun m' => bufC_length (m := m') hdl
    have n5 : h4.next < h5.next := x5.next
    have e51 : h5.get B = .cells (bufC m es) false false := by rw [x5.get B (by simp; omega)]; simp [hB4, hB3, e41]
    have e52 : h5.get (B + 1) = .cells (bufC m es) false false := by rw [x5.get (B + 1) (by simp; omega)]; simp [hB14, hB13, e42]
    have e53 : h5.get hh.next = .cells (bufC m es) false false := by rw [x5.get hh.next (by simp; omega)]; simp [hh4, hh3, e43]
    have e54 : h5.get h3.next = .cells (bufC m (es ++ [E])) false false := by rw [x5.get h3.next (by simp; omega)]; simp [h34]
    have e55 : h5.get b = .cells c0 gg ro := by rw [x5.get b (by simp; omega)]; simp [hb3, hb4, e45]
    have e56 : h5.get h4.next = .cells (zi 74) false false := by rw [x5.get h4.next (by simp)]; simp
    have hq : cellsEq (zk 74) (bufC m es) (bufC m es) = some true := by rw [cellsEq_buf (by omega) (by omega)]; simp
    have hq2 : cellsEq (zk 74) (bufC m (es ++ [E])) (bufC m es) = some false := by rw [cellsEq_buf (by omega) (by omega)]; simp
    have hq3 : cellsEq (zk 74) (bufC m (es ++ [E])) (bufC m (es ++ [E])) = some true := by rw [cellsEq_buf (by omega) (by omega)]; simp
    have hwl : IntKind.i64.wrap ((es.length : Int) + 1) = (es.length : Int) + 1 := wrap64 (by omega)
    have hB5 : B ≠ h5.next := by omega
    unfold c1_8
    simp -implicitDefEqProofs [bufV, e51, e52, e53, e54, e55, e56, hbn, hb3, hB3, hh3, hb4, hB4, hh4, h34, hil1, ld0, ld1, ld2, hBn, L, LX, LY, hq, List.take_of_length_le, wD_move, wD_keep, SOp.still, SOp.quiet, SOp.float, putD, Rec.same, sop, Rec.apart, splice_all]
    refine Len_spec g.toBufG (m := m) (es := es) fun h6 x6 => ?_
    have n6 : h5.next ≤ h6.next := x6.next
    have e61 : h6.get B = .cells (bufC m es) false false := by rw [x6.get B (by simp; omega)]; simp [hB4, e51]
    have e62 : h6.get (B + 1) = .cells (bufC m es) false false := by rw [x6.get (B + 1) (by simp; omega)]; simp [hB14, e52]
    have e64 : h6.get h3.next = .cells (bufC m (es ++ [E])) false false := by rw [x6.get h3.next (by simp; omega)]; simp [h34, e54]
    have e65 : h6.get b = .cells c0 gg ro := by rw [x6.get b (by simp; omega)]; simp [hb4, e55]
    have e66 : h6.get h4.next = .cells (bufC m (dropS m (iand .i64 l[i].loc 3) es)) false false := by rw [x6.get h4.next (by simp; omega)]; simp
    simp -implicitDefEqProofs [bufV, e61, e64, e66, LX, List.take_of_length_le]
    refine Len_spec g.toBufG (m := m) (es := es ++ [E]) fun h7 x7 => ?_
    have n7 : h6.next ≤ h7.next := x7.next
    have e71 := (x7.get B (by omega)).trans e61
    have e72 := (x7.get (B + 1) (by omega)).trans e62
    have e74 := (x7.get h3.next (by omega)).trans e64
    have e75 := (x7.get b (by omega)).trans e65
    have e76 := (x7.get h4.next (by omega)).trans e66
    have hxs' : ((es ++ [E]).length : Int) = (es.length : Int) + 1 := by omega
    simp -implicitDefEqProofs [bufV, hxs, hwl, e76, LY, List.take_of_length_le]
    refine Len_spec g.toBufG (m := m) (es := dropS m (iand .i64 l[i].loc 3) es) fun h8 x8 => ?_
    have n8 : h7.next ≤ h8.next := x8.next
    have e81 := (x8.get B (by omega)).trans e71
    have e82 := (x8.get (B + 1) (by omega)).trans e72
    have e84 := (x8.get h3.next (by omega)).trans e74
    have e85 := (x8.get b (by omega)).trans e75
    have hdl3 : ¬ (es.length : Int) < ((dropS m (iand .i64 l[i].loc 3) es).length : Int) := by omega
    unfold c1_10 c1_11 c1_11b
    have hB18 : B + 1 ≠ h8.next := by omega
    have hb8 : b ≠ B := by omega
    have hb81 : b ≠ B + 1 := by omega
    simp -implicitDefEqProofs [bufV, hdl3, hq2, e81, e82, e84, e85, L, LX, hb8, hb81, hil1, ld0, ld1, ld2, List.take_of_length_le, wD_move, wD_keep, SOp.still, SOp.quiet, SOp.float, putD, Rec.same, sop, Rec.apart, splice_all]
    refine Put_spec g.toBufG (by omega) fun h9 x9 => ?_
    have hadd' : addS m es (iand .i64 l[i].loc 3) l[i].v i = es ++ [E] := by rw [hadd]
    rw [hadd']
    have n9 : h8.next ≤ h9.next := x9.next
    have e91 : h9.get B = .cells (bufC m (es ++ [E])) false false := by rw [x9.get B (by simp; omega)]; simp
    have e92 : h9.get (B + 1) = .cells (bufC m es) false false := by rw [x9.get (B + 1) (by simp; omega)]; simp [e82]
    have e95 : h9.get b = .cells c0 gg ro := by rw [x9.get b (by simp; omega)]; simp [hb8, e85]
    have ext9 : ∀ k, k < B → h9.get k = hh.get k := by
      intro k hk
      rw [x9.get k (by simp; omega), AH.put_get, if_neg (by omega), x8.get k (by omega), x7.get k (by omega), x6.get k (by simp; omega), AH.put_get, if_neg (by omega),
        x5.get k (by simp; omega), AH.alloc_get, if_neg (by simp; omega), AH.put_get, if_neg (by omega), x4.get k (by simp; omega), AH.alloc_get, if_neg (by simp; omega), AH.put_get, if_neg (by omega),
        x3.get k (by simp; omega), AH.alloc_get, if_neg (by omega)]
    have fin : ∀ (es' : List Ent) (h10 : AH), es'.length ≤ i + 1 → h10.get B = .cells (bufC m es') false false → h10.get (B + 1) = .cells (bufC m es') false false → B + 2 ≤ h10.next → (∀ k, k < B → h10.get k = hh.get k) →
        ∃ m_1, m_1 < l.length - i ∧ inv1 m l (.slice (some ⟨b, o, sp⟩) l.length c) m_1 [(1, .slice (some ⟨b, o, sp⟩) l.length c), (5, .pointer (some ⟨B, 0, none⟩)), (6, .pointer (some ⟨B + 1, 0, none⟩)), (7, .int .i64 ((i : Int) + 1))] h10 := by
      intro es' h10 q1 q2 q3 q4 q5
      refine ⟨l.length - (i + 1), by omega, i + 1, B, es', rfl, by omega, q1, by omega, q2, q3, q4, ?_, hvB, by simp⟩
      obtain ⟨s1, s2⟩ := hv
      refine ⟨s1, ?_⟩
      rcases s2 with ⟨s2, _⟩ | ⟨b', o', sp', c', c0', g', ro', r1, r2, r3, r4⟩
      · omega
      · simp only [Value.slice.injEq, Option.some.injEq, Addr.mk.injEq] at r1
        obtain ⟨⟨rfl, rfl, rfl⟩, _, rfl⟩ := r1
        exact .inr ⟨b, o, sp, c, c0', g', ro', rfl, by omega, by rw [q5 b hbB]; exact r3, r4⟩
    have hwi : IntKind.i64.wrap ((i : Int) + 1) = (i : Int) + 1 := wrap64 (by omega)
    unfold c1_12 c1_14 c1_15 c1_15b c1_16
    by_cases hk : l[i].kind = 0
    · simp -implicitDefEqProofs [bufV, hk, hwi, hq3, e91, e92, e95, L, LX, hb8, hb81, hil1, ld0, ld1, ld2, List.take_of_length_le, wD_move, wD_keep, SOp.still, SOp.quiet, SOp.float, putD, Rec.same, sop, Rec.apart, splice_all]
      refine fin (es ++ [E]) _ (by omega) ?_ ?_ ?_ ?_
      · simp [e91]
      · simp
      · simp; omega
      · intro k hk'; rw [AH.put_get, if_neg (by omega), ext9 k hk']
    · have hB19 : B + 1 ≠ h9.next := by omega
      simp -implicitDefEqProofs [bufV, hk, hwi, hq3, e91, e92, e95, L, LX, hb8, hb81, hil1, ld0, ld1, ld2, List.take_of_length_le, wD_move, wD_keep, SOp.still, SOp.quiet, SOp.float, putD, Rec.same, sop, Rec.apart, splice_all]
      refine Drop_spec g.toBufG (by omega) fun h10 x10 => ?_
      have hdE := dropS_le (m := m) (loc := iand .i64 l[i].loc 3) (es := es ++ [E]) (by omega)
      have hdE2 : (dropS m (iand .i64 l[i].loc 3) (es ++ [E])).length ≤ (es ++ [E]).length := by
        unfold dropS; split
        · exact List.length_eraseIdx_le _ _
        · exact Nat.le_refl _
      have LZ := fun m' => bufC_length (m := m') hdE
      have n10 : h9.next ≤ h10.next := x10.next
      have ea1 : h10.get B = .cells (bufC m (es ++ [E])) false false := by rw [x10.get B (by simp; omega)]; simp [e91]
      have ea2 : h10.get (B + 1) = .cells (bufC m (es ++ [E])) false false := by rw [x10.get (B + 1) (by simp; omega)]; simp
      have ea5 : h10.get b = .cells c0 gg ro := by rw [x10.get b (by simp; omega)]; simp [hb81, e95]
      simp -implicitDefEqProofs [bufV, ea1, ea2, ea5, e91, e92, e95, L, LX, LZ, hb8, hb81, hil1, ld0, ld1, ld2, List.take_of_length_le, wD_move, wD_keep, SOp.still, SOp.quiet, SOp.float, putD, Rec.same, sop, Rec.apart, splice_all]
      refine Drop_spec g.toBufG (by omega) fun h11 x11 => ?_
      have n11 : h10.next ≤ h11.next := x11.next
      have eb1 := (x11.get B (by omega)).trans ea1
      have eb2 := (x11.get (B + 1) (by omega)).trans ea2
      have eb5 := (x11.get b (by omega)).trans ea5
      simp -implicitDefEqProofs [bufV, eb1, eb2, eb5, hwi, L, LX, LZ, hb8, hb81, hil1, ld0, ld1, ld2, List.take_of_length_le, wD_move, wD_keep, SOp.still, SOp.quiet, SOp.float, putD, Rec.same, sop, Rec.apart, splice_all]
      refine fin (dropS m (iand .i64 l[i].loc 3) (es ++ [E])) _ (by omega) ?_ ?_ ?_ ?_
      · simp
      · simp
      · simp; omega
      · intro k hk'
        rw [AH.put_get, if_neg (by omega), AH.put_get, if_neg (by omega), x11.get k (by omega), x10.get k (by simp; omega), AH.put_get, if_neg (by omega), ext9 k hk']
  · have hq : cellsEq (zk 74) (bufC m es) (bufC m es) = some true := by rw [cellsEq_buf (by omega) (by omega)]; simp
    subst ev
    have hc : ((i : Int) < l.length) = (i < l.length) := by simp
    unfold c1_18
    by_cases h1 : i < l.length
    · have h2 : ¬ (i : Int) < 20 := by omega
      simp -implicitDefEqProofs [h1, h2, e1, e2, L, hq, List.take_of_length_le]
      exact awake_spec g fun h7 x7 => by simp -implicitDefEqProofs
    · simp -implicitDefEqProofs [h1, e1, e2, L, hq, List.take_of_length_le]
      exact awake_spec g fun h7 x7 => by simp -implicitDefEqProofs
end Go.Jq
