/- Stores that wait: BufOrder, walked to its end. -/
import Derived.Test.YtcgpmahbigdikaaB11
set_option linter.unusedSimpArgs false
set_option linter.unusedVariables false
namespace Go.Jq
variable {G : Nat → SFunc} {h : AH} {R : Value → AH → Prop}

theorem order_d (g : BufL G) {l : List OpT} {v : Value} {n B c : Nat} (_ : c < 4) (hn : n ≤ l.length) (hn20 : n ≤ 20) {k : Nat} {F : Fr} {hh : AH} {R : SExit → Fr → AH → Prop} (I : inv2d l v n B c k F hh)
    (K : ∀ (hh' : AH) (t102 : Value), MemO l v B [] (leftO (entsO l n) c n) hh' → R (.exit 6) [(0, v), (3, .pointer (some ⟨B, 0, none⟩)), (4, .pointer (some ⟨B + 1, 0, none⟩)), (5, .int .i64 n), (12, .int .i64 c), (13, .int .i64 n), (102, t102)] hh') :
    W G c2_27 (F.keep [0, 3, 4, 5, 12, 13]) hh (loopK (fun F1 h1 => ∃ m, m < k ∧ inv2d l v n B c m F1 h1) R) := by
  obtain ⟨i, rfl, hi, M, rfl⟩ := I
  unfold c2_27 c2_20 c2_21 c2_22 c2_23 c2_25 c2_26
  have hlen := entsO_length l n
  by_cases hin : i < n
  · have h1 : (i : Int) < n := by omega
    obtain ⟨b, o, sp, cap, c0, gg, ro, rfl, hb, hgb, ld0, ld1, ld2⟩ := Ops.at M.ops (i := i) (by omega)
    have hbB := M.low b o sp cap rfl
    have hil : i < l.length := by omega
    have hwi : IntKind.i64.wrap ((i : Int) + 1) = (i : Int) + 1 := wrap64 (by omega)
    have hes : (entsO l n)[i]'(by omega) = entO l i := by simp [entsO]
    have hloc : (entO l i).loc = iand .i64 l[i].loc 3 := by rw [entO_eq hil]
    by_cases hc : iand .i64 l[i].loc 3 = c
    · have hle := leftO_le (entsO l n) c i
      have hdl : (leftO (entsO l n) c i).length ≤ 24 := by omega
      have hle' := leftO_le (entsO l n) c (i + 1)
      have L := fun m => bufC_length (m := m) hdl
      have L' := fun m => bufC_length (m := m) (es := leftO (entsO l n) c (i + 1)) (by omega)
      have e2 := M.p
      have nx := M.nx
      simp -implicitDefEqProofs [h1, hgb, hil, ld1, hc, e2, L, List.take_of_length_le]
      refine Oldest_spec g.toBufG (m := 3) hdl fun h3 x3 => ?_
      obtain ⟨q, o1, o2, o3⟩ := oldN_left (es := entsO l n) (c := c) (i := i) (by omega) (by rw [hes, hloc, hc])
      have hold : oldV 3 c (leftO (entsO l n) c i) = .tuple #[.int .i64 (entO l i).loc, .int .i64 (entO l i).v, .int .i64 i, .bool true] := by
        rw [oldV, o1]
        simp only [o2, hes]
        simp [entO]
      rw [hold, entO_eq hil]
      have M3 := M.ext x3
      have e32 := M3.p
      have hg3 := (x3.get b (by omega)).trans hgb
      simp -implicitDefEqProofs [e32, hg3, hil, hc, ld1, ld2, L, List.take_of_length_le]
      refine Drop_spec g.toBufG (m := 3) hdl fun h4 x4 => ?_
      have hds : dropS 3 c (leftO (entsO l n) c i) = leftO (entsO l n) c (i + 1) := by rw [dropS, o1]; exact o3
      rw [hds]
      have M4 := M3.ext x4
      have e42 := M4.p
      simp -implicitDefEqProofs [bufV, e42, hwi, L, L', splice_all, List.take_of_length_le]
      exact ⟨n - (i + 1), by omega, i + 1, rfl, hin, M3.putP x4, by simp⟩
    · simp -implicitDefEqProofs [h1, hgb, hil, ld1, hc, hwi]
      refine ⟨n - (i + 1), by omega, i + 1, rfl, hin, ?_, by simp⟩
      rw [leftO_skip (by omega) (by rw [hes, hloc]; exact hc)]
      exact M
  · have : i = n := by omega
    subst this
    simp -implicitDefEqProofs
    exact K hh _ M

theorem order_c (g : BufL G) {l : List OpT} {v : Value} {n B : Nat} (hn : n ≤ l.length) (hn20 : n ≤ 20) {k : Nat} {F : Fr} {hh : AH} {R : SExit → Fr → AH → Prop} (I : inv2c l v n B k F hh)
    (K : ∀ (hh' : AH) (t97 : Value), MemO l v B [] [] hh' → R (.exit 4) (fr2 v B n 12 4 ++ [(97, t97)]) hh') :
    W G c2_29 (F.keep [0, 3, 4, 5, 12]) hh (loopK (fun F1 h1 => ∃ m, m < k ∧ inv2c l v n B m F1 h1) R) := by
  obtain ⟨c, rfl, hc, M, rfl⟩ := I
  unfold c2_29 c2_18 c2_19 c2_28
  have hlen := entsO_length l n
  by_cases hc4 : c < 4
  · have h1 : (c : Int) < 4 := by omega
    simp -implicitDefEqProofs [fr2, h1]
    refine W_loop (inv2d l v n B c) n ⟨0, by omega, by omega, M, rfl⟩ ?_
    intro k F hh I
    refine order_d g hc4 hn hn20 I fun hh' t102 M' => ?_
    have hwi : IntKind.i64.wrap ((c : Int) + 1) = (c : Int) + 1 := wrap64 (by omega)
    simp -implicitDefEqProofs [hwi]
    refine ⟨4 - (c + 1), by omega, c + 1, rfl, by omega, ?_, by simp [fr2]⟩
    have := leftO_end (es := entsO l n) (c := c)
    rw [hlen] at this
    rw [this] at M'
    exact M'
  · have : c = 4 := by omega
    subst this
    simp -implicitDefEqProofs [fr2]
    refine K hh _ ?_
    have : leftO (entsO l n) 4 0 = [] := leftO_four fun e he => by
      obtain ⟨j, _, rfl⟩ := List.mem_map.1 he
      exact (entO_loc l j).2
    rw [show ((4 : Nat) : Int) = 4 from rfl, this] at M
    exact M

theorem BufOrder_spec (g : BufL G) {l : List OpT} {v : Value} (hv : Ops h l v) (hlv : ∀ b o sp c, v = .slice (some ⟨b, o, sp⟩) l.length c → b < h.next) : WC G 2 [v] h fun v _ => v = .bool true := by
  refine WC_enter g.g2 rfl ?_
  show W G c2_body _ _ (retK [.tmp 2] _)
  unfold c2_body c2_0 c2_1 c2_2 c2_3
  simp -implicitDefEqProofs
  refine New_spec g.toBufG fun h1 x1 => ?_
  simp -implicitDefEqProofs
  refine New_spec g.toBufG fun h2 x2 => ?_
  have hl := fun m => bufC_length (m := m) (es := []) (by simp)
  obtain ⟨av, cv, ev⟩ := SlV.len hv
  simp -implicitDefEqProofs [bufV, hl, splice_all, show newM 2 = 2 from rfl, show newM 3 = 3 from rfl, ev]
  rw [← ev]
  have x3 := x1.trans x2
  have hmin : (if 20 < (l.length : Int) then (20 : Int) else l.length) = ((min l.length 20 : Nat) : Int) := by split <;> omega
  rw [hmin]
  generalize hn : min l.length 20 = n
  have hn1 : n ≤ l.length := by omega
  have hn20 : n ≤ 20 := by omega
  refine W_loop (inv2a l v n) n ?_ ?_
  · refine ⟨0, h2.next, by omega, by omega, ⟨by simp [entsO], by simp [entsO], by simp, ?_, ?_⟩, rfl⟩
    · exact SlV.ext hv ((((x3.alloc _).alloc _).put x3.next _).put (Nat.le_trans x3.next (Nat.le_succ _)) _)
    · intro b o sp c e
      exact Nat.lt_of_lt_of_le (hlv b o sp c e) x3.next
  intro k F hh I
  refine order_a g hn1 hn20 I fun hh' B t25 M => ?_
  unfold c2_9
  simp -implicitDefEqProofs [fr2]
  refine W_loop (inv2b l v n B) n ⟨0, by omega, by omega, M, rfl⟩ ?_
  intro k F hh I
  refine order_b g hn1 hn20 I fun hh' t58 M => ?_
  unfold c2_17
  simp -implicitDefEqProofs [fr2]
  have h0 : leftO (entsO l n) 0 0 = entsO l n := leftO_zero fun e he => by
    obtain ⟨j, _, rfl⟩ := List.mem_map.1 he
    exact (entO_loc l j).1
  refine W_loop (inv2c l v n B) 4 ⟨0, by omega, by omega, by rw [show ((0 : Nat) : Int) = 0 from rfl, h0]; exact M, rfl⟩ ?_
  intro k F hh I
  refine order_c g hn1 hn20 I fun hh' t97 M => ?_
  unfold c2_30
  have e1 := M.t
  have nx := M.nx
  simp -implicitDefEqProofs [fr2, e1, hl, List.take_of_length_le]
  refine Empty_spec g.toBufG (m := 2) (es := []) fun h3 y3 => ?_
  have M3 := M.ext y3
  have e32 := M3.p
  simp -implicitDefEqProofs [e32, hl, List.take_of_length_le]
  refine Empty_spec g.toBufG (m := 3) (es := []) fun h4 y4 => ?_
  have M4 := M3.ext y4
  have e41 := M4.t
  simp -implicitDefEqProofs [e41, hl, List.take_of_length_le]
  refine Drop_spec g.toBufG (m := 2) (es := []) (by simp) fun h5 y5 => ?_
  simp -implicitDefEqProofs
  refine Empty_spec g.toBufG (m := 2) (es := dropS 2 0 []) fun h6 y6 => ?_
  simp -implicitDefEqProofs [show dropS 2 0 [] = [] from rfl]
  exact awake_spec g fun h7 y7 => by simp -implicitDefEqProofs
end Go.Jq
