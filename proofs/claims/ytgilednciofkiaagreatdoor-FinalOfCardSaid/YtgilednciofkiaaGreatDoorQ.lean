/- Programs, step by step: the program's own. -/
import Derived.Test.YtgilednciofkiaaGreatDoorI
import Derived.Test.YtgilednciofkiaaGreatDoorK2
import Derived.Test.YtgilednciofkiaaGreatDoorC
import Derived.Test.YtgilednciofkiaaGreatDoorH2
import Derived.Test.YtgilednciofkiaaGreatDoorT
set_option linter.unusedSimpArgs false
set_option linter.unusedVariables false
namespace Go.Jq
variable {G : Nat → SFunc} {h h1 : AH} {R : Value → AH → Prop}
def valQ (r v : Int) (l : Lcl) : Int := if r = 0 then l.r0 else if r = 1 then l.r1 else if r = 2 then l.r2 else if r = 3 then l.r3 else v
theorem valQ_M {r v : Int} {l : Lcl} (h : r = -1 ∨ r = 0 ∨ r = 1) : valQ r v l = valM r v l := by
  unfold valQ valM
  rcases h with rfl | rfl | rfl <;> simp
structure ProgG (G : Nat → SFunc) : Prop where
  g174 : G 174 = c174
  g175 : G 175 = c175
  g176 : G 176 = c176
  g112 : G 112 = c112
  g111 : G 111 = c111
  g60 : G 60 = c60
  g113 : G 113 = c113
  g116 : G 116 = c116
theorem Value_q (g : ProgG G) {r v : Int} {l : Lcl} (k : R (.int .i64 (valQ r v l)) h) : WC G 174 [.agg #[.int .i64 r, .int .i64 v], .agg #[.int .i64 l.pc, .int .i64 l.r0, .int .i64 l.r1, .int .i64 l.r2, .int .i64 l.r3]] h R := by
  refine WC_pure (WC_enter g.g174 rfl ?_)
  simp -implicitDefEqProofs [c174, c174_body, c174_0, c174_1]
  by_cases h0 : 0 ≤ r ∧ r < 4
  · have : r = 0 ∨ r = 1 ∨ r = 2 ∨ r = 3 := by omega
    rcases this with rfl | rfl | rfl | rfl <;> simp -implicitDefEqProofs [c174_2, Ext.lays] <;> simpa [valQ] using k
  · have e : valQ r v l = v := by
      unfold valQ
      rw [if_neg (by omega), if_neg (by omega), if_neg (by omega), if_neg (by omega)]
    rw [e] at k
    by_cases h1 : 0 ≤ r
    · have h2 : ¬ r < 4 := by omega
      simp -implicitDefEqProofs [h1, h2, c174_3, Ext.lays]
      exact k
    · simp -implicitDefEqProofs [h1, c174_3, Ext.lays]
      exact k
theorem Do_q (g : ProgG G) {a b : Int} (k : R (.tuple #[.int .i64 (ixor .i64 a b), .bool true]) h) : WC G 175 [.int .i64 6, .int .i64 a, .int .i64 b] h R := by
  refine WC_pure (WC_enter g.g175 rfl ?_)
  simp -implicitDefEqProofs [c175, c175_body, c175_0, c175_1, c175_2, c175_3, c175_5, c175_7, c175_9, c175_11, c175_13, c175_14, Ext.refl]
  exact k
theorem set_q (g : ProgG G) {r x : Int} {l : Lcl} {b : Nat} {gr : Bool} (hr : r = 0 ∨ r = 1) (hg : h.get b = .cells l.c gr false) (k : R (.tuple #[]) (h.put b (.cells (l.set r x).c gr false))) : WC G 176 [.pointer (some ⟨b, 0, none⟩), .int .i64 r, .int .i64 x] h R := by
  refine WC_enter g.g176 rfl ?_
  have lc : l.c = [.int .i64 l.pc, .int .i64 l.r0, .int .i64 l.r1, .int .i64 l.r2, .int .i64 l.r3] := rfl
  rw [lc] at hg
  rcases hr with rfl | rfl
  · simp -implicitDefEqProofs [c176, c176_body, c176_0, c176_1, hg]
    exact k
  · simp -implicitDefEqProofs [c176, c176_body, c176_0, c176_1, hg]
    exact k
theorem thread_q (g : ProgG G) {p : Prg} {lv iv tv : Value} (V : PrgV h p lv iv tv) {t : Nat} {th : List Ins} (ht : t < p.ths.length) (hth : p.ths[t] = th) (k : ∀ h1 u, Ext h h1 → SlV 9 h th.length (th.flatMap Ins.c) u → R u h1) : WC G 112 [.agg #[lv, iv, tv], .int .i64 t] h R := by
  subst hth
  obtain ⟨b, o, sp, c, c0, gg, ro, u, rfl, hb, hg, hu, su⟩ := V.ths.at ht
  refine WC_enter g.g112 rfl ?_
  simp -implicitDefEqProofs [c112, c112_body, c112_0, c112_1, show ¬ (t : Int) < 0 by omega, show ¬ (p.ths.length : Int) ≤ t by omega, show ¬ p.ths.length ≤ t by omega, ht, c112_3, AH.lays_lt hb, hg, hu]
  exact k _ _ .lays su
def inv111 (h : AH) (th : List Ins) (tv : Value) (l0 : Lcl) (mm : Nat) (F : Fr) (hh : AH) : Prop :=
  ∃ l : Lcl, mm = th.length - l.pc ∧ nrm th l = nrm th l0 ∧ Ext h hh ∧ h.next + 2 ≤ hh.next ∧ hh.get h.next = .cells l.c false false ∧ hh.get (h.next + 1) = .cells (zi 5) false false ∧ F = [(0, tv), (3, ptrV h.next), (4, ptrV (h.next + 1))]
set_option maxHeartbeats 4000000 in
theorem normal_q (g : ProgG G) {th : List Ins} {tv : Value} {n : Nat} (S : SlV 9 h th.length (th.flatMap Ins.c) tv) (ok : TOk (plP n) th) (hlen : th.length ≤ 1000) {l : Lcl} (k : R (nrm th l).v h) :
    WC G 111 [tv, .agg #[.int .i64 l.pc, .int .i64 l.r0, .int .i64 l.r1, .int .i64 l.r2, .int .i64 l.r3]] h R := by
  refine WC_is (by simp) k fun R' k => ?_
  obtain ⟨ta, tc, rfl⟩ := S.len
  refine WC_enter g.g111 rfl ?_
  have lc : ∀ l : Lcl, l.c = [.int .i64 l.pc, .int .i64 l.r0, .int .i64 l.r1, .int .i64 l.r2, .int .i64 l.r3] := fun _ => rfl
  have z5 : zi 5 = [.int .i64 0, .int .i64 0, .int .i64 0, .int .i64 0, .int .i64 0] := rfl
  have z9 : zi 9 = [.int .i64 0, .int .i64 0, .int .i64 0, .int .i64 0, .int .i64 0, .int .i64 0, .int .i64 0, .int .i64 0, .int .i64 0] := rfl
  simp -implicitDefEqProofs [c111, c111_body, c111_0]
  refine W_loop (inv111 h th (.slice ta th.length tc) l) (th.length - l.pc) ⟨l, rfl, rfl, .lays, by simp, by simp [lc], by simp, by simp [ptrV]⟩ ?_
  rintro mm F hh ⟨m, rfl, hn, x, nh, g0, g1, rfl⟩
  have q1 : h.next < hh.next := by omega
  have q2 : h.next + 1 < hh.next := by omega
  have q3 : ¬ h.next = hh.next := by omega
  have q4 : ¬ h.next + 1 = hh.next := by omega
  have S1 := S.ext x
  rw [lc] at g0
  have eq := nrm.eq_1 th m
  simp -implicitDefEqProofs [c111_15, c111_1, ptrV, g0]
  by_cases h1 : m.pc < th.length
  · rw [dif_pos h1] at eq
    obtain ⟨b, o, sp, c0, gg, ro, rfl, hb, hg, hle, hrow, hrd⟩ := S1.rd (f := Ins.c) (fun _ => rfl) h1
    have cls := (ok.ok _ (List.getElem_mem h1)).cls
    generalize th[m.pc] = i at *
    have ic : i.c = [.int .i64 i.kind, .int .i64 i.reg, .int .i64 i.loc, .int .i64 i.areg, .int .i64 i.aval, .int .i64 i.op, .int .i64 i.breg, .int .i64 i.bval, .int .i64 i.n] := rfl
    rw [ic] at hrow
    have pc1 : IntKind.i64.wrap ((m.pc : Int) + 1) = ((m.pc + 1 : Nat) : Int) := by rw [wrap64 (by omega)]; rfl
    simp -implicitDefEqProofs [h1, show (m.pc : Int) < th.length by omega, c111_2, g0, hg, hle, hrow, z9, splice, c111_3, c111_3b, AH.lays_lt q1, q3]
    refine Value_q (l := m) g ?_
    simp -implicitDefEqProofs [AH.lays_lt q1, g0]
    refine Value_q (l := m) g ?_
    simp -implicitDefEqProofs [AH.lays_lt q1, g0, c111_4, c111_5]
    have hL : ∀ L, Ext h (hh.lays L) := fun L => x.lays'
    rcases cls with ⟨k5, hr, ha, ho, hbr⟩ | ⟨k6, ha, hbr, hn1⟩ | ⟨k5, k6⟩
    · rw [if_pos k5] at eq
      have sv : setV i m = ixor .i64 (valM i.areg i.aval m) (valM i.breg i.bval m) := by unfold setV; rw [if_neg (by omega)]
      simp -implicitDefEqProofs [eq_true k5, c111_6, ho, valQ_M ha, valQ_M (.inl hbr : i.breg = -1 ∨ i.breg = 0 ∨ i.breg = 1)]
      refine Do_q g ?_
      simp -implicitDefEqProofs [c111_7, c111_8, c111_9]
      rw [← sv]
      refine set_q (l := m) g (by omega) (by rw [AH.lays_lt q1, g0]; rfl) ?_
      have e2 : (m.set i.reg (setV i m)).c = [.int .i64 m.pc, .int .i64 (m.set i.reg (setV i m)).r0, .int .i64 (m.set i.reg (setV i m)).r1, .int .i64 (m.set i.reg (setV i m)).r2, .int .i64 (m.set i.reg (setV i m)).r3] := by rw [lc, Lcl.set_pc]
      rw [e2]
      simp -implicitDefEqProofs [c111_14, pc1]
      refine ⟨th.length - (m.pc + 1), by omega, { m.set i.reg (setV i m) with pc := m.pc + 1 }, rfl, by rw [← eq, hn], ((hL _).put (by omega) _).put (by omega) _, ?_, ?_, ?_, by simp [ptrV]⟩
      · simp [AH.put_next]; omega
      · simp [AH.put_get, lc]
      · simp [AH.put_get, AH.lays_lt q2, g1]
    · have pc2 : IntKind.i64.wrap ((m.pc : Int) + 1 + 1) = ((m.pc + 1 + 1 : Nat) : Int) := by rw [wrap64 (by omega)]; rfl
      rw [if_neg (by omega), if_pos k6] at eq
      simp -implicitDefEqProofs [eq_true k6, eq_false (show ¬ i.kind = 5 by omega), c111_10, c111_11, valQ_M ha, valQ_M (.inl hbr : i.breg = -1 ∨ i.breg = 0 ∨ i.breg = 1)]
      by_cases hv : valM i.areg i.aval m = valM i.breg i.bval m
      · rw [if_pos hv] at eq
        simp -implicitDefEqProofs [eq_true hv, c111_12, AH.lays_lt q1, g0, hn1, pc1, show ¬ (th.length : Int) < 1 by omega, c111_14, pc2]
        refine ⟨th.length - (m.pc + 1 + 1), by omega, { m with pc := m.pc + 1 + 1 }, rfl, by rw [← eq, hn], ((hL _).put (by omega) _).put (by omega) _, ?_, ?_, ?_, by simp [ptrV]⟩
        · simp [AH.put_next]; omega
        · simp [AH.put_get, lc]
        · simp [AH.put_get, AH.lays_lt q2, g1]
      · rw [if_neg hv] at eq
        simp -implicitDefEqProofs [eq_false hv, c111_14, AH.lays_lt q1, g0, pc1]
        refine ⟨th.length - (m.pc + 1), by omega, { m with pc := m.pc + 1 }, rfl, by rw [← eq, hn], (hL _).put (by omega) _, ?_, ?_, ?_, by simp [ptrV]⟩
        · simp [AH.put_next]; omega
        · simp [AH.put_get, lc]
        · simp [AH.put_get, AH.lays_lt q2, g1]
    · simp -implicitDefEqProofs [eq_false k5, eq_false k6, c111_10, c111_13, AH.lays_lt q1, AH.lays_lt q2, g0, g1, z5, splice]
      rw [if_neg k5, if_neg k6] at eq
      rw [← hn, eq] at k
      exact k _ ((hL _).put (by omega) _)
  · rw [dif_neg h1] at eq
    simp -implicitDefEqProofs [h1, show ¬ (m.pc : Int) < th.length by omega, c111_16, g0, g1, z5, splice]
    rw [← hn, eq] at k
    exact k _ (x.put (by omega) _)
theorem Start_q (g : ProgG G) {p : Prg} {lv iv tv : Value} (V : PrgV h p lv iv tv) {n : Nat} {t : Nat} {th : List Ins} (ht : t < p.ths.length) (hth : p.ths[t] = th) (ok : TOk (plP n) th) (hlen : th.length ≤ 1000) (k : R (nrm th .zero).v h) : WC G 60 [.agg #[lv, iv, tv], .int .i64 t] h R := by
  refine WC_is (by simp) k fun R' k => ?_
  have z5 : zi 5 = [.int .i64 0, .int .i64 0, .int .i64 0, .int .i64 0, .int .i64 0] := rfl
  refine WC_enter g.g60 rfl ?_
  simp -implicitDefEqProofs [c60, c60_body, c60_0, c60_1]
  refine thread_q g (V.ext .lays) ht hth fun h1 u x1 su => ?_
  have n1 := x1.next
  simp at n1
  have g1 : h1.get (h.next + 1) = .cells (zi 5) false false := by rw [x1.get _ (by simp)]; simp
  simp -implicitDefEqProofs [z5]
  refine normal_q (l := .zero) g (su.ext x1) ok hlen ?_
  simp -implicitDefEqProofs [Lcl.v, Lcl.c, g1, z5, splice]
  exact k _ ((Ext.lays.trans x1).put (by omega) _)
def i0 (th : List Ins) (l : Lcl) (h : l.pc < th.length) : Prop := 1 ≤ th[l.pc].kind ∧ th[l.pc].kind ≤ 6
theorem i0_of {n : Nat} {th : List Ins} {l : Lcl} (ok : TOk (plP n) th) (h : l.pc < th.length) : i0 th l h := by
  have := ok.ok _ (List.getElem_mem h)
  unfold i0
  unfold iOk at this
  rcases this with e | e | e | e | e | e <;> (have := e.1; omega)
theorem Next_q (g : ProgG G) {p : Prg} {lv iv tv : Value} (V : PrgV h p lv iv tv) {n : Nat} {t : Nat} {th : List Ins} (ht : t < p.ths.length) (hth : p.ths[t] = th) (ok : TOk (plP n) th) {l : Lcl} (k : R (nextV th l) h) : WC G 113 [.agg #[lv, iv, tv], .int .i64 t, .agg #[.int .i64 l.pc, .int .i64 l.r0, .int .i64 l.r1, .int .i64 l.r2, .int .i64 l.r3]] h R := by
  refine WC_is (by simp) k fun R' k => ?_
  have z9 : zi 9 = [.int .i64 0, .int .i64 0, .int .i64 0, .int .i64 0, .int .i64 0, .int .i64 0, .int .i64 0, .int .i64 0, .int .i64 0] := rfl
  refine WC_enter g.g113 rfl ?_
  simp -implicitDefEqProofs [c113, c113_body, c113_0, c113_1]
  refine thread_q g (V.ext .lays) ht hth fun h1 u x1 su => ?_
  have n1 := x1.next
  simp at n1
  have g1 : h1.get (h.next + 1) = .cells [.int .i64 l.pc, .int .i64 l.r0, .int .i64 l.r1, .int .i64 l.r2, .int .i64 l.r3] false false := by rw [x1.get _ (by simp)]; simp
  have g2 : h1.get (h.next + 2) = .cells (zi 9) false false := by rw [x1.get _ (by simp)]; simp
  obtain ⟨ua, uc, rfl⟩ := su.len
  have np : ¬ (l.pc : Int) < 0 := by omega
  have kn : nextM th l = none → ∀ hh, Ext h hh → R' (.tuple #[Ins.zero.v, .bool false]) hh := fun e hh x => by
    have := k hh x
    unfold nextV at this
    rw [e] at this
    exact this
  by_cases h1' : l.pc < th.length
  · obtain ⟨b, o, sp, c0, gg, ro, rfl, hb, hg, hle, hrow, hrd⟩ := su.rd (f := Ins.c) (fun _ => rfl) h1'
    have hb1 : b < h1.next := Nat.lt_of_lt_of_le hb x1.next
    have hg1 : h1.get b = .cells c0 gg ro := by rw [x1.get b hb]; exact hg
    have ki : i0 th l h1' := i0_of ok h1'
    have en : nextM th l = if th[l.pc].kind = 5 ∨ th[l.pc].kind = 6 then none else some th[l.pc] := by unfold nextM; rw [dif_pos h1']
    unfold i0 at ki
    generalize th[l.pc] = i at *
    have ic : i.c = [.int .i64 i.kind, .int .i64 i.reg, .int .i64 i.loc, .int .i64 i.areg, .int .i64 i.aval, .int .i64 i.op, .int .i64 i.breg, .int .i64 i.bval, .int .i64 i.n] := rfl
    rw [ic] at hrow
    simp -implicitDefEqProofs [c113_2, g1, np, h1', show ¬ (th.length : Int) ≤ l.pc by omega, show ¬ th.length ≤ l.pc by omega, c113_4, hg1, hle, hrow, z9, splice, c113_5]
    by_cases h5 : i.kind = 5 ∨ i.kind = 6
    · rw [if_pos h5] at en
      simp -implicitDefEqProofs [show ¬ i.kind < 1 by omega, show (4 : Int) < i.kind by omega, c113_6, AH.lays_lt (show h.next + 2 < h1.next by omega), g2, z9, splice]
      exact kn en _ ((Ext.lays.trans x1).lays'.put (by omega) _)
    · rw [if_neg h5] at en
      simp -implicitDefEqProofs [show ¬ i.kind < 1 by omega, show ¬ (4 : Int) < i.kind by omega, c113_7, AH.lays_lt (show h.next + 2 < h1.next by omega), g2, z9, splice]
      have := k _ (((Ext.lays.trans x1).lays' (L := [.cells i.c false false])).put (i := h.next + 2) (by omega) (.cells i.c false false))
      unfold nextV at this
      rw [en] at this
      simpa [Ins.v, Ins.c] using this
  · have en : nextM th l = none := by unfold nextM; rw [dif_neg h1']
    simp -implicitDefEqProofs [c113_2, g1, np, show (th.length : Int) ≤ l.pc by omega, show th.length ≤ l.pc by omega, c113_3, g2, z9, splice]
    exact kn en _ ((Ext.lays.trans x1).put (by omega) _)
end Go.Jq
namespace Go.Jq
variable {G : Nat → SFunc} {h h1 : AH} {R : Value → AH → Prop}
theorem After_q (g : ProgG G) {p : Prg} {lv iv tv : Value} (V : PrgV h p lv iv tv) {n : Nat} {t : Nat} {th : List Ins} (ht : t < p.ths.length) (hth : p.ths[t] = th) (ok : TOk (plP n) th) (hlen : th.length ≤ 1000) {l : Lcl} {x : Int} (k : R (aftM th l x).v h) :
    WC G 116 [.agg #[lv, iv, tv], .int .i64 t, .agg #[.int .i64 l.pc, .int .i64 l.r0, .int .i64 l.r1, .int .i64 l.r2, .int .i64 l.r3], .int .i64 x] h R := by
  refine WC_is (by simp) k fun R' k => ?_
  have z5 : zi 5 = [.int .i64 0, .int .i64 0, .int .i64 0, .int .i64 0, .int .i64 0] := rfl
  have z9 : zi 9 = [.int .i64 0, .int .i64 0, .int .i64 0, .int .i64 0, .int .i64 0, .int .i64 0, .int .i64 0, .int .i64 0, .int .i64 0] := rfl
  refine WC_enter g.g116 rfl ?_
  simp -implicitDefEqProofs [c116, c116_body, c116_0, c116_1]
  refine Next_q g (V.ext .lays) ht hth ok ?_
  cases en : nextM th l with
  | none =>
    have ea : aftM th l x = l := by unfold aftM; rw [en]
    rw [ea] at k
    unfold nextV
    rw [en]
    simp -implicitDefEqProofs [Ins.zero, Ins.v, Ins.c, z9, z5, splice, c116_2, c116_3]
    exact k _ .lays
  | some i =>
    obtain ⟨hm, hl, k5, k6⟩ := nextM_mem en
    have ea : aftM th l x = nrm th { (if i.kind = 2 ∨ i.kind = 4 then l.set i.reg x else l) with pc := l.pc + 1 } := by unfold aftM; rw [en]
    rw [ea] at k
    have oi := ok.ok i hm
    have rd := oi.reads
    have pc1 : IntKind.i64.wrap ((l.pc : Int) + 1) = ((l.pc + 1 : Nat) : Int) := by rw [wrap64 (by omega)]; rfl
    unfold nextV
    rw [en]
    simp -implicitDefEqProofs [Ins.v, Ins.c, z9, z5, splice, c116_2, c116_4]
    have tail : ∀ (m : Lcl) (L : List ABlk), m.pc = l.pc → (∀ hh, Ext h hh → R' (nrm th { m with pc := l.pc + 1 }).v hh) → wO G c116_6 [(1, .int .i64 t), (4, .pointer (some ⟨h.next, 0, none⟩)), (6, .pointer (some ⟨h.next + 1, 0, none⟩)), (8, .pointer (some ⟨h.next + 2, 0, none⟩))]
        (h.lays (.cells [lv, iv, tv] false false :: .cells [.int .i64 m.pc, .int .i64 m.r0, .int .i64 m.r1, .int .i64 m.r2, .int .i64 m.r3] false false :: .cells (zi 5) false false :: L)) (keepK [1, 4, 6, 8] (thenK (W G ((SCode.dreg [8] c116_7 c116_7b).seq SCode.ret)) (retK [SRes.cellN 8 5] R'))) := by
      intro m L em km
      rw [em]
      simp -implicitDefEqProofs [c116_6, pc1, c116_7, c116_7b]
      refine thread_q g (V.ext .lays) ht hth fun h1 u x1 su => ?_
      have n1 := x1.next
      simp at n1
      have g1 : h1.get (h.next + 1) = .cells [.int .i64 ((l.pc : Int) + 1), .int .i64 m.r0, .int .i64 m.r1, .int .i64 m.r2, .int .i64 m.r3] false false := by rw [x1.get _ (by simp)]; simp
      have g2 : h1.get (h.next + 2) = .cells (zi 5) false false := by rw [x1.get _ (by simp)]; simp
      simp -implicitDefEqProofs [g1]
      refine normal_q (l := { m with pc := l.pc + 1 }) g (su.ext x1) ok hlen ?_
      simp -implicitDefEqProofs [Lcl.v, Lcl.c, g1, g2, z5, splice]
      exact km _ ((Ext.lays.trans x1).put (by omega) _)
    by_cases k2 : i.kind = 2
    · rw [if_pos (.inl k2)] at k
      simp -implicitDefEqProofs [eq_true k2, c116_5]
      refine set_q (l := l) (gr := false) g (rd (.inl k2)) (by simp [Lcl.c]) ?_
      simp -implicitDefEqProofs [Lcl.c]
      exact tail (l.set i.reg x) _ Lcl.set_pc k
    · by_cases k4 : i.kind = 4
      · rw [if_pos (.inr k4)] at k
        simp -implicitDefEqProofs [eq_false k2, eq_true k4, c116_5]
        refine set_q (l := l) (gr := false) g (rd (.inr k4)) (by simp [Lcl.c]) ?_
        simp -implicitDefEqProofs [Lcl.c]
        exact tail (l.set i.reg x) _ Lcl.set_pc k
      · rw [if_neg (by omega)] at k
        simp -implicitDefEqProofs [eq_false k2, eq_false k4]
        exact tail l _ rfl k
theorem Of_q (g : ProgG G) (g114 : G 114 = c114) {i : Ins} {l : Lcl} {x : Int} {P : Int → Prop} (ok : iOk P i) (hk : i.kind ≠ 5 ∧ i.kind ≠ 6) (k : R (.tuple #[(evtM i l x).v, .bool (rdI i)]) h) :
    WC G 114 [.agg #[.int .i64 i.kind, .int .i64 i.reg, .int .i64 i.loc, .int .i64 i.areg, .int .i64 i.aval, .int .i64 i.op, .int .i64 i.breg, .int .i64 i.bval, .int .i64 i.n], .agg #[.int .i64 l.pc, .int .i64 l.r0, .int .i64 l.r1, .int .i64 l.r2, .int .i64 l.r3], .int .i64 x] h R := by
  have z6 : zi 6 = [.int .i64 0, .int .i64 0, .int .i64 0, .int .i64 0, .int .i64 0, .int .i64 0] := rfl
  refine WC_pure (WC_enter g114 rfl ?_)
  simp -implicitDefEqProofs [c114, c114_body, c114_0, c114_1, c114_2]
  by_cases k1 : i.kind = 1
  · simp -implicitDefEqProofs [eq_true k1, c114_3, c114_3b]
    refine Value_q (l := l) g ?_
    simp -implicitDefEqProofs [z6, splice, Ext.lays]
    have e : evtM i l x = ⟨2, i.loc, 0, valM i.areg i.aval l⟩ := by unfold evtM; rw [if_pos k1]
    have er : rdI i = false := by simp [rdI, k1]
    have ea : valQ i.areg i.aval l = valM i.areg i.aval l := valQ_M (by unfold iOk at ok; rcases ok with o | o | o | o | o | o <;> first | exact o.2.2.1 | omega)
    rw [e, er] at k
    rw [ea]
    simpa [Evt.v] using k
  · by_cases k2 : i.kind = 2
    · have e : evtM i l x = ⟨1, i.loc, x, 0⟩ := by unfold evtM; rw [if_neg k1, if_pos k2]
      have er : rdI i = true := by simp [rdI, k2]
      rw [e, er] at k
      simp -implicitDefEqProofs [eq_false k1, eq_true k2, c114_4, c114_5, z6, splice, Ext.lays]
      simpa [Evt.v] using k
    · by_cases k4 : i.kind = 4
      · have er : rdI i = true := by simp [rdI, k4]
        have ab : (i.areg = -1 ∨ i.areg = 0 ∨ i.areg = 1) ∧ i.breg = -1 := by unfold iOk at ok; rcases ok with o | o | o | o | o | o <;> first | exact ⟨o.2.2.2.1, o.2.2.2.2⟩ | omega
        simp -implicitDefEqProofs [eq_false k1, eq_false k2, eq_true k4, c114_4, c114_6, c114_7]
        refine Value_q (l := l) g ?_
        rw [valQ_M ab.1]
        simp -implicitDefEqProofs
        by_cases hv : valM i.areg i.aval l = x
        · have e : evtM i l x = ⟨4, i.loc, x, valM i.breg i.bval l⟩ := by unfold evtM; rw [if_neg k1, if_neg k2, if_pos k4, if_pos hv.symm]
          rw [e, er] at k
          simp -implicitDefEqProofs [eq_true hv, c114_8, c114_8b]
          refine Value_q (l := l) g ?_
          rw [valQ_M (.inl ab.2)]
          simp -implicitDefEqProofs [z6, splice, Ext.lays]
          simpa [Evt.v] using k
        · have e : evtM i l x = ⟨5, i.loc, x, 0⟩ := by unfold evtM; rw [if_neg k1, if_neg k2, if_pos k4, if_neg fun e => hv e.symm]
          rw [e, er] at k
          simp -implicitDefEqProofs [eq_false hv, c114_9, z6, splice, Ext.lays]
          simpa [Evt.v] using k
      · have e : evtM i l x = ⟨3, 0, 0, 0⟩ := by unfold evtM; rw [if_neg k1, if_neg k2, if_neg k4]
        have er : rdI i = false := by simp [rdI, k2, k4]
        rw [e, er] at k
        simp -implicitDefEqProofs [eq_false k1, eq_false k2, eq_false k4, c114_4, c114_6, c114_10, z6, splice, Ext.lays]
        simpa [Evt.v] using k
end Go.Jq
namespace Go.Jq
variable {G : Nat → SFunc} {h h1 : AH} {R : Value → AH → Prop}
structure UnfQ (G : Nat → SFunc) : Prop extends ProgG G where
  g114 : G 114 = c114
  g149 : G 149 = c149
theorem evt_any {i : Ins} {l : Lcl} {x y : Int} (h : ¬ (i.kind = 2 ∨ i.kind = 4)) : evtM i l x = evtM i l y := by
  unfold evtM
  split
  · rfl
  · rw [if_neg (by omega), if_neg (by omega), if_neg (by omega), if_neg (by omega)]
theorem aft_any {th : List Ins} {i : Ins} {l : Lcl} {x y : Int} (en : nextM th l = some i) (h : ¬ (i.kind = 2 ∨ i.kind = 4)) : aftM th l x = aftM th l y := by
  unfold aftM
  rw [en]
  simp only [if_neg h]
def inv149 (h : AH) (th : List Ins) (t : Nat) (reads : List Int) (pc : List Value) (T : List Ev6 × Lcl × Bool) (mm : Nat) (F : Fr) (hh : AH) : Prop :=
  ∃ (l : Lcl) (out : List Ev6) (j : Nat) (v rv : Value), mm = th.length - l.pc ∧ j ≤ reads.length ∧ out.length ≤ l.pc ∧ T = (out ++ (unfM th t (reads.drop j) l out.length).1, (unfM th t (reads.drop j) l out.length).2) ∧ Ext h hh ∧ h.next + 2 ≤ hh.next ∧
    hh.get h.next = .cells pc false false ∧ hh.get (h.next + 1) = .cells l.c false false ∧ SlG 6 hh (h.next + 2) out.length (out.flatMap Ev6.c) v ∧ SlX 1 h (reads.length - j) ((reads.drop j).flatMap intC) rv ∧
    F = [(1, .int .i64 t), (2, rv), (3, ptrV h.next), (6, v), (7, ptrV (h.next + 1))]
set_option maxHeartbeats 4000000 in
theorem Unfold_q (g : UnfQ G) {p : Prg} {lv iv tv rv : Value} (V : PrgV h p lv iv tv) (O : ThOk p) {t : Nat} (ht : t < p.ths.length) {reads : List Int} (S : SlX 1 h reads.length (reads.flatMap intC) rv) (hr : reads.length ≤ 1000)
    (k : ∀ h1 v, Ext h h1 → SlG 6 h1 h.next (unfM p.ths[t] t reads (nrm p.ths[t] .zero) 0).1.length ((unfM p.ths[t] t reads (nrm p.ths[t] .zero) 0).1.flatMap Ev6.c) v → R (.tuple #[v, (unfM p.ths[t] t reads (nrm p.ths[t] .zero) 0).2.1.v, .bool (unfM p.ths[t] t reads (nrm p.ths[t] .zero) 0).2.2]) h1) :
    WC G 149 [.agg #[lv, iv, tv], .int .i64 t, rv] h R := by
  have o := O.ok _ (List.getElem_mem ht)
  obtain ⟨th, hth⟩ : ∃ th, p.ths[t] = th := ⟨_, rfl⟩
  rw [hth] at o
  simp only [hth] at k
  refine WC_enter g.g149 rfl ?_
  simp -implicitDefEqProofs [c149, c149_body, c149_0, c149_1, ptrV]
  refine Start_q g.toProgG (V.ext .lays) ht hth o.1 (by omega) ?_
  have z5 : zi 5 = [.int .i64 0, .int .i64 0, .int .i64 0, .int .i64 0, .int .i64 0] := rfl
  have z9 : zi 9 = [.int .i64 0, .int .i64 0, .int .i64 0, .int .i64 0, .int .i64 0, .int .i64 0, .int .i64 0, .int .i64 0, .int .i64 0] := rfl
  have z6 : zi 6 = [.int .i64 0, .int .i64 0, .int .i64 0, .int .i64 0, .int .i64 0, .int .i64 0] := rfl
  have lc : ∀ l : Lcl, l.c = [.int .i64 l.pc, .int .i64 l.r0, .int .i64 l.r1, .int .i64 l.r2, .int .i64 l.r3] := fun _ => rfl
  generalize hT : unfM th t reads (nrm th .zero) 0 = T at *
  simp -implicitDefEqProofs [Lcl.v, lc, z5, splice]
  refine W_loop (inv149 h th t reads [lv, iv, tv] T) (th.length - (nrm th .zero).pc) ⟨nrm th .zero, [], 0, .slice none 0 0, rv, rfl, by omega, by simp, by simp [hT], .lays, by simp, by simp, by simp [lc], SlG.nil, by simpa using S, by simp [ptrV]⟩ ?_
  rintro mm F hh ⟨l, out, j, v, rv, rfl, hj, hol, hTe, x, hn, g0, g1, so, S1, rfl⟩
  have V1 := V.ext x
  have S1h := S1.ext x
  obtain ⟨va, vc, hv⟩ := so.len
  subst hv
  have q0 : h.next < hh.next := by omega
  have q1 : h.next + 1 < hh.next := by omega
  have q2 : ¬ h.next + 1 = hh.next := by omega
  have q3 : ¬ h.next = hh.next := by omega
  simp -implicitDefEqProofs [c149_16, c149_2, ptrV, g0, g1, lc]
  refine Next_q g.toProgG V1 ht hth o.1 ?_
  have l1 : ∀ L, (hh.lays L).get (h.next + 1) = .cells l.c false false := fun L => by rw [AH.lays_lt q1, g1]
  cases en : nextM th l with
  | none =>
    rw [unf_none en] at hTe
    obtain rfl := hTe
    unfold nextV
    rw [en]
    simp -implicitDefEqProofs [Ins.zero, Ins.v, Ins.c, z9, splice, c149_3, c149_4, c149_4b, l1, lc, z5]
    obtain ⟨y, s1⟩ := lput348 (L := [.cells [.int .i64 0, .int .i64 0, .int .i64 0, .int .i64 0, .int .i64 0, .int .i64 0, .int .i64 0, .int .i64 0, .int .i64 0] false false]) (o := .cells [.int .i64 l.pc, .int .i64 l.r0, .int .i64 l.r1, .int .i64 l.r2, .int .i64 l.r3] false false) x so (b := h.next + 1) (by omega) (by omega)
    have := k _ _ y (by simpa using s1)
    simpa [Lcl.v, Lcl.c] using this
  | some i =>
    obtain ⟨hm, hl, k5, k6⟩ := nextM_mem en
    have ok := o.1.ok i hm
    obtain ⟨ra, rc, rfl⟩ := S1.len
    unfold nextV
    rw [en]
    have tail : ∀ (x2 : Int) (j2 : Nat) (rv2 : Value), j2 ≤ reads.length → SlX 1 h (reads.length - j2) ((reads.drop j2).flatMap intC) rv2 → T = (out ++ e6 t out.length (evtM i l x2) :: (unfM th t (reads.drop j2) (aftM th l x2) (out.length + 1)).1, (unfM th t (reads.drop j2) (aftM th l x2) (out.length + 1)).2) →
        ∀ L r, (r = [] ∨ r = [(41, .bool false)]) → wO G c149_13 ((1, .int .i64 t) :: (2, rv2) :: (3, .pointer (some ⟨h.next, 0, none⟩)) :: (6, .slice va out.length vc) :: (7, .pointer (some ⟨h.next + 1, 0, none⟩)) :: (11, .int .i64 x2) :: (12, .pointer (some ⟨hh.next + 1, 0, none⟩)) :: r)
          (hh.lays [L, .cells [.int .i64 0, .int .i64 0, .int .i64 (evtM i l x2).kind, .int .i64 (evtM i l x2).loc, .int .i64 (evtM i l x2).r, .int .i64 (evtM i l x2).w] false false]) (keepK [1, 2, 3, 6, 7, 11, 12] (thenK (W G ((SCode.reg [1, 2, 3, 6, 7, 11] c149_14).seq (SCode.reg [1, 2, 3, 6, 7] c149_15))) (blockK 1 (loopK (fun F1 h1 => ∃ m, m < th.length - l.pc ∧ inv149 h th t reads [lv, iv, tv] T m F1 h1) (blockK 0 (retK [SRes.tmp 6, SRes.cellN 7 5, SRes.tmp 8] R)))))) := by
      intro x2 j2 rv2 hj2 S2 hT2 L r hr
      obtain ⟨r2, s2, rfl⟩ := S2.len
      rcases hr with rfl | rfl
      all_goals
        simp -implicitDefEqProofs [c149_13, c149_14, z6, splice]
        have xl : ∀ {y}, y < h.next + 2 → blkOf (.slice va out.length vc) ≠ some y := fun hy e => by have := (so.blk e).1; omega
        refine SlG.app (so.ext .lays) (ec := (e6 t out.length (evtM i l x2)).c) (o := 0) (by simp [AH.load, Ev6.c, e6]) (by omega) (by omega) (by simp; omega) fun h' s' hn' hg' => ?_
        have hx : ∀ y, y < h.next + 2 → h'.get y = hh.get y := fun y hy => by rw [hg' y (by simp; omega) (xl hy), AH.lays_lt (by omega)]
        simp at hn'
        have x' : Ext h h' := ⟨by omega, fun y hy => by rw [hx y (by omega)]; exact x.get y hy⟩
        simp -implicitDefEqProofs [c149_15, AH.load, hx _ (by omega : h.next < h.next + 2), hx _ (by omega : h.next + 1 < h.next + 2), g0, g1, lc]
        refine After_q g.toProgG (V.ext x') ht hth o.1 (by omega) ?_
        simp -implicitDefEqProofs [Lcl.v, lc, splice, hx _ (by omega : h.next + 1 < h.next + 2), g1]
        have pc2 := aft_pc (x := x2) en
        refine ⟨th.length - (aftM th l x2).pc, by omega, aftM th l x2, out ++ [e6 t out.length (evtM i l x2)], j2, .slice (some ⟨hh.next + 3, 0, some 6⟩) (out.length + 1) (out.length + 1), _, rfl, hj2, by simp; omega, by simp [hT2], x'.put (by omega) _, by simp [AH.put_next]; omega, by simp [AH.put_get, hx, g0], by simp [AH.put_get, lc], ?_, S2, by simp [ptrV]⟩
        have := s'.up (y := h'.put (h.next + 1) (.cells [.int .i64 (aftM th l x2).pc, .int .i64 (aftM th l x2).r0, .int .i64 (aftM th l x2).r1, .int .i64 (aftM th l x2).r2, .int .i64 (aftM th l x2).r3] false false)) (by exact Nat.le_refl _) fun y hy _ => by rw [AH.put_get, if_neg (by omega)]
        simpa using this
    simp -implicitDefEqProofs [Ins.v, Ins.c, z9, splice, c149_3, c149_5, c149_6]
    by_cases ej : j = reads.length
    · subst ej
      rw [List.drop_length] at hTe
      simp -implicitDefEqProofs [c149_8, l1, lc]
      refine Of_q g.toProgG g.g114 ok ⟨k5, k6⟩ ?_
      simp -implicitDefEqProofs [Evt.v, z6, splice, c149_9]
      by_cases hk : i.kind = 2 ∨ i.kind = 4
      · rw [unf_stop en hk] at hTe
        obtain rfl := hTe
        have er : rdI i = true := by unfold rdI; rcases hk with hk | hk <;> simp [hk]
        simp -implicitDefEqProofs [er, c149_10, c149_11, c149_11b, l1, lc, z5, splice]
        obtain ⟨y, s1⟩ := lput348 (L := [.cells [.int .i64 i.kind, .int .i64 i.reg, .int .i64 i.loc, .int .i64 i.areg, .int .i64 i.aval, .int .i64 i.op, .int .i64 i.breg, .int .i64 i.bval, .int .i64 i.n] false false, .cells [.int .i64 0, .int .i64 0, .int .i64 (evtM i l 0).kind, .int .i64 (evtM i l 0).loc, .int .i64 (evtM i l 0).r, .int .i64 (evtM i l 0).w] false false]) (o := .cells [.int .i64 l.pc, .int .i64 l.r0, .int .i64 l.r1, .int .i64 l.r2, .int .i64 l.r3] false false) x so (b := h.next + 1) (by omega) (by omega)
        have := k _ _ y (by simpa using s1)
        simpa [Lcl.v, Lcl.c] using this
      · rw [unf_on en hk] at hTe
        have er : rdI i = false := by unfold rdI; simp only [Bool.or_eq_false_iff, decide_eq_false_iff_not]; omega
        simp -implicitDefEqProofs [er]
        have := tail 0 reads.length (.slice ra (reads.length - reads.length) rc) (Nat.le_refl _) S1 (by rw [List.drop_length]; exact hTe) (.cells i.c false false) _ (.inr rfl)
        rw [Nat.sub_self] at this
        exact this
    · have hlt : j < reads.length := Nat.lt_of_le_of_ne hj ej
      have hdl : (reads.drop j).length = reads.length - j := List.length_drop
      have S1v := S1h.view
      rw [← hdl] at S1v
      obtain ⟨b, o', sp, c0, gr, ro, rfl, hb, gb, hc, hc1, hc2⟩ := S1v.rd (f := intC) (fun _ => rfl) (i := 0) (by omega)
      have hv := hc2 0 Nat.one_pos
      simp [intC] at hv
      have hpos : 0 < reads.length - j := by omega
      have hne : ¬ reads.length - j = 0 := by omega
      simp -implicitDefEqProofs [hpos, hne, c149_7, AH.lays_lt hb, gb, hv, c149_8, l1, lc]
      refine Of_q g.toProgG g.g114 ok ⟨k5, k6⟩ ?_
      simp -implicitDefEqProofs [Evt.v, z6, splice, c149_9]
      by_cases hk : i.kind = 2 ∨ i.kind = 4
      · rw [List.drop_eq_getElem_cons hlt, unf_read en hk] at hTe
        have er : rdI i = true := by unfold rdI; rcases hk with hk | hk <;> simp [hk]
        obtain ⟨v', e1, e2, _⟩ := S1.drop (i := 1) hpos (by omega)
        have S2 : SlX 1 h (reads.length - (j + 1)) ((reads.drop (j + 1)).flatMap intC) v' := by
          rw [show reads.length - (j + 1) = reads.length - j - 1 by omega]
          have ef : ((reads.drop j).flatMap intC).drop (1 * 1) = (reads.drop (j + 1)).flatMap intC := by rw [List.drop_eq_getElem_cons hlt, List.flatMap_cons]; rfl
          rw [← ef]; exact e2
        simp -implicitDefEqProofs [er, c149_10, hpos, hne]
        rw [show ((1 : Nat) : Int) = (1 : Int) from rfl] at e1
        have t2 := tail reads[j] (j + 1) v' (by omega) S2 hTe (.cells i.c false false) _ (.inl rfl)
        obtain ⟨wa, wc, rfl⟩ := S2.len
        simp -implicitDefEqProofs [c149_12, e1]
        exact t2
      · rw [unf_on en hk] at hTe
        have er : rdI i = false := by unfold rdI; simp only [Bool.or_eq_false_iff, decide_eq_false_iff_not]; omega
        simp -implicitDefEqProofs [er]
        exact tail reads[j] j _ hj S1 (by rw [evt_any hk (y := 0), aft_any en hk (y := 0)]; exact hTe) (.cells i.c false false) _ (.inr rfl)
end Go.Jq
namespace Go.Jq
variable {G : Nat → SFunc} {h h1 : AH} {R : Value → AH → Prop}
def tRd (t : Nat) (e : Ev6) : Bool := decide (e.t = t) && e.reads
def rdsOf (l : List Ev6) (t : Nat) : List Int := (l.filter (tRd t)).map Ev6.r
theorem rdsOf_take {l : List Ev6} {t i : Nat} (hi : i < l.length) : rdsOf (l.take (i + 1)) t = if tRd t l[i] then rdsOf (l.take i) t ++ [l[i].r] else rdsOf (l.take i) t := by
  unfold rdsOf
  rw [List.take_succ_eq_append_getElem hi, List.filter_append, List.map_append]
  by_cases h : tRd t l[i] <;> simp [h]
theorem rdsOf_le {l : List Ev6} {t : Nat} : (rdsOf l t).length ≤ l.length := by
  unfold rdsOf
  rw [List.length_map]
  exact List.length_filter_le ..
def endL (p : Prg) (x : Exe) (t : Nat) : Lcl := match p.ths[t]? with
  | some th => (unfM th t (rdsOf x.evs t) (nrm th .zero) 0).2.1
  | none => .zero
def memL (x : Exe) (j : Nat) : Int := (evA x.evs (((x.co[j]?).getD []).getLastD 0).toNat).w
def regL (l : Lcl) : List Int := [l.r0, l.r1, l.r2, l.r3]
def endA (p : Prg) (x : Exe) (t c : Nat) : List Int := ((List.range 4).flatMap fun k => if k < t then regL (endL p x k) else [0, 0, 0, 0]) ++ (List.range 4).map fun j => if j < c then memL x j else 0
def endV (p : Prg) (x : Exe) (t c : Nat) : List Value := (endA p x t c).map (Value.int .i64)
theorem endV_zero {p : Prg} {x : Exe} : endV p x 0 0 = zi 20 := rfl
theorem endV_len {p : Prg} {x : Exe} {t c : Nat} : (endV p x t c).length = 20 := by
  unfold endV endA
  rw [List.length_map, List.length_append]
  have : ∀ k, (if k < t then regL (endL p x k) else [0, 0, 0, 0]).length = 4 := fun k => by split <;> rfl
  simp [List.range_succ, this]
theorem endV_reg {p : Prg} {x : Exe} {t : Nat} (ht : t < 4) : splice (endV p x t 0) (t * 4) [.int .i64 (endL p x t).r0, .int .i64 (endL p x t).r1, .int .i64 (endL p x t).r2, .int .i64 (endL p x t).r3] = endV p x (t + 1) 0 := by
  have : t = 0 ∨ t = 1 ∨ t = 2 ∨ t = 3 := by omega
  rcases this with rfl | rfl | rfl | rfl <;> rfl
theorem endV_mem {p : Prg} {x : Exe} {t j : Nat} (hj : j < 4) : (endV p x t j).set (16 + j) (.int .i64 (memL x j)) = endV p x t (j + 1) := by
  unfold endV endA
  rw [← List.map_set]
  congr 1
  have l4 : ∀ k, (if k < t then regL (endL p x k) else [0, 0, 0, 0]).length = 4 := fun k => by split <;> rfl
  have l16 : ((List.range 4).flatMap fun k => if k < t then regL (endL p x k) else [0, 0, 0, 0]).length = 16 := by simp [List.range_succ, l4]
  rw [List.set_append_right _ _ (by omega), l16]
  congr 1
  have : j = 0 ∨ j = 1 ∨ j = 2 ∨ j = 3 := by omega
  rcases this with rfl | rfl | rfl | rfl <;> rfl
theorem FA_ints {K : Value → Prop} {ρ : Nat → Nat} {n : Nat} {l : List Int} : FA2 (RV K ρ n) (l.map (Value.int .i64)) (l.map (Value.int .i64)) := by
  induction l with
  | nil => exact .nil
  | cons a l ih => exact .cons .int ih
theorem Clean_end {n : Nat} {p : Prg} {x : Exe} {t c : Nat} : Clean n (.agg (endV p x t c).toArray) := .agg (FA_ints (l := endA p x t c))
structure FinG (G : Nat → SFunc) : Prop where
  unf : UnfG G
  doc : DocG G
  g336 : G 336 = c336
def inv336a (h hs : AH) (p : Prg) (x : Exe) (ev : Value) (b t : Nat) (pc xc : List Value) (mm : Nat) (F : Fr) (hh : AH) : Prop :=
  ∃ (i : Nat) (v : Value), mm = x.evs.length - i ∧ i ≤ x.evs.length ∧ Ext hs hh ∧ SlG 1 hh hs.next (rdsOf (x.evs.take i) t).length ((rdsOf (x.evs.take i) t).flatMap intC) v ∧ F = [(2, ptrV b), (3, ptrV (b + 1)), (4, ptrV (b + 2)), (5, ptrV (b + 3)), (6, .int .i64 t), (7, v), (8, .int .i64 i)]
def inv336 (h : AH) (p : Prg) (x : Exe) (pc xc : List Value) (mm : Nat) (F : Fr) (hh : AH) : Prop :=
  ∃ t : Nat, mm = p.ths.length - t ∧ t ≤ p.ths.length ∧ Ext h hh ∧ h.next + 4 ≤ hh.next ∧ hh.get h.next = .cells pc false false ∧ hh.get (h.next + 1) = .cells xc false false ∧ hh.get (h.next + 2) = .cells (zi 20) false false ∧ hh.get (h.next + 3) = .cells (endV p x t 0) false false ∧
    F = [(2, ptrV h.next), (3, ptrV (h.next + 1)), (4, ptrV (h.next + 2)), (5, ptrV (h.next + 3)), (6, .int .i64 t)]
def inv336b (h : AH) (p : Prg) (x : Exe) (pc xc : List Value) (mm : Nat) (F : Fr) (hh : AH) : Prop :=
  ∃ j : Nat, mm = x.co.length - j ∧ j ≤ x.co.length ∧ Ext h hh ∧ h.next + 4 ≤ hh.next ∧ hh.get (h.next + 1) = .cells xc false false ∧ hh.get (h.next + 2) = .cells (zi 20) false false ∧ hh.get (h.next + 3) = .cells (endV p x p.ths.length j) false false ∧
    F = [(3, ptrV (h.next + 1)), (4, ptrV (h.next + 2)), (5, ptrV (h.next + 3)), (12, .int .i64 j)]
set_option maxHeartbeats 4000000 in
theorem Final_d (g : FinG G) {p : Prg} {lv iv tv ev rv cv : Value} {x : Exe} (V : PrgV h p lv iv tv) (O : ThOk p) (hT : p.ths.length ≤ 4) (E : ExeV h x ev rv cv) (he : x.evs.length ≤ 60) (hc : x.co.length ≤ 4) (hco : ∀ l ∈ x.co, 0 < l.length ∧ ∀ i ∈ l, (0 : Int) ≤ i ∧ i < x.evs.length) (hrow : ∀ l ∈ x.co, l.length ≤ 1000)
    (k : R (.agg (endV p x p.ths.length x.co.length).toArray) h) : WC G 336 [.agg #[lv, iv, tv], .agg #[ev, rv, cv]] h R := by
  refine WC_is Clean_end k fun R' k => ?_
  obtain ⟨ta, tc, rfl⟩ := V.ths.len
  obtain ⟨ea, ec, rfl⟩ := E.evs.len
  obtain ⟨ca, cc, rfl⟩ := E.co.len
  have z20 : (zi 20).length = 20 := rfl
  refine WC_enter g.g336 rfl ?_
  simp -implicitDefEqProofs [c336, c336_body, c336_0, c336_1, c336_2, z20, splice_all]
  refine W_loop (inv336 h p x [lv, iv, .slice ta p.ths.length tc] [.slice ea x.evs.length ec, rv, .slice ca x.co.length cc]) p.ths.length ⟨0, rfl, by omega, .lays, by simp, by simp, by simp, by simp, by simp [endV_zero], by simp [ptrV]⟩ ?_
  rintro mm F hh ⟨t, rfl, ht, x0, nh, g0, g1, g2, g3, rfl⟩
  simp -implicitDefEqProofs [c336_14, c336_3, ptrV, g0]
  by_cases h1 : t < p.ths.length
  · have t4 : (t : Int) < 4 := by omega
    have w1 : IntKind.i64.wrap ((t : Int) + 1) = ((t + 1 : Nat) : Int) := by rw [wrap64 (by omega)]; rfl
    simp -implicitDefEqProofs [h1, show (t : Int) < p.ths.length by omega, t4, c336_4, c336_5]
    refine W_loop (inv336a h hh p x (.slice ea x.evs.length ec) h.next t [] []) x.evs.length ⟨0, .slice none 0 0, by omega, by omega, .refl _, SlG.nil, by simp [ptrV]⟩ ?_
    rintro mm F h2 ⟨i, v, rfl, hi, x2, sv, rfl⟩
    have n2 := x2.next
    have q0 := (x2.get (h.next) (by omega)).trans g0
    have q1 := (x2.get (h.next + 1) (by omega)).trans g1
    have q3 := (x2.get (h.next + 3) (by omega)).trans g3
    simp -implicitDefEqProofs [c336_10, c336_6, ptrV, q1]
    by_cases h3 : i < x.evs.length
    · have w2 : IntKind.i64.wrap ((i : Int) + 1) = ((i + 1 : Nat) : Int) := by rw [wrap64 (by omega)]; rfl
      obtain ⟨b, o, sp, c0, gg, ro, rfl, hb, hg, hle, hrw, hr⟩ := (E.evs.ext (x0.trans x2)).rd Ev6.c_length h3
      have st := rdsOf_take (l := x.evs) (t := t) h3
      have rle := rdsOf_le (l := x.evs.take i) (t := t)
      simp at rle
      generalize x.evs[i] = e at *
      have r0 := hr 0 (by omega)
      have r4 := hr 4 (by omega)
      simp [Ev6.c] at r0 r4
      rw [show e.c = [.int .i64 e.t, .int .i64 e.i, .int .i64 e.kind, .int .i64 e.loc, .int .i64 e.r, .int .i64 e.w] from rfl] at hrw
      obtain ⟨va, vc, rfl⟩ := sv.len
      simp -implicitDefEqProofs [h3, c336_7, q1, hg, r0]
      by_cases et : e.t = t
      · simp -implicitDefEqProofs [eq_true et, q1, h3, hg, hle, hrw]
        refine Reads_d (e := e) g.doc ?_
        cases er : e.reads with
        | false =>
          rw [show tRd t e = false by simp [tRd, er], if_neg (by simp)] at st
          simp -implicitDefEqProofs [c336_9, w2]
          exact ⟨x.evs.length - (i + 1), by omega, i + 1, _, rfl, h3, x2, by rw [st]; exact sv, by simp [ptrV]⟩
        | true =>
          rw [show tRd t e = true by simp [tRd, er, et], if_pos rfl] at st
          simp -implicitDefEqProofs [c336_8, q1, h3, hg, r4]
          refine SlG.app (sv.ext .lays) (ec := [.int .i64 e.r]) (o := 0) (by simp [AH.load]) (by omega) (by omega) (by simp; omega) fun h' s' hn' hg' => ?_
          simp at hn'
          have x3 : Ext hh h' := ⟨by omega, fun y hy => by
            rw [hg' y (by simp; omega) (fun e => by have := (sv.blk e).1; omega), AH.lays_lt (by omega)]; exact x2.get y hy⟩
          simp -implicitDefEqProofs [c336_9, w2]
          refine ⟨x.evs.length - (i + 1), by omega, i + 1, _, rfl, h3, x3, ?_, by simp [ptrV]; rfl⟩
          rw [st]
          simpa [intC] using s'
      · rw [show tRd t e = false by simp [tRd, et], if_neg (by simp)] at st
        simp -implicitDefEqProofs [eq_false et, c336_9, w2]
        exact ⟨x.evs.length - (i + 1), by omega, i + 1, _, rfl, h3, x2, by rw [st]; exact sv, by simp [ptrV]⟩
    · have : i = x.evs.length := by omega
      subst this
      rw [List.take_length] at sv
      simp -implicitDefEqProofs [h3, c336_11, q0]
      refine Unfold_d g.unf (V.ext (x0.trans x2)) O h1 sv.view (by have := rdsOf_le (l := x.evs) (t := t); omega) fun h4 uv x4 su => ?_
      have el : (unfM p.ths[t] t (rdsOf x.evs t) (nrm p.ths[t] .zero) 0).2.1 = endL p x t := by unfold endL; rw [List.getElem?_eq_getElem h1]
      rw [el]
      generalize (unfM p.ths[t] t (rdsOf x.evs t) (nrm p.ths[t] .zero) 0).2.2 = bb at *
      have n4 := x4.next
      have z5 : zi 5 = [.int .i64 0, .int .i64 0, .int .i64 0, .int .i64 0, .int .i64 0] := rfl
      have p3 := (x4.get (h.next + 3) (by omega)).trans q3
      have e4 := endV_reg (p := p) (x := x) (t := t) (by omega)
      simp -implicitDefEqProofs [Lcl.v, Lcl.c, z5, splice, c336_12, t4, AH.lays_lt (show h.next + 3 < h4.next by omega), p3, endV_len]
      refine ⟨by omega, ?_⟩
      have e5 : List.take (t * 4) (endV p x t 0) ++ Value.int .i64 (endL p x t).r0 :: Value.int .i64 (endL p x t).r1 :: Value.int .i64 (endL p x t).r2 :: Value.int .i64 (endL p x t).r3 :: List.drop (t * 4 + 4) (endV p x t 0) = endV p x (t + 1) 0 := by
        rw [← e4]; simp [splice]
      rw [e5]
      simp -implicitDefEqProofs [c336_13, w1]
      have x5 : Ext hh ((h4.lays [.cells [.int .i64 (endL p x t).pc, .int .i64 (endL p x t).r0, .int .i64 (endL p x t).r1, .int .i64 (endL p x t).r2, .int .i64 (endL p x t).r3] false false])) := (x2.trans x4).lays'
      have n5 := x5.next
      refine ⟨p.ths.length - (t + 1), by omega, t + 1, rfl, h1, (x0.trans x5).put (by omega) _, by rw [AH.put_next]; omega, ?_, ?_, ?_, by rw [AH.put_get, if_pos rfl], by simp [ptrV]⟩
      · rw [AH.put_get, if_neg (by omega), x5.get _ (by omega)]; exact g0
      · rw [AH.put_get, if_neg (by omega), x5.get _ (by omega)]; exact g1
      · rw [AH.put_get, if_neg (by omega), x5.get _ (by omega)]; exact g2
  · have : t = p.ths.length := by omega
    subst this
    simp -implicitDefEqProofs [h1, c336_15]
    refine W_loop (inv336b h p x [lv, iv, .slice ta p.ths.length tc] [.slice ea x.evs.length ec, rv, .slice ca x.co.length cc]) x.co.length ⟨0, by omega, by omega, x0, nh, g1, g2, g3, by simp [ptrV]⟩ ?_
    rintro mm F h2 ⟨j, rfl, hj, x2, nh2, q1, q2, q3, rfl⟩
    simp -implicitDefEqProofs [c336_19, c336_16, ptrV, q1]
    by_cases h3 : j < x.co.length
    · have w2 : IntKind.i64.wrap ((j : Int) + 1) = ((j + 1 : Nat) : Int) := by rw [wrap64 (by omega)]; rfl
      have j4 : (j : Int) < 4 := by omega
      obtain ⟨b, o, sp, c0, gg, ro, u, rfl, hb, hg, hu, su⟩ := (E.co.ext x2).at h3
      obtain ⟨r0, rin⟩ := hco _ (List.getElem_mem h3)
      have rl := hrow _ (List.getElem_mem h3)
      have em : memL x j = (evA x.evs ((x.co[j]).getLastD 0).toNat).w := by unfold memL; rw [List.getElem?_eq_getElem h3]; rfl
      generalize x.co[j] = row at *
      obtain ⟨ua, uc, rfl⟩ := su.len
      have s1 : IntKind.i64.wrap ((row.length : Int) - 1) = ((row.length - 1 : Nat) : Int) := by rw [wrap64 (by omega)]; omega
      have hlast : row.length - 1 < row.length := by omega
      obtain ⟨b2, o2, sp2, c2, g2', ro2, rfl, hb2, hg2, _, _, hr2⟩ := su.view.rd intC_length hlast
      have hv2 := hr2 0 Nat.one_pos
      simp [intC] at hv2
      have hin := rin _ (List.getElem_mem hlast)
      have egl : row.getLastD 0 = row[row.length - 1] := by
        rw [List.getLastD_eq_getLast?, List.getLast?_eq_getElem?, List.getElem?_eq_getElem hlast]; rfl
      rw [egl] at em
      generalize row[row.length - 1] = w at *
      obtain ⟨q, hq⟩ : ∃ q : Nat, w = q := ⟨w.toNat, by omega⟩
      subst hq
      have hq2 : q < x.evs.length := by omega
      obtain ⟨b3, o3, sp3, c3', g3', ro3, rfl, hb3, hg3, _, _, hr3⟩ := (E.evs.ext x2).rd Ev6.c_length hq2
      have hv3 := hr3 5 (by omega)
      simp [Ev6.c] at hv3
      have ee : (evA x.evs q) = x.evs[q] := by unfold evA; rw [List.getElem?_eq_getElem hq2]; rfl
      rw [Int.toNat_natCast, ee] at em
      have e4 := endV_mem (p := p) (x := x) (t := p.ths.length) (j := j) (by omega)
      simp -implicitDefEqProofs [h3, show (j : Int) < x.co.length by omega, j4, c336_17, c336_17b, q1, q3, hg, hu, s1, hlast, hg2, hv2, hq2, hg3, hv3, c336_18, w2, endV_len, show 16 + j + 1 ≤ 20 by omega]
      have es : splice (endV p x p.ths.length j) (16 + j) [.int .i64 x.evs[q].w] = endV p x p.ths.length (j + 1) := by
        rw [← e4, em]
        unfold splice
        rw [List.set_eq_take_append_cons_drop, if_pos (by rw [endV_len]; omega)]; simp
      rw [es]
      have n2 := x2.next
      refine ⟨x.co.length - (j + 1), by omega, j + 1, rfl, h3, x2.put (by omega) _, by rw [AH.put_next]; omega, ?_, ?_, by rw [AH.put_get, if_pos rfl], by simp [ptrV]⟩
      · rw [AH.put_get, if_neg (by omega)]; exact q1
      · rw [AH.put_get, if_neg (by omega)]; exact q2
    · have : j = x.co.length := by omega
      subst this
      simp -implicitDefEqProofs [h3, c336_20, q2, q3, z20, endV_len, List.take_of_length_le, splice_all]
      exact k _ (x2.put (by omega) _)
end Go.Jq
namespace Go.Jq
variable {G : Nat → SFunc} {h h1 : AH} {R : Value → AH → Prop}
theorem Reads_1 (g100 : G 100 = c100) {e : Ev6} (k : R (.bool e.reads) h) : WC G 100 [e.v] h R := by
  have key : ∀ b, e.reads = b → R (.bool b) h := fun b e => e ▸ k
  unfold Ev6.reads at key
  by_cases k1 : e.kind = 1
  · refine WC_pure (WC_enter g100 rfl ?_)
    simp -implicitDefEqProofs [c100, c100_body, c100_0, c100_1, Ev6.v, k1, Ext.lays]
    exact key _ (by simp [k1])
  · by_cases k4 : e.kind = 4
    · refine WC_pure (WC_enter g100 rfl ?_)
      simp -implicitDefEqProofs [c100, c100_body, c100_0, c100_1, Ev6.v, k1, k4, Ext.lays]
      exact key _ (by simp [k1, k4])
    · refine WC_pure (WC_enter g100 rfl ?_)
      simp -implicitDefEqProofs [c100, c100_body, c100_0, c100_1, Ev6.v, k1, k4, Ext.lays]
      exact key _ (by simp [k1, k4])
structure FinQ (G : Nat → SFunc) : Prop where
  unf : UnfQ G
  g100 : G 100 = c100
  g337 : G 337 = c337
def inv337a (hs : AH) (p : Prg) (x : Exe) (ev : Value) (b t : Nat) (mm : Nat) (F : Fr) (hh : AH) : Prop :=
  ∃ (i : Nat) (v : Value), mm = x.evs.length - i ∧ i ≤ x.evs.length ∧ Ext hs hh ∧ SlG 1 hh hs.next (rdsOf (x.evs.take i) t).length ((rdsOf (x.evs.take i) t).flatMap intC) v ∧
    F = [(2, ptrV b), (3, ptrV (b + 1)), (4, ptrV (b + 2)), (5, ptrV (b + 3)), (6, .int .i64 t), (7, v), (19, .int .i64 p.ths.length), (20, .int .i64 t), (24, ev), (25, .int .i64 x.evs.length), (26, .int .i64 i)]
def inv337 (h : AH) (p : Prg) (x : Exe) (pc xc : List Value) (mm : Nat) (F : Fr) (hh : AH) : Prop :=
  ∃ t : Nat, mm = p.ths.length - t ∧ t ≤ p.ths.length ∧ Ext h hh ∧ h.next + 4 ≤ hh.next ∧ hh.get h.next = .cells pc false false ∧ hh.get (h.next + 1) = .cells xc false false ∧ hh.get (h.next + 2) = .cells (zi 20) false false ∧ hh.get (h.next + 3) = .cells (endV p x t 0) false false ∧
    F = [(2, ptrV h.next), (3, ptrV (h.next + 1)), (4, ptrV (h.next + 2)), (5, ptrV (h.next + 3)), (19, .int .i64 p.ths.length), (20, .int .i64 t)]
def inv337b (h : AH) (p : Prg) (x : Exe) (xc : List Value) (cv : Value) (mm : Nat) (F : Fr) (hh : AH) : Prop :=
  ∃ j : Nat, mm = x.co.length - j ∧ j ≤ x.co.length ∧ Ext h hh ∧ h.next + 4 ≤ hh.next ∧ hh.get (h.next + 1) = .cells xc false false ∧ hh.get (h.next + 2) = .cells (zi 20) false false ∧ hh.get (h.next + 3) = .cells (endV p x p.ths.length j) false false ∧
    F = [(3, ptrV (h.next + 1)), (4, ptrV (h.next + 2)), (5, ptrV (h.next + 3)), (59, cv), (60, .int .i64 x.co.length), (61, .int .i64 j)]
set_option maxHeartbeats 4000000 in
theorem Final_q (g : FinQ G) {p : Prg} {lv iv tv ev rv cv : Value} {x : Exe} (V : PrgV h p lv iv tv) (O : ThOk p) (hT : p.ths.length ≤ 4) (E : ExeV h x ev rv cv) (he : x.evs.length ≤ 60) (hc : x.co.length ≤ 4) (hco : ∀ l ∈ x.co, 0 < l.length ∧ ∀ i ∈ l, (0 : Int) ≤ i ∧ i < x.evs.length) (hrow : ∀ l ∈ x.co, l.length ≤ 1000)
    (k : R (.agg (endV p x p.ths.length x.co.length).toArray) h) : WC G 337 [.agg #[lv, iv, tv], .agg #[ev, rv, cv]] h R := by
  refine WC_is Clean_end k fun R' k => ?_
  obtain ⟨ta, tc, rfl⟩ := V.ths.len
  obtain ⟨ea, ec, rfl⟩ := E.evs.len
  obtain ⟨ca, cc, rfl⟩ := E.co.len
  have z20 : (zi 20).length = 20 := rfl
  have z6 : zi 6 = [.int .i64 0, .int .i64 0, .int .i64 0, .int .i64 0, .int .i64 0, .int .i64 0] := rfl
  refine WC_enter g.g337 rfl ?_
  simp -implicitDefEqProofs [c337, c337_body, c337_0, c337_1, c337_2, z20, splice_all, show ¬ (4 : Int) < p.ths.length by omega]
  refine W_loop (inv337 h p x [lv, iv, .slice ta p.ths.length tc] [.slice ea x.evs.length ec, rv, .slice ca x.co.length cc]) p.ths.length ⟨0, rfl, by omega, .lays, by simp, by simp, by simp, by simp, by simp [endV_zero], by simp [ptrV]⟩ ?_
  rintro mm F hh ⟨t, rfl, ht, x0, nh, g0, g1, g2, g3, rfl⟩
  simp -implicitDefEqProofs [c337_16, c337_3, ptrV]
  by_cases h1 : t < p.ths.length
  · have t4 : (t : Int) < 4 := by omega
    have w1 : IntKind.i64.wrap ((t : Int) + 1) = ((t + 1 : Nat) : Int) := by rw [wrap64 (by omega)]; rfl
    simp -implicitDefEqProofs [h1, show (t : Int) < p.ths.length by omega, t4, c337_4, c337_5, c337_6, g1]
    refine W_loop (inv337a hh p x (.slice ea x.evs.length ec) h.next t) x.evs.length ⟨0, .slice none 0 0, by omega, by omega, .refl _, SlG.nil, by simp [ptrV]⟩ ?_
    rintro mm F h2 ⟨i, v, rfl, hi, x2, sv, rfl⟩
    have n2 := x2.next
    have q0 := (x2.get (h.next) (by omega)).trans g0
    have q1 := (x2.get (h.next + 1) (by omega)).trans g1
    have q3 := (x2.get (h.next + 3) (by omega)).trans g3
    simp -implicitDefEqProofs [c337_12, c337_7, ptrV]
    by_cases h3 : i < x.evs.length
    · have w2 : IntKind.i64.wrap ((i : Int) + 1) = ((i + 1 : Nat) : Int) := by rw [wrap64 (by omega)]; rfl
      obtain ⟨b, o, sp, c0, gg, ro, rfl, hb, hg, hle, hrw, hr⟩ := (E.evs.ext (x0.trans x2)).rd Ev6.c_length h3
      have st := rdsOf_take (l := x.evs) (t := t) h3
      have rle := rdsOf_le (l := x.evs.take i) (t := t)
      simp at rle
      generalize x.evs[i] = e at *
      rw [show e.c = [.int .i64 e.t, .int .i64 e.i, .int .i64 e.kind, .int .i64 e.loc, .int .i64 e.r, .int .i64 e.w] from rfl] at hrw
      obtain ⟨va, vc, rfl⟩ := sv.len
      simp -implicitDefEqProofs [h3, c337_8, hg, hle, hrw, z6, splice, c337_9]
      by_cases et : e.t = t
      · simp -implicitDefEqProofs [eq_true et]
        refine Reads_1 (e := e) g.g100 ?_
        cases er : e.reads with
        | false =>
          rw [show tRd t e = false by simp [tRd, er], if_neg (by simp)] at st
          simp -implicitDefEqProofs [c337_11, w2]
          exact ⟨x.evs.length - (i + 1), by omega, i + 1, _, rfl, h3, x2.lays', by rw [st]; exact sv.ext .lays, by simp [ptrV]⟩
        | true =>
          rw [show tRd t e = true by simp [tRd, er, et], if_pos rfl] at st
          simp -implicitDefEqProofs [c337_10]
          refine SlG.app (sv.ext .lays) (ec := [.int .i64 e.r]) (o := 0) (by simp [AH.load]) (by omega) (by omega) (by simp; omega) fun h' s' hn' hg' => ?_
          simp at hn'
          have x3 : Ext hh h' := ⟨by omega, fun y hy => by
            rw [hg' y (by simp; omega) (fun e => by have := (sv.blk e).1; omega), AH.lays_lt (by omega)]; exact x2.get y hy⟩
          simp -implicitDefEqProofs [c337_11, w2]
          refine ⟨x.evs.length - (i + 1), by omega, i + 1, _, rfl, h3, x3, ?_, by simp [ptrV]; rfl⟩
          rw [st]
          simpa [intC] using s'
      · rw [show tRd t e = false by simp [tRd, et], if_neg (by simp)] at st
        simp -implicitDefEqProofs [eq_false et, c337_11, w2]
        exact ⟨x.evs.length - (i + 1), by omega, i + 1, _, rfl, h3, x2.lays', by rw [st]; exact sv.ext .lays, by simp [ptrV]⟩
    · have : i = x.evs.length := by omega
      subst this
      rw [List.take_length] at sv
      simp -implicitDefEqProofs [h3, c337_13, q0]
      refine Unfold_q g.unf (V.ext (x0.trans x2)) O h1 sv.x (by have := rdsOf_le (l := x.evs) (t := t); omega) fun h4 uv x4 su => ?_
      have el : (unfM p.ths[t] t (rdsOf x.evs t) (nrm p.ths[t] .zero) 0).2.1 = endL p x t := by unfold endL; rw [List.getElem?_eq_getElem h1]
      rw [el]
      generalize (unfM p.ths[t] t (rdsOf x.evs t) (nrm p.ths[t] .zero) 0).2.2 = bb at *
      have n4 := x4.next
      have z5 : zi 5 = [.int .i64 0, .int .i64 0, .int .i64 0, .int .i64 0, .int .i64 0] := rfl
      have p3 := (x4.get (h.next + 3) (by omega)).trans q3
      have e4 := endV_reg (p := p) (x := x) (t := t) (by omega)
      simp -implicitDefEqProofs [Lcl.v, Lcl.c, z5, splice, c337_14, t4, AH.lays_lt (show h.next + 3 < h4.next by omega), p3, endV_len]
      refine ⟨by omega, ?_⟩
      have e5 : List.take (t * 4) (endV p x t 0) ++ Value.int .i64 (endL p x t).r0 :: Value.int .i64 (endL p x t).r1 :: Value.int .i64 (endL p x t).r2 :: Value.int .i64 (endL p x t).r3 :: List.drop (t * 4 + 4) (endV p x t 0) = endV p x (t + 1) 0 := by
        rw [← e4]; simp [splice]
      rw [e5]
      simp -implicitDefEqProofs [c337_15, w1]
      have x5 : Ext hh ((h4.lays [.cells [.int .i64 (endL p x t).pc, .int .i64 (endL p x t).r0, .int .i64 (endL p x t).r1, .int .i64 (endL p x t).r2, .int .i64 (endL p x t).r3] false false])) := (x2.trans x4).lays'
      have n5 := x5.next
      refine ⟨p.ths.length - (t + 1), by omega, t + 1, rfl, h1, (x0.trans x5).put (by omega) _, by rw [AH.put_next]; omega, ?_, ?_, ?_, by rw [AH.put_get, if_pos rfl], by simp [ptrV]⟩
      · rw [AH.put_get, if_neg (by omega), x5.get _ (by omega)]; exact g0
      · rw [AH.put_get, if_neg (by omega), x5.get _ (by omega)]; exact g1
      · rw [AH.put_get, if_neg (by omega), x5.get _ (by omega)]; exact g2
  · have : t = p.ths.length := by omega
    subst this
    simp -implicitDefEqProofs [h1, c337_17, g1]
    refine W_loop (inv337b h p x [.slice ea x.evs.length ec, rv, .slice ca x.co.length cc] (.slice ca x.co.length cc)) x.co.length ⟨0, by omega, by omega, x0, nh, g1, g2, g3, by simp [ptrV]⟩ ?_
    rintro mm F h2 ⟨j, rfl, hj, x2, nh2, q1, q2, q3, rfl⟩
    simp -implicitDefEqProofs [c337_25, c337_18, ptrV]
    by_cases h3 : j < x.co.length
    · have w2 : IntKind.i64.wrap ((j : Int) + 1) = ((j + 1 : Nat) : Int) := by rw [wrap64 (by omega)]; rfl
      have j4 : (j : Int) < 4 := by omega
      obtain ⟨b, o, sp, c0, gg, ro, u, rfl, hb, hg, hu, su⟩ := (E.co.ext x2).at h3
      obtain ⟨r0, rin⟩ := hco _ (List.getElem_mem h3)
      have rl := hrow _ (List.getElem_mem h3)
      have em : memL x j = (evA x.evs ((x.co[j]).getLastD 0).toNat).w := by unfold memL; rw [List.getElem?_eq_getElem h3]; rfl
      generalize x.co[j] = row at *
      obtain ⟨ua, uc, rfl⟩ := su.len
      have s1 : IntKind.i64.wrap ((row.length : Int) - 1) = ((row.length - 1 : Nat) : Int) := by rw [wrap64 (by omega)]; omega
      have hlast : row.length - 1 < row.length := by omega
      obtain ⟨b2, o2, sp2, c2, g2', ro2, rfl, hb2, hg2, _, _, hr2⟩ := su.view.rd intC_length hlast
      have hv2 := hr2 0 Nat.one_pos
      simp [intC] at hv2
      have hin := rin _ (List.getElem_mem hlast)
      have egl : row.getLastD 0 = row[row.length - 1] := by
        rw [List.getLastD_eq_getLast?, List.getLast?_eq_getElem?, List.getElem?_eq_getElem hlast]; rfl
      rw [egl] at em
      generalize row[row.length - 1] = w at *
      obtain ⟨q, hq⟩ : ∃ q : Nat, w = q := ⟨w.toNat, by omega⟩
      subst hq
      have hq2 : q < x.evs.length := by omega
      obtain ⟨b3, o3, sp3, c3', g3', ro3, rfl, hb3, hg3, _, _, hr3⟩ := (E.evs.ext x2).rd Ev6.c_length hq2
      have hv3 := hr3 5 (by omega)
      simp [Ev6.c] at hv3
      have ee : (evA x.evs q) = x.evs[q] := by unfold evA; rw [List.getElem?_eq_getElem hq2]; rfl
      rw [Int.toNat_natCast, ee] at em
      have e4 := endV_mem (p := p) (x := x) (t := p.ths.length) (j := j) (by omega)
      have rne : ¬ row = [] := fun e => by rw [e] at r0; simp at r0
      have rn0 : ¬ row.length = 0 := by omega
      simp -implicitDefEqProofs [h3, show (j : Int) < x.co.length by omega, show ¬ (4 : Int) ≤ j by omega, show ¬ 4 ≤ j by omega, j4, c337_19, c337_20, rne, rn0, c337_21, q1, q3, hg, hu, s1, hlast, hg2, hv2]
      simp -implicitDefEqProofs [c337_22, show (0 : Int) ≤ q by omega, q1, hq2, show (q : Int) < x.evs.length by omega, c337_23, q3, hg3, hv3, j4, endV_len, c337_24, w2]
      rw [em] at e4
      rw [e4]
      have n2 := x2.next
      refine ⟨by omega, x.co.length - (j + 1), by omega, j + 1, rfl, h3, x2.put (by omega) _, by rw [AH.put_next]; omega, ?_, ?_, by rw [AH.put_get, if_pos rfl], by simp [ptrV]⟩
      · rw [AH.put_get, if_neg (by omega)]; exact q1
      · rw [AH.put_get, if_neg (by omega)]; exact q2
    · have : j = x.co.length := by omega
      subst this
      simp -implicitDefEqProofs [h3, c337_26, q2, q3, z20, endV_len, List.take_of_length_le, splice_all]
      exact k _ (x2.put (by omega) _)
end Go.Jq
namespace Go.Jq
def N64 (x : Int) : Prop := -9223372036854775808 ≤ x ∧ x < 9223372036854775808
theorem wrap_n64 (x : Int) : N64 (IntKind.i64.wrap x) := by
  unfold N64
  simp only [IntKind.wrap, IntKind.bits, IntKind.signed]
  simp
  split <;> omega
def LOk (l : Lcl) : Prop := N64 l.r0 ∧ N64 l.r1 ∧ N64 l.r2 ∧ N64 l.r3
theorem n64_0 : N64 0 := by unfold N64; omega
theorem LOk.zero : LOk .zero := ⟨n64_0, n64_0, n64_0, n64_0⟩
theorem valM_n64 {r v : Int} {l : Lcl} (h : LOk l) (hv : 0 ≤ v ∧ v ≤ 65535) : N64 (valM r v l) := by
  unfold valM
  split
  · exact h.1
  · split
    · exact h.2.1
    · unfold N64; omega
theorem set_n64 {r v : Int} {l : Lcl} (h : LOk l) (hv : N64 v) : LOk (l.set r v) := by
  unfold Lcl.set
  split
  · exact ⟨hv, h.2⟩
  · exact ⟨h.1, hv, h.2.2⟩
def VOk (th : List Ins) : Prop := ∀ i ∈ th, vOk i
theorem setV_n64 {i : Ins} {l : Lcl} (hi : vOk i) (h : LOk l) : N64 (setV i l) := by
  unfold setV
  split
  · exact valM_n64 h hi.1
  · unfold ixor; exact wrap_n64 _
theorem nrm_n64 {th : List Ins} (hv : VOk th) {l : Lcl} (h : LOk l) : LOk (nrm th l) := by
  generalize hm : th.length - l.pc = m
  induction m using Nat.strongRecOn generalizing l with
  | _ m ih =>
    rw [nrm]
    split
    · rename_i hl
      have hi := hv _ (List.getElem_mem hl)
      split
      · exact ih _ (by show th.length - (l.pc + 1) < m; omega) (set_n64 h (setV_n64 hi h)) rfl
      · split
        · split
          · exact ih _ (by show th.length - (l.pc + 1 + 1) < m; omega) h rfl
          · exact ih _ (by show th.length - (l.pc + 1) < m; omega) h rfl
        · exact h
    · exact h
theorem aft_n64 {th : List Ins} (hv : VOk th) {l : Lcl} {x : Int} (h : LOk l) (hx : N64 x) : LOk (aftM th l x) := by
  cases en : nextM th l with
  | none =>
    have : aftM th l x = l := by unfold aftM; rw [en]
    rw [this]; exact h
  | some i =>
    have : aftM th l x = nrm th { (if i.kind = 2 ∨ i.kind = 4 then l.set i.reg x else l) with pc := l.pc + 1 } := by unfold aftM; rw [en]
    rw [this]
    refine nrm_n64 hv ?_
    split
    · exact set_n64 h hx
    · exact h
def EOk (e : Ev6) : Prop := N64 e.r ∧ N64 e.w
def EsOk (l : List Ev6) : Prop := ∀ e ∈ l, EOk e
theorem evt_n64 {i : Ins} {l : Lcl} {x : Int} {t : Int} {n : Nat} (hi : vOk i) (h : LOk l) (hx : N64 x) : EOk (e6 t n (evtM i l x)) := by
  unfold EOk e6 evtM
  split
  · exact ⟨n64_0, valM_n64 h hi.1⟩
  · split
    · exact ⟨hx, n64_0⟩
    · split
      · split
        · exact ⟨hx, valM_n64 h hi.2⟩
        · exact ⟨hx, n64_0⟩
      · exact ⟨n64_0, n64_0⟩
theorem unf_n64 {th : List Ins} {t : Int} (hv : VOk th) : ∀ (m : Nat) (reads : List Int) (l : Lcl) (k : Nat), th.length - l.pc ≤ m → (∀ x ∈ reads, N64 x) → LOk l → EsOk (unfM th t reads l k).1 ∧ LOk (unfM th t reads l k).2.1 := by
  intro m
  induction m with
  | zero =>
    intro reads l k hm hr h
    rw [unf_none (by unfold nextM; rw [dif_neg (by omega)])]
    exact ⟨fun e he => (by cases he), h⟩
  | succ m ih =>
    intro reads l k hm hr h
    cases en : nextM th l with
    | none => rw [unf_none en]; exact ⟨fun e he => (by cases he), h⟩
    | some i =>
      have hl := (nextM_mem en).2.1
      have hi := hv i (nextM_mem en).1
      by_cases hk : i.kind = 2 ∨ i.kind = 4
      · cases reads with
        | nil => rw [unf_stop en hk]; exact ⟨fun e he => (by cases he), h⟩
        | cons v rs =>
          rw [unf_read en hk]
          have hv0 := hr v List.mem_cons_self
          have := ih rs (aftM th l v) (k + 1) (by have := aft_pc (x := v) en; omega) (fun x hx => hr x (List.mem_cons_of_mem _ hx)) (aft_n64 hv h hv0)
          exact ⟨fun e he => by
            rcases List.mem_cons.mp he with rfl | he
            · exact evt_n64 hi h hv0
            · exact this.1 e he, this.2⟩
      · rw [unf_on en hk]
        have := ih reads (aftM th l 0) (k + 1) (by have := aft_pc (x := 0) en; omega) hr (aft_n64 hv h n64_0)
        exact ⟨fun e he => by
          rcases List.mem_cons.mp he with rfl | he
          · exact evt_n64 hi h n64_0
          · exact this.1 e he, this.2⟩
theorem foldl_invm {α β : Type} {f : β → α → β} {P : β → Prop} (l : List α) (hf : ∀ b a, a ∈ l → P b → P (f b a)) {b : β} (hb : P b) : P (l.foldl f b) := by
  induction l generalizing b with
  | nil => exact hb
  | cons a l ih => exact ih (fun b c hc => hf b c (List.mem_cons_of_mem _ hc)) (hf b a List.mem_cons_self hb)
def VsOk (vals : List (List Int)) : Prop := ∀ l ∈ vals, ∀ x ∈ l, N64 x
theorem thr_n64 {th : List Ins} {t : Int} {values : List (List Int)} {most n : Nat} (hv : VOk th) (hvs : VsOk values) : ∀ reads out, (∀ x ∈ reads, N64 x) → (∀ l ∈ out, EsOk l) → ∀ l ∈ thrF th t values most n reads out, EsOk l := by
  induction n with
  | zero => intro _ _ _ h; exact h
  | succ n ih =>
    intro reads out hr ho
    rw [thrF]
    split
    · exact ho
    · split
      · intro l hm
        rcases List.mem_append.mp hm with hm | hm
        · exact ho l hm
        · simp only [List.mem_singleton] at hm
          subst hm
          exact (unf_n64 hv th.length _ _ _ (by omega) hr (nrm_n64 hv LOk.zero)).1
      · have hrow : ∀ x ∈ (values[((nextM th (unfM th t reads (nrm th .zero) 0).2.1).getD Ins.zero).loc.toNat]?).getD [], N64 x := by
          intro x hx
          cases e : values[((nextM th (unfM th t reads (nrm th .zero) 0).2.1).getD Ins.zero).loc.toNat]? with
          | none => rw [e] at hx; cases hx
          | some r => rw [e] at hx; exact hvs r (List.mem_of_getElem? e) x hx
        exact foldl_invm (P := fun o : List (List Ev6) => ∀ l ∈ o, EsOk l) _ (fun o v hvm ho => ih (reads ++ [v]) o (fun x hx => by
          rcases List.mem_append.mp hx with hx | hx
          · exact hr x hx
          · simp only [List.mem_singleton] at hx; subst hx; exact hrow _ hvm) ho) ho
theorem unT_n64 {p : Prg} {vals : List (List Int)} {t : Nat} (hp : ∀ l ∈ p.ths, VOk l) (hv : VsOk vals) : ∀ l ∈ unT p vals t, EsOk l := by
  unfold unT
  split
  · rename_i th e
    exact thr_n64 (hp th (List.mem_of_getElem? e)) hv [] [] (by simp) (by simp)
  · simp
def UsOk (un : List (List (List Ev6))) : Prop := ∀ t, ∀ l ∈ unA un t, EsOk l
theorem unM_n64 {p : Prg} {vals : List (List Int)} (hT : p.ths.length ≤ 4) (hp : ∀ l ∈ p.ths, VOk l) (hv : VsOk vals) : UsOk (unM p vals) := fun t l hl => by
  rw [unA_all hT] at hl
  exact unT_n64 hp hv l hl
theorem valE_n64 {vs : List (List Int)} {e : Ev6} (hv : VsOk vs) (he : EOk e) : VsOk (valE vs e) := by
  unfold valE
  split
  · intro l hl x hx
    rcases List.mem_or_eq_of_mem_set hl with hl | rfl
    · exact hv l hl x hx
    · have hin : ∀ y ∈ (vs[e.loc.toNat]?).getD [], N64 y := fun y hy => by
        cases q : vs[e.loc.toNat]? with
        | none => rw [q] at hy; cases hy
        | some r => rw [q] at hy; exact hv r (List.mem_of_getElem? q) y hy
      unfold withM at hx
      split at hx
      · exact hin x hx
      · rcases List.mem_append.mp hx with hx | hx
        · exact hin x hx
        · simp only [List.mem_singleton] at hx; subst hx; exact he.2
  · exact hv
theorem valsM_n64 {T : Nat} {un : List (List (List Ev6))} {vals : List (List Int)} (hu : UsOk un) (hv : VsOk vals) : VsOk (valsM T un vals) :=
  foldl_invm (P := VsOk) _ (fun _ t _ h => foldl_invm (P := VsOk) _ (fun _ row hrow h => foldl_invm (P := VsOk) _ (fun _ e he h => valE_n64 h (hu t row hrow e he)) h) h) hv
theorem turns_n64 {p : Prg} (hT : p.ths.length ≤ 4) (hp : ∀ l ∈ p.ths, VOk l) : ∀ (k : Nat) (vals : List (List Int)) (un u : List (List (List Ev6))), VsOk vals → UsOk un → turnsF p k vals un = some u → UsOk u := by
  intro k
  induction k with
  | zero => intro vals un u _ hu e; rw [turnsF] at e; obtain rfl := Option.some.inj e; exact hu
  | succ k ih =>
    intro vals un u hv hu e
    have hu2 := unM_n64 hT hp hv
    rw [turnsF] at e
    split at e
    · simp at e
    · split at e
      · obtain rfl := Option.some.inj e; exact hu2
      · split at e
        · simp at e
        · exact ih _ _ _ (valsM_n64 hu2 hv) hu2 e
theorem ch_ev {nl T most : Nat} {P : Exe → Prop} {un : List (List (List Ev6))} (hu : UsOk un) (hP : ∀ x, EsOk x.evs → Shp nl x → P x) : ∀ (n t : Nat) (evs : List Ev6) (out : List Exe), EsOk evs → nl ≤ evs.length → (∀ y ∈ out, P y) → ∀ y ∈ (chF n nl T t evs un out most).2, P y := by
  intro n
  induction n with
  | zero => intro _ _ _ _ _ h; rw [chF]; exact h
  | succ n ih =>
    intro t evs out he hle ho
    rw [chF_eq]
    split
    · exact src_sh hle (fun x e s => hP x (by rw [e]; exact he) s) _ _ _ (by intro y hy; simp at hy) ho
    · refine fold_sh ho fun k hk s hs => ?_
      have hk := List.mem_range.mp hk
      unfold chSt
      split
      · refine ih _ _ _ (fun e hm => ?_) (by simp; omega) hs
        rcases List.mem_append.mp hm with hm | hm
        · exact he e hm
        · unfold rowA at hm
          rw [List.getElem?_eq_getElem hk] at hm
          exact hu t _ (List.getElem_mem hk) e hm
      · exact hs
theorem all_ev {p : Prg} {most : Nat} (hT : p.ths.length ≤ 4) (hp : ∀ l ∈ p.ths, VOk l) (hi : ∀ x ∈ p.init, 0 ≤ x ∧ x ≤ 65535) : ∀ x ∈ (allM p most).1, EsOk x.evs ∧ Shp p.locs.length x := by
  have hin : ∀ j, N64 (intA p.init j) := fun j => by
    unfold intA
    cases e : p.init[j]? with
    | none => exact n64_0
    | some v => have := hi v (List.mem_of_getElem? e); show N64 v; unfold N64; omega
  have hv0 : VsOk (valsN p p.locs.length) := fun l hl x hx => by
    unfold valsN at hl
    obtain ⟨j, _, rfl⟩ := List.mem_map.mp hl
    split at hx
    · simp only [List.mem_singleton] at hx; subst hx; exact hin j
    · cases hx
  have hu0 : UsOk [[], [], [], []] := fun t l hl => by rw [unA0] at hl; cases hl
  have hini : EsOk (initsM p) := fun e he => by
    unfold initsM at he
    obtain ⟨j, _, rfl⟩ := List.mem_map.mp he
    exact ⟨n64_0, hin j⟩
  unfold allM
  split
  · simp
  · rename_i un eu
    have hu : UsOk un := turns_n64 hT hp _ _ _ _ hv0 hu0 eu
    have := ch_ev (nl := p.locs.length) (T := p.ths.length) (most := most) (P := fun x => EsOk x.evs ∧ Shp p.locs.length x) hu (fun _ a b => ⟨a, b⟩) 5 0 (initsM p) [] hini (by simp [initsM]) (by simp)
    split
    · rename_i e; rw [e] at this; exact this
    · simp
theorem endA_n64 {p : Prg} {x : Exe} {t c : Nat} (hp : ∀ l ∈ p.ths, VOk l) (he : EsOk x.evs) : ∀ y ∈ endA p x t c, N64 y := by
  have hl : ∀ k, LOk (endL p x k) := fun k => by
    unfold endL
    split
    · rename_i th e
      have hv := hp th (List.mem_of_getElem? e)
      refine (unf_n64 hv th.length _ _ _ (by omega) (fun y hy => ?_) (nrm_n64 hv LOk.zero)).2
      unfold rdsOf at hy
      obtain ⟨e, hm, rfl⟩ := List.mem_map.mp hy
      exact (he e (List.mem_filter.mp hm).1).1
    · exact LOk.zero
  have hm : ∀ j, N64 (memL x j) := fun j => by
    unfold memL evA
    cases e : x.evs[(((x.co[j]?).getD []).getLastD 0).toNat]? with
    | none => exact n64_0
    | some v => exact (he v (List.mem_of_getElem? e)).2
  intro y hy
  unfold endA at hy
  rcases List.mem_append.mp hy with hy | hy
  · obtain ⟨k, _, hk⟩ := List.mem_flatMap.mp hy
    split at hk
    · have := hl k
      unfold regL at hk
      simp only [List.mem_cons, List.not_mem_nil, or_false] at hk
      rcases hk with rfl | rfl | rfl | rfl
      · exact this.1
      · exact this.2.1
      · exact this.2.2.1
      · exact this.2.2.2
    · simp at hk; subst hk; exact n64_0
  · obtain ⟨j, _, rfl⟩ := List.mem_map.mp hy
    split
    · exact hm j
    · exact n64_0
end Go.Jq
namespace Go.Jq
variable {G : Nat → SFunc} {h h0 h1 : AH} {R : Value → AH → Prop}
structure End64 (A : List Int) : Prop where
  len : A.length = 20
  n64 : ∀ y ∈ A, N64 y
structure FOfG (G : Nat → SFunc) (txt : List Int → Prg → ByteArray) : Prop where
  all : AllG G
  cmp : CompG G
  fd : FinG G
  fq : FinQ G
  g332 : G 332 = c332
  ft : ∀ (h : AH) (R : Value → AH → Prop) (p : Prg) (lv iv tv : Value) (A : List Int), PrgV h p lv iv tv → PrgOk 5 p → End64 A → (∀ h1, Ext h h1 → R (.string (txt A p)) h1) → WC G 262 [.agg #[lv, iv, tv], .agg (A.map (Value.int .i64)).toArray] h R
  rt : ∀ (h : AH) (R : Value → AH → Prop) (p : Prg) (lv iv tv : Value) (A : List Int), PrgV h p lv iv tv → PrgOk 5 p → End64 A → (∀ h1, Ext h h1 → R (.string (txt A p)) h1) → WC G 271 [.agg #[lv, iv, tv], .agg (A.map (Value.int .i64)).toArray] h R
  aw : ∀ (h : AH) (R : Value → AH → Prop), (∀ h1, Ext h h1 → R (.bool true) h1) → WC G 261 [] h R
theorem endA_ok {p : Prg} {x : Exe} {t c : Nat} (hp : ∀ l ∈ p.ths, VOk l) (he : EsOk x.evs) : End64 (endA p x t c) := ⟨by have := endV_len (p := p) (x := x) (t := t) (c := c); unfold endV at this; simpa using this, endA_n64 hp he⟩
theorem ints_eq {l : List Int} (hl : l.length = 20) : cellsEq (zk 20) (l.map (Value.int .i64)) (l.map (Value.int .i64)) = some true := by
  have := cells_refl (l := l.map (Value.int .i64)) fun x hx => by
    obtain ⟨y, _, rfl⟩ := List.mem_map.mp hx
    exact ⟨_, _, rfl⟩
  rw [List.length_map, hl] at this
  exact this
def inv332 (h : AH) (pc : List Value) (L : List Exe) (v : Value) (b : Nat) (mm : Nat) (F : Fr) (hh : AH) : Prop :=
  ∃ i : Nat, mm = L.length - i ∧ i ≤ L.length ∧ Ext h hh ∧ F = [(3, ptrV b), (4, v), (6, .int .i64 i)]
set_option maxHeartbeats 8000000 in
theorem FinalOf_spec {txt : List Int → Prg → ByteArray} (g : FOfG G txt) {lv : Value} {l : List Int} (s : SlV 1 h l.length (l.flatMap intC) lv) (hl : l.length ≤ 9223372036854775807) (k : ∀ h1, R (.bool true) h1) : WC G 332 [lv] h R := by
  refine WC_enter g.g332 rfl ?_
  simp -implicitDefEqProofs [c332, c332_body, c332_0, c332_1]
  refine Of_spec g.cmp (most := 5) (by omega) s hl fun h1 p lv iv tv x1 V PO => ?_
  obtain ⟨hin, hth, hlo⟩ : p.init.length = p.locs.length ∧ p.ths.length ≤ 4 ∧ p.locs.length ≤ 4 := ⟨PO.init, by have := PO.ths; omega, by have := PO.locs_len; omega⟩
  have hp : ∀ l ∈ p.ths, VOk l := fun l hl => (PO.ok l hl).1.val
  simp -implicitDefEqProofs [c332_2, splice]
  refine All_d g.all (most := 800) (V.ext .lays) ⟨PO.ok⟩ hin hth hlo (by omega) fun h2 v x2 O => ?_
  have hlen := all_len (p := p) (most := 800)
  have hsh := all_ev (p := p) (most := 800) hth hp PO.ini
  generalize (allM p 800).1 = L at *
  generalize (allM p 800).2 = ok at *
  have V2 : PrgV h2 p lv iv tv := (V.ext .lays).xt x2
  have gp2 : h2.get h1.next = .cells [lv, iv, tv] false false := x2.get _ _ _ _ (by simp) (by simp)
  have n2 := x2.next
  simp at n2
  simp -implicitDefEqProofs [c332_3]
  cases ok with
  | false =>
    simp -implicitDefEqProofs [c332_4]
    refine g.aw _ _ fun h3 x3 => ?_
    simp -implicitDefEqProofs
    exact k h3
  | true =>
    obtain ⟨a, c, rfl⟩ := O.len
    simp -implicitDefEqProofs [c332_5]
    refine W_loop (inv332 h2 [] L (.slice a L.length c) h1.next) L.length ⟨0, by omega, by omega, .refl _, by simp [ptrV]⟩ ?_
    rintro mm F hh ⟨i, rfl, hi, x, rfl⟩
    simp -implicitDefEqProofs [c332_11, c332_6, ptrV]
    by_cases h3 : i < L.length
    · obtain ⟨b, o', sp, c0, gg, ro, ev, rv, cv, rfl, hb, hg, hle, hrow, E⟩ := (O.ext x).at h3
      have sm := O.1 _ (List.getElem_mem h3)
      obtain ⟨he, sh⟩ := hsh _ (List.getElem_mem h3)
      generalize L[i] = y at *
      have gp := (x.get _ (by omega)).trans gp2
      have nx := x.next
      have hco : ∀ l ∈ y.co, 0 < l.length ∧ ∀ i ∈ l, (0 : Int) ≤ i ∧ i < y.evs.length := fun l hl => ⟨sh.ne l hl, sh.co l hl⟩
      have z20 : (zi 20).length = 20 := rfl
      have w1 : IntKind.i64.wrap ((i : Int) + 1) = ((i + 1 : Nat) : Int) := by rw [wrap64 (by omega)]; rfl
      simp -implicitDefEqProofs [h3, c332_7, c332_7b, gp, hg, hrow, hle, AH.lays_lt (show h1.next < hh.next by omega), AH.lays_lt hb]
      refine Final_d g.fd ((V2.ext x).ext .lays) ⟨PO.ok⟩ hth (E.ext .lays) sm.evs (by rw [sh.all]; exact hlo) hco (fun l hl => by have := sm.rows l hl; omega) ?_
      have EA := endA_ok (x := y) (t := p.ths.length) (c := y.co.length) hp he
      have el := endV_len (p := p) (x := y) (t := p.ths.length) (c := y.co.length)
      simp -implicitDefEqProofs [el, z20, splice_all, c332_8, c332_8b, gp, hg, hrow, hle, AH.lays_lt (show h1.next < hh.next by omega), AH.lays_lt hb, List.take_of_length_le]
      refine ⟨h3, ?_⟩
      refine Final_q g.fq ((V2.ext x).ext .lays) ⟨PO.ok⟩ hth (E.ext .lays) sm.evs (by rw [sh.all]; exact hlo) hco (fun l hl => by have := sm.rows l hl; omega) ?_
      have eqv : cellsEq (zk 20) (endV p y p.ths.length y.co.length) (endV p y p.ths.length y.co.length) = some true := ints_eq EA.len
      simp -implicitDefEqProofs [eqv, gp, AH.lays_lt (show h1.next < hh.next by omega), el, List.take_of_length_le]
      refine g.ft _ _ p lv iv tv (endA p y p.ths.length y.co.length) ((V2.ext x).ext .lays) PO EA fun h4 x4 => ?_
      have n4 := x4.next
      simp at n4
      have gp4 : h4.get h1.next = .cells [lv, iv, tv] false false := by rw [x4.get _ (by simp; omega), AH.lays_lt (show h1.next < hh.next by omega)]; exact gp
      have gf4 : h4.get hh.next = .cells (endV p y p.ths.length y.co.length) false false := by rw [x4.get _ (by simp)]; simp
      simp -implicitDefEqProofs [gp4, gf4, el, List.take_of_length_le]
      refine g.rt _ _ p lv iv tv (endA p y p.ths.length y.co.length) (((V2.ext x).ext .lays).ext x4) PO EA fun h5 x5 => ?_
      have es : ∀ s : ByteArray, sstr .neq s s = some (.bool false) := fun s => by simp [sstr]
      simp -implicitDefEqProofs [es, c332_10, w1]
      refine ⟨L.length - (i + 1), by omega, i + 1, rfl, h3, (x.lays'.trans x4).trans x5, by simp [ptrV]⟩
    · simp -implicitDefEqProofs [h3, c332_12]
      refine g.aw _ _ fun h3 x3 => ?_
      simp -implicitDefEqProofs
      exact k h3
end Go.Jq
namespace Go.Jq
variable {G : Nat → SFunc}
def txtE (A : List Int) (p : Prg) : ByteArray := ⟨(jn (wsA A p)).toArray⟩
theorem End64.ok {A : List Int} (e : End64 A) : EndOk A := ⟨e.len, fun x hx => by
  have := e.n64 x hx
  unfold N64 at this
  unfold I64; omega⟩
theorem PrgOk.t13 {most : Nat} {p : Prg} (o : PrgOk most p) : PrgT p := by
  obtain ⟨f, _, e⟩ := o.locs
  refine ⟨by have := o.ths; omega, by have := o.locs_len; omega, fun c hc => ?_⟩
  rw [e] at hc
  unfold letters lettersN at hc
  obtain ⟨i, hi, rfl⟩ := List.mem_map.1 hc
  have := (List.mem_filter.1 hi).1
  simp at this
  omega
theorem FOfG.of (all : AllG G) (cmp : CompG G) (fd : FinG G) (fq : FinQ G) (g332 : G 332 = c332) (tx : TxtG G) (aw : ∀ (h : AH) (R : Value → AH → Prop), (∀ h1, Ext h h1 → R (.bool true) h1) → WC G 261 [] h R) : FOfG G txtE where
  all := all
  cmp := cmp
  fd := fd
  fq := fq
  g332 := g332
  ft := fun h R p lv iv tv A V PO E k => FText_spec tx V.l PO.t13 E.ok k
  rt := fun h R p lv iv tv A V PO E k => RText_spec tx V.l PO.t13 E.ok k
  aw := aw
end Go.Jq
