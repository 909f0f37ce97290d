/- Stores that wait: BufOrder, walked. -/
import Derived.Test.YtcgpmahbigdikaaB10
set_option linter.unusedSimpArgs false
set_option linter.unusedVariables false
namespace Go.Jq
variable {G : Nat → SFunc} {h : AH} {R : Value → AH → Prop}

/-- the two rows in memory, and the input as it was -/
structure MemO (l : List OpT) (v : Value) (B : Nat) (es fs : List Ent) (hh : AH) : Prop where
  t : hh.get B = .cells (bufC 2 es) false false
  p : hh.get (B + 1) = .cells (bufC 3 fs) false false
  nx : B + 2 ≤ hh.next
  ops : Ops hh l v
  low : ∀ b o sp c, v = .slice (some ⟨b, o, sp⟩) l.length c → b < B

theorem MemO.ext {l : List OpT} {v : Value} {B : Nat} {es fs : List Ent} {hh h1 : AH} (s : MemO l v B es fs hh) (x : Ext hh h1) : MemO l v B es fs h1 :=
  ⟨(x.get B (by have := s.nx; omega)).trans s.t, (x.get (B + 1) (by have := s.nx; omega)).trans s.p, Nat.le_trans s.nx x.next, SlV.ext s.ops x, s.low⟩
theorem MemO.keep {l : List OpT} {v : Value} {B : Nat} {es fs es' fs' : List Ent} {hh h1 : AH} (s : MemO l v B es fs hh) (x : ∀ k, k < B → h1.get k = hh.get k) (t : h1.get B = .cells (bufC 2 es') false false) (p : h1.get (B + 1) = .cells (bufC 3 fs') false false) (nx : B + 2 ≤ h1.next) : MemO l v B es' fs' h1 := by
  refine ⟨t, p, nx, ?_, s.low⟩
  obtain ⟨s1, s2⟩ := s.ops
  refine ⟨s1, ?_⟩
  rcases s2 with s2 | ⟨b, o, sp, c, c0, g, ro, r1, r2, r3, r4⟩
  · exact .inl s2
  · have hb := s.low b o sp c r1
    exact .inr ⟨b, o, sp, c, c0, g, ro, r1, by omega, by rw [x b hb]; exact r3, r4⟩
theorem MemO.putT {l : List OpT} {v : Value} {B : Nat} {es fs es' : List Ent} {hh h1 : AH} (s : MemO l v B es fs hh) (x : Ext hh h1) : MemO l v B es' fs (h1.put B (.cells (bufC 2 es') false false)) := by
  have s1 := s.ext x
  exact s1.keep (fun k hk => by rw [AH.put_get, if_neg (by omega)]) (by simp) (by simp [s1.p]) s1.nx
theorem MemO.putP {l : List OpT} {v : Value} {B : Nat} {es fs fs' : List Ent} {hh h1 : AH} (s : MemO l v B es fs hh) (x : Ext hh h1) : MemO l v B es fs' (h1.put (B + 1) (.cells (bufC 3 fs') false false)) := by
  have s1 := s.ext x
  exact s1.keep (fun k hk => by rw [AH.put_get, if_neg (by omega)]) (by simp [s1.t]) (by simp) s1.nx

def fr2 (v : Value) (B : Nat) (n : Nat) (t : Nat) (i : Int) : Fr := [(0, v), (3, .pointer (some ⟨B, 0, none⟩)), (4, .pointer (some ⟨B + 1, 0, none⟩)), (5, .int .i64 n), (t, .int .i64 i)]
def inv2a (l : List OpT) (v : Value) (n : Nat) (k : Nat) (F : Fr) (hh : AH) : Prop := ∃ i B : Nat, k = n - i ∧ i ≤ n ∧ MemO l v B (entsO l i) (entsO l i) hh ∧ F = fr2 v B n 6 i
def inv2b (l : List OpT) (v : Value) (n B : Nat) (k : Nat) (F : Fr) (hh : AH) : Prop := ∃ i : Nat, k = n - i ∧ i ≤ n ∧ MemO l v B ((entsO l n).drop i) (entsO l n) hh ∧ F = fr2 v B n 7 i
def inv2c (l : List OpT) (v : Value) (n B : Nat) (k : Nat) (F : Fr) (hh : AH) : Prop := ∃ c : Nat, k = 4 - c ∧ c ≤ 4 ∧ MemO l v B [] (leftO (entsO l n) c 0) hh ∧ F = fr2 v B n 12 c
def inv2d (l : List OpT) (v : Value) (n B c : Nat) (k : Nat) (F : Fr) (hh : AH) : Prop := ∃ i : Nat, k = n - i ∧ i ≤ n ∧ MemO l v B [] (leftO (entsO l n) c i) hh ∧ F = [(0, v), (3, .pointer (some ⟨B, 0, none⟩)), (4, .pointer (some ⟨B + 1, 0, none⟩)), (5, .int .i64 n), (12, .int .i64 c), (13, .int .i64 i)]

theorem order_a (g : BufL G) {l : List OpT} {v : Value} {n : Nat} (hn : n ≤ l.length) (hn20 : n ≤ 20) {k : Nat} {F : Fr} {hh : AH} {R : SExit → Fr → AH → Prop} (I : inv2a l v n k F hh)
    (K : ∀ (hh' : AH) (B : Nat) (t25 : Value), MemO l v B (entsO l n) (entsO l n) hh' → R (.exit 0) (fr2 v B n 6 n ++ [(25, t25)]) hh') :
    W G c2_8 (F.keep [0, 3, 4, 5, 6]) hh (loopK (fun F1 h1 => ∃ m, m < k ∧ inv2a l v n m F1 h1) R) := by
  obtain ⟨i, B, rfl, hi, M, rfl⟩ := I
  unfold c2_8 c2_4 c2_5 c2_5b c2_6 c2_6b c2_7
  by_cases hin : i < n
  · have h1 : (i : Int) < n := by omega
    obtain ⟨b, o, sp, c, c0, gg, ro, rfl, hb, hgb, ld0, ld1, ld2⟩ := Ops.at M.ops (i := i) (by omega)
    have hbB := M.low b o sp c rfl
    have hil : i < l.length := by omega
    have hes := entsO_length l i
    have L := fun m => bufC_length (m := m) (es := entsO l i) (by omega)
    have L' := fun m => bufC_length (m := m) (es := entsO l (i + 1)) (by rw [entsO_length]; omega)
    have e1 := M.t
    have e2 := M.p
    have nx := M.nx
    have hbB1 : b ≠ B := by omega
    have hbB2 : b ≠ B + 1 := by omega
    simp -implicitDefEqProofs [fr2, h1, e1, e2, hgb, hil, ld1, ld2, hbB1, hbB2, L, L', List.take_of_length_le, wD_move, wD_keep, SOp.still, SOp.quiet, SOp.float, putD, Rec.same, sop, Rec.apart, splice_all]
    refine Put_spec g.toBufG (by omega) fun h3 x3 => ?_
    have a1 := addS_entO (l := l) (i := i) (m := 2) (by omega) (by omega)
    have a2 := addS_entO (l := l) (i := i) (m := 3) (by omega) (by omega)
    rw [entO_eq hil] at a1 a2
    rw [a1]
    have M3 := M.ext x3
    have e31 := M3.t
    have e32 := M3.p
    have hg3 := (x3.get b (by omega)).trans hgb
    simp -implicitDefEqProofs [bufV, e31, e32, hg3, hil, ld1, ld2, hbB1, hbB2, L, L', List.take_of_length_le, wD_move, wD_keep, SOp.still, SOp.quiet, SOp.float, putD, Rec.same, sop, Rec.apart, splice_all]
    refine Put_spec g.toBufG (by omega) fun h4 x4 => ?_
    rw [a2]
    have M4 := (M.putT (es' := entsO l (i + 1)) x3).ext x4
    have e41 := M4.t
    have e42 := M4.p
    have hg4 : h4.get b = .cells c0 gg ro := by rw [x4.get b (by have := M3.nx; simp; omega)]; simp [hbB1, hg3]
    have hwi : IntKind.i64.wrap ((i : Int) + 1) = (i : Int) + 1 := wrap64 (by omega)
    simp -implicitDefEqProofs [bufV, hwi, e41, e42, hg4, hil, ld1, ld2, hbB1, hbB2, L, L', List.take_of_length_le, wD_move, wD_keep, SOp.still, SOp.quiet, SOp.float, putD, Rec.same, sop, Rec.apart, splice_all]
    exact ⟨n - (i + 1), by omega, i + 1, B, rfl, hin, (M.putT (es' := entsO l (i + 1)) x3).putP x4, by simp [fr2]⟩
  · have : i = n := by omega
    subst this
    simp -implicitDefEqProofs [fr2]
    exact K hh B _ M

theorem order_b (g : BufL G) {l : List OpT} {v : Value} {n B : Nat} (hn : n ≤ l.length) (hn20 : n ≤ 20) {k : Nat} {F : Fr} {hh : AH} {R : SExit → Fr → AH → Prop} (I : inv2b l v n B k F hh)
    (K : ∀ (hh' : AH) (t58 : Value), MemO l v B [] (entsO l n) hh' → R (.exit 2) (fr2 v B n 7 n ++ [(58, t58)]) hh') :
    W G c2_16 (F.keep [0, 3, 4, 5, 7]) hh (loopK (fun F1 h1 => ∃ m, m < k ∧ inv2b l v n B m F1 h1) R) := by
  obtain ⟨i, rfl, hi, M, rfl⟩ := I
  unfold c2_16 c2_10 c2_11 c2_12 c2_14 c2_15
  have hlen := entsO_length l n
  by_cases hin : i < n
  · have h1 : (i : Int) < n := by omega
    obtain ⟨b, o, sp, c, c0, gg, ro, rfl, hb, hgb, ld0, ld1, ld2⟩ := Ops.at M.ops (i := i) (by omega)
    have hbB := M.low b o sp c rfl
    have hil : i < l.length := by omega
    have hdrop : (entsO l n).drop i = entO l i :: (entsO l n).drop (i + 1) := by
      rw [List.drop_eq_getElem_cons (by omega)]
      congr 1
      simp [entsO]
    have hdl : ((entsO l n).drop i).length ≤ 24 := by simp [hlen]; omega
    have L := fun m => bufC_length (m := m) hdl
    have L' := fun m => bufC_length (m := m) (es := (entsO l n).drop (i + 1)) (by simp [hlen]; omega)
    have e1 := M.t
    have e2 := M.p
    have nx := M.nx
    simp -implicitDefEqProofs [fr2, h1, e1, L, List.take_of_length_le]
    refine Oldest_spec g.toBufG (m := 2) hdl fun h3 x3 => ?_
    have hold : oldV 2 0 ((entsO l n).drop i) = .tuple #[.int .i64 (entO l i).loc, .int .i64 (entO l i).v, .int .i64 i, .bool true] := by
      rw [hdrop, oldV, oldN_all]
      simp [entO]
    rw [hold, entO_eq hil]
    have M3 := M.ext x3
    have e31 := M3.t
    have hg3 := (x3.get b (by omega)).trans hgb
    simp -implicitDefEqProofs [e31, hg3, hil, ld1, ld2, L, List.take_of_length_le]
    refine Drop_spec g.toBufG (m := 2) hdl fun h4 x4 => ?_
    have hds : dropS 2 0 ((entsO l n).drop i) = (entsO l n).drop (i + 1) := by
      rw [hdrop, dropS, oldN_all]
      rfl
    rw [hds]
    have M4 := M3.ext x4
    have e41 := M4.t
    have hwi : IntKind.i64.wrap ((i : Int) + 1) = (i : Int) + 1 := wrap64 (by omega)
    simp -implicitDefEqProofs [bufV, e41, hwi, L, L', splice_all, List.take_of_length_le]
    exact ⟨n - (i + 1), by omega, i + 1, rfl, hin, M3.putT x4, by simp [fr2]⟩
  · have : i = n := by omega
    subst this
    simp -implicitDefEqProofs [fr2]
    refine K hh _ ?_
    have : (entsO l i).drop i = [] := List.drop_of_length_le (by omega)
    rwa [this] at M
end Go.Jq
