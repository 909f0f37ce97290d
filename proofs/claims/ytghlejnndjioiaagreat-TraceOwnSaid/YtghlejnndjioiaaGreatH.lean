/- Sets of few numbers, and relations: what they are in memory, and what their functions answer. -/
import Derived.Test.YtghlejnndjioiaaGreatC
import Derived.Test.YtghlejnndjioiaaGreatM3
import Derived.Deep.Slices
import Derived.OpenShut
import Derived.ProofKit
set_option linter.unusedSimpArgs false
set_option linter.unusedVariables false
namespace Go.Jq
variable {G : Nat → SFunc} {h : AH} {R : Value → AH → Prop}
theorem wrapu {n : Int} (h : 0 ≤ n ∧ n < 18446744073709551616) : IntKind.u64.wrap n = n := by
  simp only [IntKind.wrap, IntKind.bits, IntKind.signed]
  simp; omega
theorem iand_nat {a b : Nat} (ha : a < 2 ^ 64) (hb : b < 2 ^ 64) : iand .u64 a b = ((a &&& b : Nat) : Int) := by
  have e : (BitVec.ofInt IntKind.u64.bits (a : Int) &&& BitVec.ofInt IntKind.u64.bits (b : Int)).toNat = a &&& b := by
    rw [BitVec.toNat_and, BitVec.ofInt_natCast, BitVec.ofInt_natCast, BitVec.toNat_ofNat, BitVec.toNat_ofNat]
    show a % 2 ^ 64 &&& b % 2 ^ 64 = _
    rw [Nat.mod_eq_of_lt ha, Nat.mod_eq_of_lt hb]
  rw [iand, e, wrapu]
  have : a &&& b ≤ a := Nat.and_le_left
  omega
theorem ior_nat {a b : Nat} (ha : a < 2 ^ 64) (hb : b < 2 ^ 64) : ior .u64 a b = ((a ||| b : Nat) : Int) := by
  have e : (BitVec.ofInt IntKind.u64.bits (a : Int) ||| BitVec.ofInt IntKind.u64.bits (b : Int)).toNat = a ||| b := by
    rw [BitVec.toNat_or, BitVec.ofInt_natCast, BitVec.ofInt_natCast, BitVec.toNat_ofNat, BitVec.toNat_ofNat]
    show a % 2 ^ 64 ||| b % 2 ^ 64 = _
    rw [Nat.mod_eq_of_lt ha, Nat.mod_eq_of_lt hb]
  rw [ior, e, wrapu]
  have : a ||| b < 2 ^ 64 := Nat.or_lt_two_pow ha hb
  omega
abbrev stW (s : Nat) : Value := .int .u64 (s : Int)
def bitN (i : Int) : Nat := if 0 ≤ i ∧ i < 64 then 2 ^ i.toNat else 0
theorem bitN_lt {i : Int} : bitN i < 2 ^ 64 := by
  unfold bitN; split
  · exact Nat.pow_lt_pow_right (by omega) (by omega)
  · decide
def hasB (s : Nat) (i : Int) : Bool := decide (0 ≤ i ∧ i < 64) && s.testBit i.toNat
theorem and_bit {s : Nat} {i : Int} : decide (¬ (s &&& bitN i) = 0) = hasB s i := by
  unfold bitN hasB
  by_cases h : 0 ≤ i ∧ i < 64
  · rw [if_pos h, decide_eq_true h, Bool.true_and]
    have e : s &&& 2 ^ i.toNat = (s.testBit i.toNat).toNat * 2 ^ i.toNat := by
      apply Nat.eq_of_testBit_eq
      intro j
      rw [Nat.testBit_and, Nat.testBit_two_pow]
      cases hb : s.testBit i.toNat with
      | false =>
        simp
        rintro h1 rfl; rw [hb] at h1; simp at h1
      | true =>
        simp only [Bool.toNat_true, Nat.one_mul, Nat.testBit_two_pow]
        by_cases hj : i.toNat = j
        · subst hj; simp [hb]
        · simp [hj]
    rw [e]
    have : 0 < 2 ^ i.toNat := Nat.pow_pos (by omega)
    cases s.testBit i.toNat <;> simp
  · rw [if_neg h, decide_eq_false h]; simp
def withN (s : Nat) (i : Int) : Nat := s ||| bitN i
theorem withN_lt {s : Nat} {i : Int} (h : s < 2 ^ 64) : withN s i < 2 ^ 64 := Nat.or_lt_two_pow h bitN_lt
theorem withN_bit {s : Nat} {i : Int} {j : Nat} : (withN s i).testBit j = (s.testBit j || (decide (0 ≤ i ∧ i < 64) && decide (i = j))) := by
  unfold withN bitN
  rw [Nat.testBit_or]
  congr 1
  by_cases h : 0 ≤ i ∧ i < 64
  · rw [if_pos h, decide_eq_true h, Nat.testBit_two_pow, Bool.true_and]
    congr 1
    apply propext; omega
  · rw [if_neg h, decide_eq_false h]; simp
structure SetG (G : Nat → SFunc) : Prop where
  g103 : G 103 = c103
  g58 : G 58 = c58
  g102 : G 102 = c102
theorem bit_spec (g : SetG G) {i : Int} (k : R (stW (bitN i)) h) : WC G 103 [.int .i64 i] h R := by
  refine WC_enter g.g103 rfl ?_
  show W G c103_body _ _ (retK [.tmp 2] R)
  unfold c103_body c103_0 c103_1 c103_2 c103_3
  by_cases h1 : i < 0
  · have : bitN i = 0 := by unfold bitN; rw [if_neg]; omega
    rw [this] at k
    simp -implicitDefEqProofs [h1]
    exact k
  · by_cases h2 : 64 ≤ i
    · have : bitN i = 0 := by unfold bitN; rw [if_neg]; omega
      rw [this] at k
      simp -implicitDefEqProofs [h1, h2]
      exact k
    · have e : bitN i = 2 ^ i.toNat := by unfold bitN; rw [if_pos]; omega
      have e1 : IntKind.u64.wrap i = i := wrapu (by omega)
      have e2 : min i.toNat IntKind.u64.bits = i.toNat := by
        have : IntKind.u64.bits = 64 := rfl
        rw [this]; omega
      have hp : (2 : Nat) ^ i.toNat < 2 ^ 64 := Nat.pow_lt_pow_right (by omega) (by omega)
      have e3 : IntKind.u64.wrap ((1 : Int) * 2 ^ i.toNat) = ((2 ^ i.toNat : Nat) : Int) := by
        rw [Int.one_mul]
        have : (2 : Int) ^ i.toNat = ((2 ^ i.toNat : Nat) : Int) := by simp
        rw [this]
        exact wrapu ⟨by omega, by omega⟩
      rw [e] at k
      simp -implicitDefEqProofs only [W_seq, W_reg, W_cond, W_ret, W_skip]
      simp -implicitDefEqProofs [h1, h2, e1, e2, sbin]
      rw [Int.one_mul] at e3
      rw [e3]
      simp at k ⊢
      exact k
theorem Has_spec (g : SetG G) {s : Nat} {i : Int} (hs : s < 2 ^ 64) (k : R (.bool (hasB s i)) h) : WC G 58 [stW s, .int .i64 i] h R := by
  refine WC_enter g.g58 rfl ?_
  show W G c58_body _ _ (retK [.tmp 4] R)
  unfold c58_body c58_0 c58_1
  simp -implicitDefEqProofs
  refine bit_spec g ?_
  have e : ((s &&& bitN i : Nat) : Int) = 0 ↔ (s &&& bitN i) = 0 := by omega
  rw [← and_bit] at k
  simp -implicitDefEqProofs [iand_nat hs bitN_lt, e]
  simpa using k
theorem With_spec (g : SetG G) {s : Nat} {i : Int} (hs : s < 2 ^ 64) (k : R (stW (withN s i)) h) : WC G 102 [stW s, .int .i64 i] h R := by
  refine WC_enter g.g102 rfl ?_
  show W G c102_body _ _ (retK [.tmp 4] R)
  unfold c102_body c102_0 c102_1
  simp -implicitDefEqProofs
  refine bit_spec g ?_
  simp -implicitDefEqProofs [ior_nat hs bitN_lt]
  exact k
def rowC (r : Nat → Nat) : List Value := (List.range 64).map fun i => stW (r i)
def relC (n : Nat) (r : Nat → Nat) : List Value := .int .i64 (n : Int) :: rowC r
def relV (n : Nat) (r : Nat → Nat) : Value := .agg (relC n r).toArray
theorem rowC_length {r : Nat → Nat} : (rowC r).length = 64 := by simp [rowC]
@[simp] theorem relC_length {n : Nat} {r : Nat → Nat} : (relC n r).length = 65 := by simp [relC, rowC_length]
theorem rowC_get {r : Nat → Nat} {i : Nat} (h : i < 64) : (rowC r)[i]? = some (stW (r i)) := by simp [rowC, h]
@[simp] theorem relC_get0 {n : Nat} {r : Nat → Nat} : (relC n r)[0]? = some (.int .i64 (n : Int)) := rfl
@[simp] theorem relC_g0 {n : Nat} {r : Nat → Nat} {h : 0 < (relC n r).length} : (relC n r)[0] = .int .i64 (n : Int) := rfl
theorem relC_get {n : Nat} {r : Nat → Nat} {i : Nat} (h : i < 64) : (relC n r)[1 + i]? = some (stW (r i)) := by
  rw [Nat.add_comm, relC, List.getElem?_cons_succ, rowC_get h]
def updR (r : Nat → Nat) (i v : Nat) : Nat → Nat := fun j => if j = i then v else r j
theorem rowC_set {r : Nat → Nat} {i v : Nat} : (rowC r).set i (stW v) = rowC (updR r i v) := by
  apply List.ext_getElem?
  intro j
  rw [List.getElem?_set, rowC_length]
  by_cases hj : j < 64
  · rw [rowC_get hj, rowC_get hj]
    by_cases h : i = j
    · subst h; simp [updR, hj]
    · have : ¬ j = i := fun e => h e.symm
      simp [h, updR, this]
  · by_cases h : i = j
    · subst h
      rw [if_pos rfl, if_neg hj, List.getElem?_eq_none (by rw [rowC_length]; omega)]
    · rw [if_neg h, List.getElem?_eq_none (by rw [rowC_length]; omega), List.getElem?_eq_none (by rw [rowC_length]; omega)]
theorem relC_set {n : Nat} {r : Nat → Nat} {i v : Nat} : (relC n r).set (1 + i) (stW v) = relC n (updR r i v) := by
  rw [Nat.add_comm, relC, List.set_cons_succ, rowC_set]; rfl
theorem zrel_eq : zrel = relC 0 fun _ => 0 := rfl
theorem zrel_length : zrel.length = 65 := rfl
theorem relC_take {n : Nat} {r : Nat → Nat} : (relC n r).take 65 = relC n r := List.take_of_length_le (by simp)
theorem relC_splice {n m : Nat} {r q : Nat → Nat} : splice (relC n r) 0 (relC m q) = relC m q := splice_all (by simp)
structure RelG (G : Nat → SFunc) : Prop extends SetG G where
  g38 : G 38 = c38
  g137 : G 137 = c137
  g98 : G 98 = c98
  g139 : G 139 = c139
  g56 : G 56 = c56
  g57 : G 57 = c57
def inB (n : Nat) (a : Int) : Bool := decide (0 ≤ a) && decide (a < n)
def newN (a : Int) : Nat := if a ≤ 0 then 0 else if 64 ≤ a then 64 else a.toNat
theorem newN_of {a : Nat} (h : a ≤ 64) : newN (a : Int) = a := by unfold newN; split <;> (try split) <;> omega
theorem newN_le {a : Int} : newN a ≤ 64 := by unfold newN; split <;> (try split) <;> omega
theorem zrel_put {n : Nat} : splice zrel 0 [.int .i64 (n : Int)] = relC n fun _ => 0 := rfl
theorem zrel_splice {n : Nat} {r : Nat → Nat} : splice zrel 0 (relC n r) = relC n r := splice_all (by simp [zrel_length])
theorem New_rel (g : RelG G) {a : Int} (k : ∀ h1, Ext h h1 → R (relV (newN a) fun _ => 0) h1) : WC G 38 [.int .i64 a] h R := by
  refine WC_enter g.g38 rfl ?_
  show W G c38_body _ _ (retK [.cellN 2 65] R)
  unfold c38_body c38_0 c38_1
  have k1 : ∀ o o', R (relV (newN a) fun _ => 0) ((h.alloc o).put h.next o') := fun o o' => k _ (((Ext.refl h).alloc _).put (Nat.le_refl _) _)
  have e : (if 64 < (if a < 0 then (0 : Int) else a) then (64 : Int) else (if a < 0 then (0 : Int) else a)) = (newN a : Int) := by
    unfold newN; split <;> split <;> (try split) <;> (try split) <;> omega
  have e' : smm true (.int .i64 a) [.int .i64 0] = some (.int .i64 (if a < 0 then 0 else a)) := by simp [smm]
  have e2 : ∀ b : Int, smm false (.int .i64 b) [.int .i64 64] = some (.int .i64 (if b > 64 then 64 else b)) := fun b => by simp [smm]
  simp -implicitDefEqProofs [e', e2, e, zrel_put, zrel_splice, zrel_length, relC_take]
  exact k1 _ _
theorem N_rel (g : RelG G) {n : Nat} {r : Nat → Nat} (k : ∀ h1, Ext h h1 → R (.int .i64 n) h1) : WC G 137 [relV n r] h R := by
  refine WC_enter g.g137 rfl ?_
  show W G c137_body _ _ (retK [.tmp 2] R)
  unfold c137_body c137_0 c137_1
  simp -implicitDefEqProofs [relV]
  exact k _ ((Ext.refl h).alloc _)
theorem in_rel (g : RelG G) {n : Nat} {r : Nat → Nat} {a : Int} (k : ∀ h1, Ext h h1 → R (.bool (inB n a)) h1) : WC G 98 [relV n r, .int .i64 a] h R := by
  refine WC_enter g.g98 rfl ?_
  show W G c98_body _ _ (retK [.tmp 4] R)
  unfold c98_body c98_0 c98_1
  have kk : ∀ o, R (.bool (inB n a)) (h.alloc o) := fun o => k _ ((Ext.refl h).alloc o)
  by_cases h1 : 0 ≤ a
  · by_cases h2 : a < n
    · have e : inB n a = true := by simp [inB, h1, h2]
      rw [e] at kk
      simp -implicitDefEqProofs [relV, h1, h2]
      exact kk _
    · have e : inB n a = false := by simp [inB, h2]
      rw [e] at kk
      simp -implicitDefEqProofs [relV, h1, h2]
      exact kk _
  · have e : inB n a = false := by simp [inB, h1]
    rw [e] at kk
    simp -implicitDefEqProofs [relV, h1]
    exact kk _
theorem inB_nat {n : Nat} {a : Int} (h : inB n a = true) : ∃ i : Nat, a = i ∧ i < n := by
  simp only [inB, Bool.and_eq_true, decide_eq_true_eq] at h
  exact ⟨a.toNat, by omega, by omega⟩
theorem inB_of {n a : Nat} (h : a < n) : inB n a = true := by simp [inB]; omega
def RowsOk (r : Nat → Nat) : Prop := ∀ i, r i < 2 ^ 64
def relB (n : Nat) (r : Nat → Nat) (a b : Int) : Bool := inB n a && hasB (r a.toNat) b
theorem Has_rel (g : RelG G) {n : Nat} {r : Nat → Nat} {a b : Int} (hn : n ≤ 64) (hr : RowsOk r) (k : ∀ h1, Ext h h1 → R (.bool (relB n r a b)) h1) : WC G 139 [relV n r, .int .i64 a, .int .i64 b] h R := by
  refine WC_enter g.g139 rfl ?_
  show W G c139_body _ _ (retK [.tmp 6] R)
  unfold c139_body c139_0 c139_1
  simp -implicitDefEqProofs [relV, relC_take]
  refine in_rel g fun h1 x => ?_
  have hx : h1.get h.next = .cells (relC n r) false false := by rw [x.get _ (by simp)]; simp
  have x2 : Ext h h1 := ((Ext.refl h).alloc _).trans x
  cases e : inB n a with
  | false =>
    simp -implicitDefEqProofs
    have := k _ x2
    simpa [relB, e] using this
  | true =>
    obtain ⟨i, rfl, hi⟩ := inB_nat e
    have f1 : (i : Int) < 64 := by omega
    simp -implicitDefEqProofs [hx, f1, relC_get (show i < 64 by omega)]
    refine Has_spec g.toSetG (hr _) ?_
    simp -implicitDefEqProofs
    have := k _ x2
    simpa [relB, e] using this
def addR (n : Nat) (r : Nat → Nat) (a b : Int) : Nat → Nat := if inB n a && inB n b then updR r a.toNat (withN (r a.toNat) b) else r
theorem addR_ok {n : Nat} {r : Nat → Nat} {a b : Int} (hr : RowsOk r) : RowsOk (addR n r a b) := by
  unfold addR; split
  · intro i; unfold updR; split
    · exact withN_lt (hr _)
    · exact hr _
  · exact hr
theorem Add_rel (g : RelG G) {n : Nat} {r : Nat → Nat} {a b : Int} (hn : n ≤ 64) (hr : RowsOk r) (k : ∀ h1, Ext h h1 → R (relV n (addR n r a b)) h1) : WC G 56 [relV n r, .int .i64 a, .int .i64 b] h R := by
  refine WC_enter g.g56 rfl ?_
  show W G c56_body _ _ (retK [.cellN 6 65] R)
  unfold c56_body c56_0 c56_1
  simp -implicitDefEqProofs [relV, relC_take]
  refine in_rel g fun h1 x => ?_
  have hx : h1.get h.next = .cells (relC n r) false false := by rw [x.get _ (by simp)]; simp
  have hz : h1.get (h.next + 1) = .cells zrel false false := by rw [x.get _ (by simp)]; simp
  have hq : h.next + 2 ≤ h1.next := x.next
  have x2 : Ext h h1 := (((Ext.refl h).alloc _).alloc _).trans x
  unfold c56_2 c56_3
  cases e : inB n a with
  | false =>
    have ea : addR n r a b = r := by simp [addR, e]
    rw [ea] at k
    simp -implicitDefEqProofs [hx, hz, relC_take, zrel_length, zrel_splice]
    exact k _ (x2.put (by omega) _)
  | true =>
    simp -implicitDefEqProofs [hx, relC_take]
    refine in_rel g fun h2 y => ?_
    have hx' : h2.get h.next = .cells (relC n r) false false := by rw [y.get _ (by omega)]; exact hx
    have hz' : h2.get (h.next + 1) = .cells zrel false false := by rw [y.get _ (by omega)]; exact hz
    have y2 : Ext h h2 := x2.trans y
    cases e2 : inB n b with
    | false =>
      have ea : addR n r a b = r := by simp [addR, e2]
      rw [ea] at k
      simp -implicitDefEqProofs [hx', hz', relC_take, zrel_length, zrel_splice]
      exact k _ (y2.put (by omega) _)
    | true =>
      obtain ⟨i, rfl, hi⟩ := inB_nat e
      have f1 : (i : Int) < 64 := by omega
      have ea : addR n r i b = updR r i (withN (r i) b) := by simp [addR, e, e2]
      rw [ea] at k
      simp -implicitDefEqProofs [hx', hz', f1, relC_get (show i < 64 by omega)]
      refine With_spec g.toSetG (hr _) ?_
      simp -implicitDefEqProofs [hx', hz', f1, relC_set, relC_take, zrel_length, zrel_splice]
      exact ⟨by omega, k _ ((y2.put (Nat.le_refl _) _).put (by omega) _)⟩
def cloI (k : Nat) (r : Nat → Nat) (i : Nat) : Nat → Nat := if (r i).testBit k then updR r i (r i ||| r k) else r
def cloK (n : Nat) (r : Nat → Nat) (k : Nat) : Nat → Nat := (List.range n).foldl (cloI k) r
def clo (n : Nat) (r : Nat → Nat) : Nat → Nat := (List.range n).foldl (cloK n) r
theorem cloI_ok {k : Nat} {r : Nat → Nat} {i : Nat} (hr : RowsOk r) : RowsOk (cloI k r i) := by
  unfold cloI; split
  · intro j; unfold updR; split
    · exact Nat.or_lt_two_pow (hr _) (hr _)
    · exact hr _
  · exact hr
theorem foldl_ok {α : Type} {f : (Nat → Nat) → α → (Nat → Nat)} (hf : ∀ r a, RowsOk r → RowsOk (f r a)) : ∀ {l : List α} {r : Nat → Nat}, RowsOk r → RowsOk (l.foldl f r)
  | [], _, h => h
  | _ :: l, _, h => foldl_ok hf (l := l) (hf _ _ h)
theorem cloK_ok {n k : Nat} {r : Nat → Nat} (hr : RowsOk r) : RowsOk (cloK n r k) := foldl_ok (fun _ _ h => cloI_ok h) hr
theorem clo_ok {n : Nat} {r : Nat → Nat} (hr : RowsOk r) : RowsOk (clo n r) := foldl_ok (fun _ _ h => cloK_ok h) hr
theorem foldl_range {α : Type} {f : α → Nat → α} {a : α} {n : Nat} : (List.range (n + 1)).foldl f a = f ((List.range n).foldl f a) n := by
  rw [List.range_succ, List.foldl_append]; rfl
structure CloM (h hh : AH) (n : Nat) (r : Nat → Nat) : Prop where
  ext : Ext h hh
  next : hh.next = h.next + 2
  rel : hh.get h.next = .cells (relC n r) false false
  out : hh.get (h.next + 1) = .cells zrel false false
def inv57b (h : AH) (n : Nat) (r : Nat → Nat) (kk : Nat) (m : Nat) (F : Fr) (hh : AH) : Prop :=
  ∃ i, m = n - i ∧ i ≤ n ∧ CloM h hh n ((List.range i).foldl (cloI kk) ((List.range kk).foldl (cloK n) r)) ∧
    F = [(1, .pointer (some ⟨h.next, 0, none⟩)), (2, .pointer (some ⟨h.next + 1, 0, none⟩)), (3, .int .i64 kk), (6, .int .i64 n), (7, .int .i64 kk), (11, .int .i64 n), (12, .int .i64 i)]
def inv57a (h : AH) (n : Nat) (r : Nat → Nat) (m : Nat) (F : Fr) (hh : AH) : Prop :=
  ∃ kk, m = n - kk ∧ kk ≤ n ∧ CloM h hh n ((List.range kk).foldl (cloK n) r) ∧
    F = [(1, .pointer (some ⟨h.next, 0, none⟩)), (2, .pointer (some ⟨h.next + 1, 0, none⟩)), (6, .int .i64 n), (7, .int .i64 kk)]
theorem Closure_rel (g : RelG G) {n : Nat} {r : Nat → Nat} (hn : n ≤ 64) (hr : RowsOk r) (k : ∀ h1, Ext h h1 → R (relV n (clo n r)) h1) : WC G 57 [relV n r] h R := by
  refine WC_enter g.g57 rfl ?_
  show W G c57_body _ _ (retK [.cellN 2 65] R)
  unfold c57_body c57_0 c57_1
  simp -implicitDefEqProofs [relV]
  refine W_loop (inv57a h n r) n ⟨0, rfl, Nat.zero_le _, ⟨((Ext.refl h).alloc _).alloc _, rfl, by simp, by simp⟩, rfl⟩ ?_
  rintro m F hh ⟨kk, rfl, hk, M, rfl⟩
  unfold c57_12 c57_2 c57_3 c57_4 c57_13
  by_cases h1 : kk < n
  · simp -implicitDefEqProofs [h1, M.rel]
    refine W_loop (inv57b h n r kk) n ⟨0, rfl, Nat.zero_le _, M, rfl⟩ ?_
    rintro m F hh2 ⟨i, rfl, hi, M2, rfl⟩
    unfold c57_10 c57_5 c57_6 c57_7 c57_9
    have hrr : RowsOk ((List.range i).foldl (cloI kk) ((List.range kk).foldl (cloK n) r)) := foldl_ok (fun _ _ h => cloI_ok h) (foldl_ok (fun _ _ h => cloK_ok h) hr)
    have e0 := @foldl_range _ (cloI kk) ((List.range kk).foldl (cloK n) r) i
    revert M2 hrr e0
    generalize hq : (List.range i).foldl (cloI kk) ((List.range kk).foldl (cloK n) r) = q
    intro M2 hrr e0
    by_cases h2 : i < n
    · have f1 : (i : Int) < 64 := by omega
      have f2 : (kk : Int) < 64 := by omega
      have f3 : i < 64 := by omega
      have f4 : kk < 64 := by omega
      have hw : IntKind.i64.wrap ((i : Int) + 1) = (i : Int) + 1 := wrap64 (by omega)
      simp -implicitDefEqProofs [h2, M2.rel, f1, relC_get f3]
      refine Has_spec g.toSetG (hrr _) ?_
      have eb : hasB (q i) (kk : Int) = (q i).testBit kk := by unfold hasB; simp; omega
      rw [eb]
      cases e : (q i).testBit kk with
      | false =>
        simp -implicitDefEqProofs [hw]
        refine ⟨n - (i + 1), by omega, i + 1, rfl, h2, ?_, rfl⟩
        rw [e0, cloI, e]; exact M2
      | true =>
        unfold c57_8 c57_8b
        have f5 : 1 + i ≤ 64 := by omega
        have e5 : splice (relC n q) (1 + i) [stW (q i ||| q kk)] = relC n (updR q i (q i ||| q kk)) := by rw [splice_one (by simp; omega), relC_set]
        simp -implicitDefEqProofs [hw, M2.rel, f1, f2, relC_get f3, relC_get f4, ior_nat (hrr i) (hrr kk), f5, e5]
        refine ⟨n - (i + 1), by omega, i + 1, rfl, h2, ⟨M2.ext.put (Nat.le_refl _) _, M2.next, ?_, by simp [M2.out]⟩, rfl⟩
        rw [e0, cloI, e]
        simp
    · have hin : i = n := by omega
      subst hin
      have hw : IntKind.i64.wrap ((kk : Int) + 1) = (kk : Int) + 1 := wrap64 (by omega)
      unfold c57_11
      simp -implicitDefEqProofs [hw]
      refine ⟨i - (kk + 1), by omega, kk + 1, rfl, h1, ?_, rfl⟩
      rw [foldl_range, cloK, hq]
      exact M2
  · have hin : kk = n := by omega
    subst hin
    simp -implicitDefEqProofs [M.rel, M.out, relC_take, zrel_length, zrel_splice]
    exact k _ (M.ext.put (by omega) _)
theorem SlV.row {α : Type} {f : α → List Value} {k : Nat} (hf : ∀ x, (f x).length = k) {l : List α} {v : Value} (s : SlV k h l.length (l.flatMap f) v) {i : Nat} (hi : i < l.length) :
    ∃ b o sp c c0 g ro, v = .slice (some ⟨b, o, sp⟩) l.length c ∧ b < h.next ∧ h.get b = .cells c0 g ro ∧ o + i * k + k ≤ c0.length ∧ (c0.drop (o + i * k)).take k = f l[i] ∧ ∀ j, j < k → c0[o + i * k + j]? = (f l[i])[j]? := by
  obtain ⟨b, o, sp, c, c0, g, ro, e1, e2, e3, e4, e5, e6⟩ := s.cells hi
  refine ⟨b, o, sp, c, c0, g, ro, e1, e2, e3, e5, ?_, fun j hj => ?_⟩
  · rw [e6]
    have := fm_take_drop hf l i 1
    rw [Nat.one_mul] at this
    rw [this, List.drop_eq_getElem_cons hi, List.take_succ_cons, List.take_zero, List.flatMap_cons, List.flatMap_nil, List.append_nil]
  · rw [e4 j hj, fm_get hf l i j hj, List.getElem?_eq_getElem hi]; rfl
end Go.Jq
namespace Go.Jq
variable {h : AH} {R : Value → AH → Prop}
structure Ins where
  kind : Int
  reg : Int
  loc : Int
  areg : Int
  aval : Int
  op : Int
  breg : Int
  bval : Int
  n : Int
  deriving DecidableEq, Inhabited
def Ins.c (i : Ins) : List Value := [.int .i64 i.kind, .int .i64 i.reg, .int .i64 i.loc, .int .i64 i.areg, .int .i64 i.aval, .int .i64 i.op, .int .i64 i.breg, .int .i64 i.bval, .int .i64 i.n]
def Ins.v (i : Ins) : Value := .agg i.c.toArray
theorem Ins.c_length (i : Ins) : i.c.length = 9 := rfl
def i2c (x : Int × Int) : List Value := [.int .i64 x.1, .int .i64 x.2]
theorem i2c_length (x : Int × Int) : (i2c x).length = 2 := rfl
def intC (x : Int) : List Value := [.int .i64 x]
theorem intC_length (x : Int) : (intC x).length = 1 := rfl
def bytC (x : Int) : List Value := [.int .u8 x]
theorem bytC_length (x : Int) : (bytC x).length = 1 := rfl
def oneC (x : Value) : List Value := [x]
theorem oneC_length (x : Value) : (oneC x).length = 1 := rfl
theorem oneC_fm {l : List Value} : l.flatMap oneC = l := by
  induction l with
  | nil => rfl
  | cons a l ih => rw [List.flatMap_cons, ih]; rfl
inductive All2 {α β : Type} (p : α → β → Prop) : List α → List β → Prop where
  | nil : All2 p [] []
  | cons {a : α} {b : β} {l : List α} {m : List β} : p a b → All2 p l m → All2 p (a :: l) (b :: m)
theorem All2.len {α β : Type} {p : α → β → Prop} {l : List α} {m : List β} (h : All2 p l m) : l.length = m.length := by
  induction h with
  | nil => rfl
  | cons _ _ ih => simp [ih]
theorem All2.imp {α β : Type} {p q : α → β → Prop} {l : List α} {m : List β} (h : All2 p l m) (k : ∀ a b, a ∈ l → b ∈ m → p a b → q a b) : All2 q l m := by
  induction h with
  | nil => exact .nil
  | cons h1 _ ih => exact .cons (k _ _ List.mem_cons_self List.mem_cons_self h1) (ih fun a b ha hb => k a b (List.mem_cons_of_mem _ ha) (List.mem_cons_of_mem _ hb))
theorem All2.snoc {α β : Type} {p : α → β → Prop} {l : List α} {m : List β} {a : α} {b : β} (h : All2 p l m) (hp : p a b) : All2 p (l ++ [a]) (m ++ [b]) := by
  induction h with
  | nil => exact .cons hp .nil
  | cons h1 _ ih => exact .cons h1 ih
theorem All2.at {α β : Type} {p : α → β → Prop} {l : List α} {m : List β} (h : All2 p l m) {i : Nat} (hi : i < l.length) : ∃ hm : i < m.length, p l[i] m[i] := by
  induction h generalizing i with
  | nil => simp at hi
  | cons h1 _ ih => cases i with
    | zero => exact ⟨by simp, h1⟩
    | succ i => obtain ⟨a, b⟩ := ih (i := i) (by simpa using hi); exact ⟨by simpa using a, b⟩
theorem SlG.app3 {k bytes j : Nat} {hh : AH} {lo n : Nat} {cs ec : List Value} {v : Value} {K : Value → AH → Prop} (s : SlG k hh lo n cs v) (he : ec.length = j * k) (hj : 0 < j) (hb : (n + j) * bytes ≤ 70368744177664)
    (h2 : lo ≤ hh.next) (hK : ∀ v' h', SlG k h' lo (n + j) (cs ++ ec) v' → hh.next ≤ h'.next → (∀ y, y < lo → h'.get y = hh.get y) →
      (∀ k' m cs' v', SlV k' hh m cs' v' → (m = 0 ∨ ∃ x ∈ cs', x ∉ cs) → SlV k' h' m cs' v') → (∀ k' l' m cs' v', SlG k' hh l' m cs' v' → (v' = .slice none 0 0 ∨ ∃ x ∈ cs', x ∉ cs) → SlG k' h' l' m cs' v') → K v' h') :
    getvh (sappend (hh.alloc (.cells ec false false)) k bytes v (.slice (some ⟨hh.next, 0, none⟩) j j)) K := by
  have xa : Ext hh (hh.alloc (.cells ec false false)) := (Ext.refl hh).alloc _
  have hl : (hh.alloc (.cells ec false false)).load hh.next 0 (j * k) = some ec := load_all (g := false) (ro := false) (by simp) he
  obtain ⟨h', e1, e2, e3, e5, e4⟩ := (s.ext xa).append (m := j) (m' := j) (bytes := bytes) (sp := none) hl hj hb (by simp; omega)
  rw [e1, getvh_some]
  have keep : ∀ y, y < hh.next → (∀ n' , v ≠ .slice (some ⟨y, 0, some k⟩) n' n') → h'.get y = hh.get y := fun y hy hv => by
    rw [e5 y (by simp; omega) hv, xa.get y hy]
  refine hK _ _ e2 (by simp at e3; omega) (fun y hy => ?_) (fun k' m cs' v' s' hc => ?_) (fun k' l' m cs' v' s' hc => ?_)
  · rw [e4 y (by omega), xa.get y (by omega)]
  · obtain ⟨s1, s2⟩ := s'
    refine ⟨s1, ?_⟩
    rcases s2 with s2 | ⟨b, o, sp, c, c0, g, ro, f1, f2, f3, f4, f5⟩
    · exact .inl s2
    · rcases hc with hc | ⟨x, hx, hxn⟩
      · subst hc; exact .inl ⟨rfl, _, _, f1⟩
      · refine .inr ⟨b, o, sp, c, c0, g, ro, f1, Nat.lt_of_lt_of_le f2 (by simp at e3; omega), ?_, f4, f5⟩
        rw [keep b f2 fun n' e => ?_]
        · exact f3
        · rcases s.2 with ⟨_, q⟩ | ⟨b', q1, q2, q3, q4⟩
          · rw [e] at q; simp at q
          · rw [e] at q4; simp at q4
            rw [q4.1, q3] at f3
            simp only [ABlk.cells.injEq] at f3
            rw [← f5, ← f3.1] at hx
            exact hxn (List.mem_of_mem_drop (List.mem_of_mem_take hx))
  · obtain ⟨s1, s2⟩ := s'
    refine ⟨s1, ?_⟩
    rcases s2 with s2 | ⟨b, f1, f2, f3, f4⟩
    · exact .inl s2
    · rcases hc with hc | ⟨x, hx, hxn⟩
      · rw [hc] at f4; simp at f4
      · refine .inr ⟨b, f1, Nat.lt_of_lt_of_le f2 (by simp at e3; omega), ?_, f4⟩
        rw [keep b f2 fun n' e => ?_]
        · exact f3
        · rcases s.2 with ⟨_, q⟩ | ⟨b', q1, q2, q3, q4⟩
          · rw [e] at q; simp at q
          · rw [e] at q4; simp at q4
            rw [q4.1, q3] at f3
            simp only [ABlk.cells.injEq] at f3
            rw [← f3.1] at hx
            exact hxn hx
end Go.Jq
namespace Go.Jq
variable {G : Nat → SFunc} {h : AH} {R : Value → AH → Prop}
theorem SlG.app1 {k bytes : Nat} {h0 hh : AH} {lo n : Nat} {cs ec : List Value} {v : Value} {K : Value → AH → Prop} (s : SlG k hh lo n cs v) (he : ec.length = k) (hb : (n + 1) * bytes ≤ 70368744177664)
    (x : Ext h0 hh) (h1 : h0.next ≤ lo) (h2 : lo ≤ hh.next) (hK : ∀ v' h', SlG k h' lo (n + 1) (cs ++ ec) v' → Ext h0 h' → K v' h') :
    getvh (sappend (hh.alloc (.cells ec false false)) k bytes v (.slice (some ⟨hh.next, 0, none⟩) 1 1)) K := by
  have xa : Ext hh (hh.alloc (.cells ec false false)) := (Ext.refl hh).alloc _
  have hl : (hh.alloc (.cells ec false false)).load hh.next 0 (1 * k) = some ec := load_all (g := false) (ro := false) (by simp) (by omega)
  obtain ⟨h', e1, e2, e3, _, e4⟩ := (s.ext xa).append (m := 1) (m' := 1) (bytes := bytes) (sp := none) hl (by omega) hb (by simp; omega)
  rw [e1, getvh_some]
  refine hK _ _ e2 ⟨by have := x.next; simp at e3; omega, fun y hy => ?_⟩
  rw [e4 y (by omega), xa.get y (by have := x.next; omega), x.get y hy]
theorem SlG.app2 {k bytes : Nat} {h0 hh : AH} {lo n : Nat} {cs ec : List Value} {v : Value} {K : Value → AH → Prop} (s : SlG k hh lo n cs v) (he : ec.length = k) (hb : (n + 1) * bytes ≤ 70368744177664)
    (x : Ext h0 hh) (h1 : h0.next ≤ lo) (h2 : lo ≤ hh.next)
    (hK : ∀ v' h', SlG k h' lo (n + 1) (cs ++ ec) v' → Ext h0 h' → hh.next ≤ h'.next → (∀ y, y < hh.next → (∀ n', v ≠ .slice (some ⟨y, 0, some k⟩) n' n') → h'.get y = hh.get y) → (∀ y, y < hh.next → ∀ n', v' ≠ .slice (some ⟨y, 0, some k⟩) n' n') → K v' h') :
    getvh (sappend (hh.alloc (.cells ec false false)) k bytes v (.slice (some ⟨hh.next, 0, none⟩) 1 1)) K := by
  have xa : Ext hh (hh.alloc (.cells ec false false)) := (Ext.refl hh).alloc _
  have hl : (hh.alloc (.cells ec false false)).load hh.next 0 (1 * k) = some ec := load_all (g := false) (ro := false) (by simp) (by omega)
  obtain ⟨h', e1, e2, e3, e5, e4⟩ := (s.ext xa).append (m := 1) (m' := 1) (bytes := bytes) (sp := none) hl (by omega) hb (by simp; omega)
  rw [e1, getvh_some]
  refine hK _ _ e2 ⟨by have := x.next; simp at e3; omega, fun y hy => ?_⟩ (by simp at e3; omega) (fun y hy hv => ?_) (fun y hy n' hv => ?_)
  · rw [e4 y (by omega), xa.get y (by have := x.next; omega), x.get y hy]
  · rw [e5 y (by simp; omega) hv, xa.get y hy]
  · simp at hv <;> omega
theorem SlG.not_at {k : Nat} {h : AH} {lo n : Nat} {cs : List Value} {v : Value} (s : SlG k h lo n cs v) {y : Nat} (hy : h.next ≤ y) : ∀ n', v ≠ .slice (some ⟨y, 0, some k⟩) n' n' := by
  intro n' e
  rcases s.2 with ⟨_, rfl⟩ | ⟨b, h1, h2, h3, rfl⟩
  · simp at e
  · simp at e <;> omega
end Go.Jq
namespace Go.Jq
variable {G : Nat → SFunc} {h : AH} {R : Value → AH → Prop}
structure Stp where
  pick : Int
  t : Int
  kind : Int
  loc : Int
  r : Int
  w : Int
  from' : Int
  deriving DecidableEq, Inhabited
def Stp.c (s : Stp) : List Value := [.int .i64 s.pick, .int .i64 s.t, .int .i64 s.kind, .int .i64 s.loc, .int .i64 s.r, .int .i64 s.w, .int .i64 s.from']
def Stp.v (s : Stp) : Value := .agg s.c.toArray
theorem Stp.c_length (s : Stp) : s.c.length = 7 := rfl
def Stp.writes (s : Stp) (m : Int) : Bool := decide (s.kind = 6) || decide (s.kind = 4) || (decide (m = 1) && decide (s.kind = 2))
def Stp.reads (s : Stp) : Bool := decide (s.kind = 1) || decide (s.kind = 4) || decide (s.kind = 5)
def Stp.fences (s : Stp) : Bool := decide (s.kind = 3) || decide (s.kind = 4) || decide (s.kind = 5)
structure TraceG (G : Nat → SFunc) : Prop extends RelG G where
  g164 : G 164 = c164
  g165 : G 165 = c165
  g166 : G 166 = c166
theorem Writes_spec (g : TraceG G) {s : Stp} {m : Int} (k : ∀ h1, Ext h h1 → R (.bool (s.writes m)) h1) : WC G 164 [s.v, .int .i64 m] h R := by
  refine WC_enter g.g164 rfl ?_
  show W G c164_body _ _ (retK [.tmp 4] R)
  unfold c164_body c164_0 c164_1
  have kk : ∀ o, R (.bool (s.writes m)) (h.alloc o) := fun o => k _ ((Ext.refl h).alloc o)
  by_cases h1 : s.kind = 6
  · simp only [Stp.writes, h1, decide_true, Bool.true_or] at kk
    simp -implicitDefEqProofs [Stp.v, Stp.c, h1]
    exact kk _
  · by_cases h2 : s.kind = 4
    · simp only [Stp.writes, h2, decide_true, Bool.or_true, Bool.true_or] at kk
      simp -implicitDefEqProofs [Stp.v, Stp.c, h2]
      exact kk _
    · by_cases h3 : m = 1
      · simp only [Stp.writes, h1, h2, h3, decide_true, decide_false, Bool.false_or, Bool.true_and] at kk
        simp -implicitDefEqProofs [Stp.v, Stp.c, h1, h2, h3]
        exact kk _
      · simp only [Stp.writes, h1, h2, h3, decide_false, Bool.false_or, Bool.false_and] at kk
        simp -implicitDefEqProofs [Stp.v, Stp.c, h1, h2, h3]
        exact kk _
theorem Reads_spec (g : TraceG G) {s : Stp} (k : ∀ h1, Ext h h1 → R (.bool s.reads) h1) : WC G 166 [s.v] h R := by
  refine WC_enter g.g166 rfl ?_
  show W G c166_body _ _ (retK [.tmp 2] R)
  unfold c166_body c166_0 c166_1
  have kk : ∀ o, R (.bool s.reads) (h.alloc o) := fun o => k _ ((Ext.refl h).alloc o)
  by_cases h1 : s.kind = 1
  · simp only [Stp.reads, h1, decide_true, Bool.true_or] at kk
    simp -implicitDefEqProofs [Stp.v, Stp.c, h1]
    exact kk _
  · by_cases h2 : s.kind = 4
    · simp only [Stp.reads, h2, decide_true, Bool.or_true, Bool.true_or] at kk
      simp -implicitDefEqProofs [Stp.v, Stp.c, h2]
      exact kk _
    · simp only [Stp.reads, h1, h2, decide_false, Bool.false_or] at kk
      simp -implicitDefEqProofs [Stp.v, Stp.c, h1, h2]
      exact kk _
theorem Fences_spec (g : TraceG G) {s : Stp} (k : ∀ h1, Ext h h1 → R (.bool s.fences) h1) : WC G 165 [s.v] h R := by
  refine WC_enter g.g165 rfl ?_
  show W G c165_body _ _ (retK [.tmp 2] R)
  unfold c165_body c165_0 c165_1
  have kk : ∀ o, R (.bool s.fences) (h.alloc o) := fun o => k _ ((Ext.refl h).alloc o)
  by_cases h1 : s.kind = 3
  · simp only [Stp.fences, h1, decide_true, Bool.true_or] at kk
    simp -implicitDefEqProofs [Stp.v, Stp.c, h1]
    exact kk _
  · by_cases h2 : s.kind = 4
    · simp only [Stp.fences, h2, decide_true, Bool.or_true, Bool.true_or] at kk
      simp -implicitDefEqProofs [Stp.v, Stp.c, h2]
      exact kk _
    · simp only [Stp.fences, h1, h2, decide_false, Bool.false_or] at kk
      simp -implicitDefEqProofs [Stp.v, Stp.c, h1, h2]
      exact kk _
end Go.Jq
namespace Go.Jq
variable {G : Nat → SFunc} {h : AH} {R : Value → AH → Prop}
structure HBG (G : Nat → SFunc) : Prop extends TraceG G where
  g244 : G 244 = c244
  g245 : G 245 = c245
  g213 : G 213 = c213
  g167 : G 167 = c167
  g91 : G 91 = c91
def Stp.flushOf (s : Stp) (j : Int) : Bool := decide (s.kind = 6) && decide (s.from' = j)
theorem flush_spec (g : HBG G) {s : Stp} {b : Nat} {j : Int} {o : List Value} {gr ro : Bool} (hb : h.get b = .cells (.int .i64 j :: o) gr ro) (hlt : b < h.next) (k : ∀ h1, Ext h h1 → R (.bool (s.flushOf j)) h1) :
    WC G 245 [s.v, .pointer (some ⟨b, 0, none⟩)] h R := by
  refine WC_enter g.g245 rfl ?_
  show W G c245_body _ _ (retK [.tmp 3] R)
  unfold c245_body c245_0 c245_1
  have kk : ∀ o, R (.bool (s.flushOf j)) (h.alloc o) := fun o => k _ ((Ext.refl h).alloc o)
  have hne : b ≠ h.next := by omega
  by_cases h1 : s.kind = 6
  · simp only [Stp.flushOf, h1, decide_true, Bool.true_and] at kk
    simp -implicitDefEqProofs [Stp.v, Stp.c, h1, hb, hne]
    exact kk _
  · simp only [Stp.flushOf, h1, decide_false, Bool.false_and] at kk
    simp -implicitDefEqProofs [Stp.v, Stp.c, h1, hb, hne]
    exact kk _
def idxI (l : List Stp) (j : Int) : Int := match l.findIdx? (·.flushOf j) with
  | some i => i
  | none => -1
theorem idxI_hit {l : List Stp} {j : Int} {i : Nat} (hi : i < l.length) (hno : ∀ x (hx : x < l.length), x < i → l[x].flushOf j = false) (hh : l[i].flushOf j = true) : idxI l j = i := by
  have : l.findIdx? (·.flushOf j) = some i := by
    rw [List.findIdx?_eq_some_iff_getElem]
    exact ⟨hi, hh, fun x hx => by simp [hno x (by omega) hx]⟩
  rw [idxI, this]
theorem idxI_none {l : List Stp} {j : Int} (hno : ∀ x (hx : x < l.length), l[x].flushOf j = false) : idxI l j = -1 := by
  have : l.findIdx? (·.flushOf j) = none := by
    rw [List.findIdx?_eq_none_iff]
    intro x hx
    obtain ⟨i, hi, rfl⟩ := List.getElem_of_mem hx
    exact hno i hi
  rw [idxI, this]
def inv244 (h : AH) (l : List Stp) (v : Value) (b : Nat) (j : Int) (m : Nat) (F : Fr) (hh : AH) : Prop :=
  ∃ i : Nat, m = l.length - i ∧ i ≤ l.length ∧ (∀ x (hx : x < l.length), x < i → l[x].flushOf j = false) ∧ Ext h hh ∧
    F = [(0, v), (1, .func (.func 245) #[] #[.pointer (some ⟨b, 0, none⟩)]), (7, .int .i64 l.length), (8, .int .i64 i)]
theorem Index_spec (g : HBG G) {l : List Stp} {v : Value} {b : Nat} {j : Int} {o : List Value} {gr ro : Bool} (s : SlV 7 h l.length (l.flatMap Stp.c) v) (hl : l.length ≤ 1000000) (hb : h.get b = .cells (.int .i64 j :: o) gr ro) (hlt : b < h.next)
    (k : ∀ h1, Ext h h1 → R (.int .i64 (idxI l j)) h1) : WC G 244 [v, .func (.func 245) #[] #[.pointer (some ⟨b, 0, none⟩)]] h R := by
  refine WC_enter g.g244 rfl ?_
  show W G c244_body _ _ (retK [.tmp 4] R)
  unfold c244_body c244_0 c244_1
  obtain ⟨a, cp, rfl⟩ := s.len
  simp -implicitDefEqProofs
  refine W_loop (inv244 h l (.slice a l.length cp) b j) l.length ⟨0, rfl, Nat.zero_le _, by omega, Ext.refl h, rfl⟩ ?_
  rintro n F hh ⟨i, rfl, hi, hno, x, rfl⟩
  unfold c244_7 c244_2 c244_3 c244_4 c244_5 c244_6 c244_8
  by_cases h1 : i < l.length
  · obtain ⟨bb, oo, sp, c, c0, g', ro', hv, e2, e3, e4, e5, e6⟩ := (s.ext x).row Stp.c_length h1
    simp only [Value.slice.injEq, true_and] at hv
    obtain ⟨rfl, rfl⟩ := hv
    have hw : IntKind.i64.wrap ((i : Int) + 1) = (i : Int) + 1 := wrap64 (by omega)
    simp -implicitDefEqProofs [h1, e3, e4, e5]
    refine flush_spec g (s := l[i]) (j := j) (by rw [x.get _ hlt]; exact hb) (Nat.lt_of_lt_of_le hlt x.next) fun h2 y => ?_
    cases hf : l[i].flushOf j with
    | true =>
      simp -implicitDefEqProofs
      have := k _ (x.trans y)
      rw [idxI_hit h1 hno hf] at this
      exact this
    | false =>
      simp -implicitDefEqProofs [hw]
      refine ⟨l.length - (i + 1), by omega, i + 1, rfl, h1, ?_, x.trans y, rfl⟩
      intro z hz hzi
      by_cases e : z = i
      · subst e; exact hf
      · exact hno z hz (by omega)
  · simp -implicitDefEqProofs [h1]
    have := k _ x
    rw [idxI_none fun z hz => hno z hz (by omega)] at this
    exact this
def cameI (l : List Stp) (m : Int) (j : Nat) : Int := if (l[j]?.getD default).writes m then j else idxI l j
theorem came_spec (g : HBG G) {l : List Stp} {v : Value} {m : Int} {j : Nat} (s : SlV 7 h l.length (l.flatMap Stp.c) v) (hl : l.length ≤ 1000000) (hj : j < l.length)
    (k : ∀ h1, Ext h h1 → R (.int .i64 (cameI l m j)) h1) : WC G 213 [v, .int .i64 m, .int .i64 j] h R := by
  refine WC_enter g.g213 rfl ?_
  show W G c213_body _ _ (retK [.tmp 6] R)
  unfold c213_body c213_0 c213_1 c213_2 c213_3
  have x0 : Ext h (h.alloc (.cells [.int .i64 j] false false)) := (Ext.refl h).alloc _
  obtain ⟨bb, oo, sp, c, c0, g', ro', hv, e2, e3, e4, e5, e6⟩ := (s.ext x0).row Stp.c_length hj
  have ek : cameI l m j = if l[j].writes m then (j : Int) else idxI l j := by simp [cameI, hj]
  rw [ek] at k
  have hne : bb ≠ h.next := by
    rcases (s.row Stp.c_length hj) with ⟨_, _, _, _, _, _, _, hv', hlt, _⟩
    rw [hv] at hv'
    simp at hv'; omega
  simp [hne] at e3
  simp -implicitDefEqProofs [hv, hj, e3, e4, e5, hne]
  refine Writes_spec g.toTraceG (s := l[j]) fun h1 x => ?_
  have hb : h1.get h.next = .cells [.int .i64 j] false false := by rw [x.get _ (by simp)]; simp
  cases hw : l[j].writes m with
  | true =>
    simp -implicitDefEqProofs [hb]
    have := k _ (x0.trans x)
    simpa [hw] using this
  | false =>
    simp -implicitDefEqProofs
    have s2 := (s.ext (x0.trans x))
    rw [hv] at s2
    refine Index_spec g s2 hl hb (Nat.lt_of_lt_of_le (by simp) x.next) fun h2 y => ?_
    simp -implicitDefEqProofs
    have := k _ ((x0.trans x).trans y)
    simpa [hw] using this
end Go.Jq
namespace Go.Jq
variable {G : Nat → SFunc} {h : AH} {R : Value → AH → Prop}
def atS (l : List Stp) (k : Nat) : Stp := l[k]?.getD default
theorem atS_of {l : List Stp} {k : Nat} (h : k < l.length) : atS l k = l[k] := by simp [atS, h]
def rdI (n : Nat) (m : Int) (l : List Stp) (i : Nat) (r : Nat → Nat) (k : Nat) : Nat → Nat :=
  if k ≠ i ∧ (atS l k).writes m = true ∧ (atS l k).loc = (atS l i).loc then addR n r i k else r
def rdLoop (n : Nat) (m : Int) (l : List Stp) (i : Nat) (r : Nat → Nat) (a : Nat) : Nat → Nat := (List.range' a (l.length - a)).foldl (rdI n m l i) r
def readR (n : Nat) (m : Int) (l : List Stp) (r : Nat → Nat) (i : Nat) : Nat → Nat :=
  if 0 ≤ (atS l i).from' ∧ (atS l i).from' < l.length then
    if cameI l m (atS l i).from'.toNat < 0 then r
    else rdLoop n m l i (if (atS l (atS l i).from'.toNat).t ≠ (atS l i).t then addR n r (cameI l m (atS l i).from'.toNat) i else r) (cameI l m (atS l i).from'.toNat + 1).toNat
  else rdLoop n m l i r 0
theorem rdI_ok {n : Nat} {m : Int} {l : List Stp} {i k : Nat} {r : Nat → Nat} (hr : RowsOk r) : RowsOk (rdI n m l i r k) := by
  unfold rdI; split
  · exact addR_ok hr
  · exact hr
theorem rdLoop_ok {n : Nat} {m : Int} {l : List Stp} {i a : Nat} {r : Nat → Nat} (hr : RowsOk r) : RowsOk (rdLoop n m l i r a) := foldl_ok (fun _ _ h => rdI_ok h) hr
theorem readR_ok {n : Nat} {m : Int} {l : List Stp} {i : Nat} {r : Nat → Nat} (hr : RowsOk r) : RowsOk (readR n m l r i) := by
  unfold readR; split
  · split
    · exact hr
    · apply rdLoop_ok; split
      · exact addR_ok hr
      · exact hr
  · exact rdLoop_ok hr
theorem rdLoop_step {n : Nat} {m : Int} {l : List Stp} {i a : Nat} {r : Nat → Nat} (ha : a < l.length) : rdLoop n m l i r a = rdLoop n m l i (rdI n m l i r a) (a + 1) := by
  unfold rdLoop
  rw [show l.length - a = (l.length - (a + 1)) + 1 by omega, List.range'_succ, List.foldl_cons]
theorem rdLoop_end {n : Nat} {m : Int} {l : List Stp} {i a : Nat} {r : Nat → Nat} (ha : l.length ≤ a) : rdLoop n m l i r a = r := by
  unfold rdLoop
  rw [show l.length - a = 0 by omega]; rfl
theorem cameI_lt {l : List Stp} {m : Int} {j : Nat} (hj : j < l.length) : -1 ≤ cameI l m j ∧ cameI l m j < l.length := by
  unfold cameI; split
  · omega
  · unfold idxI; split
    · rename_i i e
      rw [List.findIdx?_eq_some_iff_getElem] at e
      have := e.1; omega
    · omega
structure RdM (h hh : AH) (n : Nat) (r : Nat → Nat) (s : Stp) : Prop where
  ext : Ext h hh
  next : h.next + 3 ≤ hh.next
  rel : hh.get h.next = .cells (relC n r) false false
  out : hh.get (h.next + 1) = .cells zrel false false
  st : hh.get (h.next + 2) = .cells s.c false false
theorem RdM.more {h hh h1 : AH} {n : Nat} {r : Nat → Nat} {s : Stp} (M : RdM h hh n r s) (x : Ext hh h1) : RdM h h1 n r s :=
  have := M.next
  ⟨M.ext.trans x, Nat.le_trans M.next x.next, by rw [x.get _ (by omega)]; exact M.rel, by rw [x.get _ (by omega)]; exact M.out, by rw [x.get _ (by omega)]; exact M.st⟩
theorem RdM.put {h hh : AH} {n : Nat} {r q : Nat → Nat} {s : Stp} (M : RdM h hh n r s) : RdM h (hh.put h.next (.cells (relC n q) false false)) n q s :=
  have := M.next
  ⟨M.ext.put (Nat.le_refl _) _, by simpa using M.next, by simp, by simp [M.out], by simp [M.st]⟩
def fr167 (h : AH) (v : Value) (m : Int) (i : Nat) : Fr := [(1, v), (2, .int .i64 m), (3, .int .i64 i), (4, .pointer (some ⟨h.next, 0, none⟩)), (8, .pointer (some ⟨h.next + 1, 0, none⟩)), (9, .pointer (some ⟨h.next + 2, 0, none⟩))]
def inv167 (h : AH) (n : Nat) (m : Int) (l : List Stp) (v : Value) (i : Nat) (q : Nat → Nat) (mm : Nat) (F : Fr) (hh : AH) : Prop :=
  ∃ (a : Nat) (r : Nat → Nat), mm = l.length - a ∧ a ≤ l.length ∧ RowsOk r ∧ RdM h hh n r l[i]! ∧ rdLoop n m l i r a = q ∧
    F = [(1, v), (2, .int .i64 m), (3, .int .i64 i), (4, .pointer (some ⟨h.next, 0, none⟩)), (8, .pointer (some ⟨h.next + 1, 0, none⟩)), (9, .pointer (some ⟨h.next + 2, 0, none⟩)), (11, .int .i64 a)]
theorem wbody167 (g : HBG G) {n : Nat} {m : Int} {l : List Stp} {b o : Nat} {sp : Option Nat} {c : Nat} {i : Nat} {a : Nat} {hh : AH} {r : Nat → Nat} {R : SExit → Fr → AH → Prop} (s : SlV 7 h l.length (l.flatMap Stp.c) (.slice (some ⟨b, o, sp⟩) l.length c)) (hl : l.length ≤ 64) (hn : n ≤ 64) (hr : RowsOk r) (hi : i < l.length) (ha : a ≤ l.length)
    (M : RdM h hh n r l[i]) (hR1 : l.length ≤ a → R (.exit 0) [(1, (.slice (some ⟨b, o, sp⟩) l.length c)), (2, .int .i64 m), (3, .int .i64 i), (4, .pointer (some ⟨h.next, 0, none⟩)), (8, .pointer (some ⟨h.next + 1, 0, none⟩)), (9, .pointer (some ⟨h.next + 2, 0, none⟩)), (11, .int .i64 a), (52, .bool false)] hh)
    (hR2 : a < l.length → ∀ h1, RdM h h1 n (rdI n m l i r a) l[i] → R .normal [(1, (.slice (some ⟨b, o, sp⟩) l.length c)), (2, .int .i64 m), (3, .int .i64 i), (4, .pointer (some ⟨h.next, 0, none⟩)), (8, .pointer (some ⟨h.next + 1, 0, none⟩)), (9, .pointer (some ⟨h.next + 2, 0, none⟩)), (11, .int .i64 ((a : Int) + 1))] h1) :
    W G c167_14 [(1, (.slice (some ⟨b, o, sp⟩) l.length c)), (2, .int .i64 m), (3, .int .i64 i), (4, .pointer (some ⟨h.next, 0, none⟩)), (8, .pointer (some ⟨h.next + 1, 0, none⟩)), (9, .pointer (some ⟨h.next + 2, 0, none⟩)), (11, .int .i64 a)] hh R := by
  unfold c167_14 c167_10 c167_13
  by_cases h1 : a < l.length
  · have hw : IntKind.i64.wrap ((a : Int) + 1) = (a : Int) + 1 := wrap64 (by omega)
    unfold c167_11 c167_11b
    by_cases h2 : a = i
    · have e : rdI n m l i r a = r := by simp [rdI, h2]
      rw [e] at hR2
      subst h2
      simp -implicitDefEqProofs [h1, hw]
      exact hR2 h1 hh M
    · have h2' : ¬ (a : Int) = i := by omega
      obtain ⟨bb, oo, sp', c', c0, g', ro', hv, e2, e3, e4, e5, e6⟩ := (s.ext M.ext).row Stp.c_length h1
      simp only [Value.slice.injEq, Option.some.injEq, Addr.mk.injEq, true_and] at hv
      obtain ⟨⟨rfl, rfl, rfl⟩, rfl⟩ := hv
      have hb : b < h.next := by
        obtain ⟨_, _, _, _, _, _, _, hv', hlt, _⟩ := s.row Stp.c_length h1
        simp only [Value.slice.injEq, Option.some.injEq, Addr.mk.injEq, true_and] at hv'
        omega
      have ea : rdI n m l i r a = if l[a].writes m = true ∧ l[a].loc = l[i].loc then addR n r i a else r := by simp [rdI, h2, atS_of h1, atS_of hi]
      rw [ea] at hR2
      have e63 := e6 3 (by omega)
      have e63' : (l[a].c)[3]? = some (.int .i64 l[a].loc) := rfl
      rw [e63'] at e63
      simp -implicitDefEqProofs [h1, h2', e3, e4, e5]
      refine Writes_spec g.toTraceG (s := l[a]) fun h2 y => ?_
      have M2 := M.more y
      have e3' : h2.get b = .cells c0 g' ro' := by rw [y.get _ (Nat.lt_of_lt_of_le hb M.ext.next)]; exact e3
      cases hws : l[a].writes m with
      | false =>
        simp -implicitDefEqProofs [hw]
        have := hR2 h1 h2
        simp [hws] at this
        exact this M2
      | true =>
        by_cases h3 : l[a].loc = l[i].loc
        · unfold c167_12
          have e7 : ∀ z : Int, (l[i].c)[3]? = some (.int .i64 z) ↔ l[i].loc = z := fun z => by simp [Stp.c]
          have e8 : (l[i].c)[3]? = some (.int .i64 l[i].loc) := rfl
          simp -implicitDefEqProofs [h3, e3', e63, M2.st, e8, h1, M2.rel, relC_take]
          refine Add_rel g.toRelG hn hr fun h4 z => ?_
          have M4 := M2.more z
          simp -implicitDefEqProofs [M4.rel, relC_splice, relV, hw]
          exact hR2 h1 _ (by rw [if_pos ⟨hws, h3⟩]; exact M4.put)
        · have e8 : (l[i].c)[3]? = some (.int .i64 l[i].loc) := rfl
          simp -implicitDefEqProofs [h3, e3', e63, M2.st, e8, h1, hw]
          exact hR2 h1 _ (by rw [if_neg fun hh => h3 hh.2]; exact M2)
  · simp -implicitDefEqProofs [h1]
    exact hR1 (by omega)
theorem wloop167 (g : HBG G) {n : Nat} {m : Int} {l : List Stp} {b o : Nat} {sp : Option Nat} {c : Nat} {i : Nat} {a : Nat} {hh : AH} {r : Nat → Nat} {R : SExit → Fr → AH → Prop} (s : SlV 7 h l.length (l.flatMap Stp.c) (.slice (some ⟨b, o, sp⟩) l.length c)) (hl : l.length ≤ 64) (hn : n ≤ 64) (hr : RowsOk r) (hi : i < l.length) (ha : a ≤ l.length)
    (M : RdM h hh n r l[i]) (hR : ∀ h1 (aa : Int), RdM h h1 n (rdLoop n m l i r a) l[i] → R (.exit 0) [(1, (.slice (some ⟨b, o, sp⟩) l.length c)), (2, .int .i64 m), (3, .int .i64 i), (4, .pointer (some ⟨h.next, 0, none⟩)), (8, .pointer (some ⟨h.next + 1, 0, none⟩)), (9, .pointer (some ⟨h.next + 2, 0, none⟩)), (11, .int .i64 aa), (52, .bool false)] h1) :
    W G (.loop [1, 2, 3, 4, 8, 9, 11] c167_14) [(1, (.slice (some ⟨b, o, sp⟩) l.length c)), (2, .int .i64 m), (3, .int .i64 i), (4, .pointer (some ⟨h.next, 0, none⟩)), (8, .pointer (some ⟨h.next + 1, 0, none⟩)), (9, .pointer (some ⟨h.next + 2, 0, none⟩)), (11, .int .i64 a)] hh R := by
  refine W_loop (fun mm F hh => ∃ (a : Nat) (q : Nat → Nat), mm = l.length - a ∧ a ≤ l.length ∧ RowsOk q ∧ RdM h hh n q l[i] ∧ (∀ h1 (aa : Int), RdM h h1 n (rdLoop n m l i q a) l[i] → R (.exit 0) [(1, (.slice (some ⟨b, o, sp⟩) l.length c)), (2, .int .i64 m), (3, .int .i64 i), (4, .pointer (some ⟨h.next, 0, none⟩)), (8, .pointer (some ⟨h.next + 1, 0, none⟩)), (9, .pointer (some ⟨h.next + 2, 0, none⟩)), (11, .int .i64 aa), (52, .bool false)] h1) ∧
    F = [(1, (.slice (some ⟨b, o, sp⟩) l.length c)), (2, .int .i64 m), (3, .int .i64 i), (4, .pointer (some ⟨h.next, 0, none⟩)), (8, .pointer (some ⟨h.next + 1, 0, none⟩)), (9, .pointer (some ⟨h.next + 2, 0, none⟩)), (11, .int .i64 a)]) (l.length - a) ⟨a, r, rfl, ha, hr, M, hR, rfl⟩ ?_
  rintro mm F hh ⟨a, q, rfl, ha, hq, M, hR, rfl⟩
  refine wbody167 g s hl hn hq hi ha M (fun hla => ?_) (fun hla h1 M1 => ?_)
  · refine hR _ _ ?_
    rw [rdLoop_end hla]; exact M
  · refine ⟨l.length - (a + 1), by omega, a + 1, _, rfl, hla, rdI_ok hq, M1, ?_, rfl⟩
    rw [← rdLoop_step hla]; exact hR
theorem reading_spec (g : HBG G) {n : Nat} {r : Nat → Nat} {m : Int} {l : List Stp} {v : Value} {i : Nat} (s : SlV 7 h l.length (l.flatMap Stp.c) v) (hl : l.length ≤ 64) (hn : n ≤ 64) (hr : RowsOk r) (hi : i < l.length)
    (k : ∀ h1, Ext h h1 → R (relV n (readR n m l r i)) h1) : WC G 167 [relV n r, v, .int .i64 m, .int .i64 i] h R := by
  refine WC_enter g.g167 rfl ?_
  show W G c167_body _ _ (retK [.cellN 8 65] R)
  unfold c167_body c167_0 c167_1 c167_2
  obtain ⟨b, o, sp, c, c0, g', ro', rfl, e2, e3, e4, e5, e6⟩ := s.row Stp.c_length hi
  have hz7 : zi 7 = [.int .i64 0, .int .i64 0, .int .i64 0, .int .i64 0, .int .i64 0, .int .i64 0, .int .i64 0] := rfl
  simp -implicitDefEqProofs [relV, hi, e3, e4, e5, show b ≠ h.next by omega, show b ≠ h.next + 1 by omega, show b ≠ h.next + 2 by omega, hz7, splice_all, Stp.c]
  have M0 : RdM h ((((h.alloc (.cells (relC n r) false false)).alloc (.cells zrel false false)).alloc (.cells [.int .i64 0, .int .i64 0, .int .i64 0, .int .i64 0, .int .i64 0, .int .i64 0, .int .i64 0] false false)).put (h.next + 2)
      (.cells [.int .i64 l[i].pick, .int .i64 l[i].t, .int .i64 l[i].kind, .int .i64 l[i].loc, .int .i64 l[i].r, .int .i64 l[i].w, .int .i64 l[i].from'] false false)) n r l[i] :=
    ⟨((((Ext.refl h).alloc _).alloc _).alloc _).put (by omega) _, Nat.le_refl _, by simp, by simp, by simp [Stp.c]⟩
  revert M0
  generalize ((((h.alloc (.cells (relC n r) false false)).alloc (.cells zrel false false)).alloc (.cells [.int .i64 0, .int .i64 0, .int .i64 0, .int .i64 0, .int .i64 0, .int .i64 0, .int .i64 0] false false)).put (h.next + 2)
      (.cells [.int .i64 l[i].pick, .int .i64 l[i].t, .int .i64 l[i].kind, .int .i64 l[i].loc, .int .i64 l[i].r, .int .i64 l[i].w, .int .i64 l[i].from'] false false)) = hh
  intro M0
  have e8 : (l[i].c)[6]? = some (.int .i64 l[i].from') := rfl
  have fin : ∀ (q : Nat → Nat) (h1 : AH), RdM h h1 n q l[i] → q = readR n m l r i → R (.agg (relC n q).toArray) (h1.put (h.next + 1) (.cells (relC n q) false false)) := fun q h1 M e => by
    subst e; exact k _ (M.ext.put (by omega) _)
  have ei := atS_of hi
  unfold c167_3
  by_cases h1 : 0 ≤ l[i].from'
  · by_cases h2 : l[i].from' < l.length
    · obtain ⟨j, hj⟩ : ∃ j : Nat, l[i].from' = j := ⟨l[i].from'.toNat, by omega⟩
      have hjl : j < l.length := by omega
      have h1' : (0 : Int) ≤ j := by omega
      have h2' : (j : Int) < l.length := by omega
      have ej := atS_of hjl
      have er : readR n m l r i = if cameI l m j < 0 then r else rdLoop n m l i (if l[j].t ≠ l[i].t then addR n r (cameI l m j) i else r) (cameI l m j + 1).toNat := by
        rw [readR, ei, hj, if_pos ⟨h1', h2'⟩, Int.toNat_natCast, ej]
      simp -implicitDefEqProofs [M0.st, Stp.c, hj, h1', h2', c167_4]
      refine came_spec g (s.ext M0.ext) (by omega) hjl fun h3 x => ?_
      have M3 := M0.more x
      have hc := cameI_lt (m := m) hjl
      revert er hc
      generalize cameI l m j = f
      intro er hc
      by_cases hf : f < 0
      · simp -implicitDefEqProofs [hf, c167_5, c167_6, M3.rel, M3.out, relC_take, zrel_length, zrel_splice]
        exact fin _ _ M3 (by rw [er, if_pos hf])
      · obtain ⟨a, rfl⟩ : ∃ a : Nat, f = a := ⟨f.toNat, by omega⟩
        have hw : IntKind.i64.wrap ((a : Int) + 1) = ((a + 1 : Nat) : Int) := by rw [wrap64 (by omega)]; rfl
        obtain ⟨bb, oo, sp', c', c1, g2, ro2, hv, d2, d3, d4, d5, d6⟩ := (s.ext M3.ext).row Stp.c_length hjl
        simp only [Value.slice.injEq, Option.some.injEq, Addr.mk.injEq, true_and] at hv
        obtain ⟨⟨rfl, rfl, rfl⟩, rfl⟩ := hv
        have d61 := d6 1 (by omega)
        have d61' : (l[j].c)[1]? = some (.int .i64 l[j].t) := rfl
        rw [d61'] at d61
        rw [if_neg hf] at er
        have er2 : (a + 1 : Int).toNat = a + 1 := by omega
        rw [er2] at er
        by_cases ht : l[j].t = l[i].t
        · rw [if_neg (by simpa using ht)] at er
          simp -implicitDefEqProofs [hf, c167_5, c167_7, c167_9, M3.st, Stp.c, hj, h1', h2', hjl, d3, d61, ht, hw]
          refine wloop167 (a := a + 1) g s hl hn hr hi (by omega) M3 fun h4 aa M4 => ?_
          unfold c167_15
          simp -implicitDefEqProofs [M4.rel, M4.out, relC_take, zrel_length, zrel_splice]
          exact fin _ _ M4 er.symm
        · rw [if_pos (by simpa using ht)] at er
          simp -implicitDefEqProofs [hf, c167_5, c167_7, c167_8, M3.st, Stp.c, hj, h1', h2', hjl, d3, d61, ht, M3.rel, relC_take]
          refine Add_rel g.toRelG hn hr fun h4 y => ?_
          have M4 := M3.more y
          simp -implicitDefEqProofs [M4.rel, relC_splice, relV, hw, c167_9]
          refine wloop167 (a := a + 1) g s hl hn (addR_ok hr) hi (by omega) M4.put fun h5 aa M5 => ?_
          unfold c167_15
          simp -implicitDefEqProofs [M5.rel, M5.out, relC_take, zrel_length, zrel_splice]
          exact fin _ _ M5 er.symm
    · simp -implicitDefEqProofs [M0.st, Stp.c, h1, h2, c167_9]
      refine wloop167 (a := 0) g s hl hn hr hi (Nat.zero_le _) M0 fun h3 aa M3 => ?_
      unfold c167_15
      simp -implicitDefEqProofs [M3.rel, M3.out, relC_take, zrel_length, zrel_splice]
      exact fin _ _ M3 (by rw [readR, ei, if_neg (by omega)])
  · simp -implicitDefEqProofs [M0.st, Stp.c, h1, c167_9]
    refine wloop167 (a := 0) g s hl hn hr hi (Nat.zero_le _) M0 fun h3 aa M3 => ?_
    unfold c167_15
    simp -implicitDefEqProofs [M3.rel, M3.out, relC_take, zrel_length, zrel_splice]
    exact fin _ _ M3 (by rw [readR, ei, if_neg (by omega)])
end Go.Jq
namespace Go.Jq
variable {G : Nat → SFunc} {h : AH} {R : Value → AH → Prop}
def hbB (m : Int) (a b : Stp) (i : Nat) : Bool :=
  decide (a.pick = b.pick) || (a.writes m && b.writes m && decide (a.loc = b.loc)) || (decide (b.kind = 6) && decide (b.from' = i)) || (decide (a.kind = 6) && decide (a.t = b.t) && b.fences)
def hbI (n : Nat) (m : Int) (l : List Stp) (i : Nat) (r : Nat → Nat) (k : Nat) : Nat → Nat := if hbB m (atS l i) (atS l k) i = true then addR n r i k else r
def hbLoop (n : Nat) (m : Int) (l : List Stp) (i : Nat) (r : Nat → Nat) (a : Nat) : Nat → Nat := (List.range' a (l.length - a)).foldl (hbI n m l i) r
def hbRow (n : Nat) (m : Int) (l : List Stp) (r : Nat → Nat) (i : Nat) : Nat → Nat :=
  if (atS l i).reads = true then readR n m l (hbLoop n m l i r (i + 1)) i else hbLoop n m l i r (i + 1)
def hbPre (m : Int) (l : List Stp) : Nat → Nat := (List.range l.length).foldl (hbRow l.length m l) fun _ => 0
def hbN (l : List Stp) : Nat := if 64 < l.length then 0 else l.length
def hbR (m : Int) (l : List Stp) : Nat → Nat := if 64 < l.length then fun _ => 0 else clo l.length (hbPre m l)
theorem hbI_ok {n : Nat} {m : Int} {l : List Stp} {i k : Nat} {r : Nat → Nat} (hr : RowsOk r) : RowsOk (hbI n m l i r k) := by
  unfold hbI; split
  · exact addR_ok hr
  · exact hr
theorem hbLoop_ok {n : Nat} {m : Int} {l : List Stp} {i a : Nat} {r : Nat → Nat} (hr : RowsOk r) : RowsOk (hbLoop n m l i r a) := foldl_ok (fun _ _ h => hbI_ok h) hr
theorem hbRow_ok {n : Nat} {m : Int} {l : List Stp} {i : Nat} {r : Nat → Nat} (hr : RowsOk r) : RowsOk (hbRow n m l r i) := by
  unfold hbRow; split
  · exact readR_ok (hbLoop_ok hr)
  · exact hbLoop_ok hr
theorem zero_ok : RowsOk fun _ => 0 := fun _ => by simp
theorem hbPre_ok {m : Int} {l : List Stp} : RowsOk (hbPre m l) := foldl_ok (fun _ _ h => hbRow_ok h) zero_ok
theorem hbR_ok {m : Int} {l : List Stp} : RowsOk (hbR m l) := by
  unfold hbR; split
  · exact zero_ok
  · exact clo_ok hbPre_ok
theorem hbLoop_step {n : Nat} {m : Int} {l : List Stp} {i a : Nat} {r : Nat → Nat} (ha : a < l.length) : hbLoop n m l i r a = hbLoop n m l i (hbI n m l i r a) (a + 1) := by
  unfold hbLoop
  rw [show l.length - a = (l.length - (a + 1)) + 1 by omega, List.range'_succ, List.foldl_cons]
theorem hbLoop_end {n : Nat} {m : Int} {l : List Stp} {i a : Nat} {r : Nat → Nat} (ha : l.length ≤ a) : hbLoop n m l i r a = r := by
  unfold hbLoop
  rw [show l.length - a = 0 by omega]; rfl
structure HbM (h hh : AH) (b5 : Nat) (n : Nat) (r : Nat → Nat) : Prop where
  ext : Ext h hh
  lo : h.next < b5
  hi : b5 < hh.next
  out : hh.get h.next = .cells zrel false false
  rel : hh.get b5 = .cells (relC n r) false false
theorem HbM.more {h hh h1 : AH} {b5 n : Nat} {r : Nat → Nat} (M : HbM h hh b5 n r) (x : Ext hh h1) : HbM h h1 b5 n r :=
  have := M.lo
  have := M.hi
  ⟨M.ext.trans x, M.lo, Nat.lt_of_lt_of_le M.hi x.next, by rw [x.get _ (by omega)]; exact M.out, by rw [x.get _ (by omega)]; exact M.rel⟩
theorem HbM.put {h hh : AH} {b5 n : Nat} {r q : Nat → Nat} (M : HbM h hh b5 n r) : HbM h (hh.put b5 (.cells (relC n q) false false)) b5 n q :=
  have := M.lo
  have := M.hi
  ⟨M.ext.put (by omega) _, M.lo, M.hi, by simp [show h.next ≠ b5 by omega, M.out], by simp⟩
structure CpM (hh : AH) (b7 : Nat) (s : Stp) : Prop where
  hi : b7 < hh.next
  st : hh.get b7 = .cells s.c false false
theorem CpM.more {hh h1 : AH} {b7 : Nat} {s : Stp} (M : CpM hh b7 s) (x : Ext hh h1) : CpM h1 b7 s := ⟨Nat.lt_of_lt_of_le M.hi x.next, by rw [x.get _ M.hi]; exact M.st⟩
theorem CpM.put {hh : AH} {b7 b5 : Nat} {s : Stp} {A : ABlk} (M : CpM hh b7 s) (hne : b7 ≠ b5) : CpM (hh.put b5 A) b7 s := ⟨M.hi, by simp [hne, M.st]⟩
theorem wO10 (g : TraceG G) {hh : AH} {b7 b9 : Nat} {a b : Stp} {m : Int} {K : Fr → AH → Prop} {w x y u1 u2 u3 : Value} {i : Int} {kk : Int} (M7 : CpM hh b7 a) (M9 : CpM hh b9 b)
    (hK : ∀ h1 F, Ext hh h1 → (F.keep [0, 1, 4, 5, 6, 7, 8, 9, 10, 18, 19, 20]) = [(0, w), (1, .int .i64 m), (4, x), (5, y), (6, .int .i64 i), (7, .pointer (some ⟨b7, 0, none⟩)), (8, .int .i64 kk), (9, .pointer (some ⟨b9, 0, none⟩)), (10, .bool (a.writes m && b.writes m && decide (a.loc = b.loc))), (18, u1), (19, u2), (20, u3)] → K F h1) :
    wO G c91_10 [(0, w), (1, .int .i64 m), (4, x), (5, y), (6, .int .i64 i), (7, .pointer (some ⟨b7, 0, none⟩)), (8, .int .i64 kk), (9, .pointer (some ⟨b9, 0, none⟩)), (18, u1), (19, u2), (20, u3)] hh K := by
  unfold c91_10
  have e7 : (a.c).length = 7 := rfl
  have e9 : (b.c).length = 7 := rfl
  simp -implicitDefEqProofs [M7.st, e7, List.take_of_length_le]
  refine Writes_spec g (s := a) fun h1 x1 => ?_
  cases hw : a.writes m with
  | false =>
    simp -implicitDefEqProofs
    exact hK _ _ x1 (by simp [hw])
  | true =>
    have M9' := M9.more x1
    simp -implicitDefEqProofs [M9'.st, e9, List.take_of_length_le]
    refine Writes_spec g (s := b) fun h2 x2 => ?_
    cases hw2 : b.writes m with
    | false =>
      simp -implicitDefEqProofs
      exact hK _ _ (x1.trans x2) (by simp [hw2])
    | true =>
      simp -implicitDefEqProofs [(M9'.more x2).st, ((M7.more x1).more x2).st, Stp.c]
      exact hK _ _ (x1.trans x2) (by simp [hw, hw2])
theorem wO11 (g : TraceG G) {hh : AH} {b7 b9 : Nat} {a b : Stp} {m : Int} {t : Bool} {K : Fr → AH → Prop} {w x y u1 u2 u3 : Value} {i : Nat} {kk : Int} (M7 : CpM hh b7 a) (M9 : CpM hh b9 b)
    (hK : ∀ h1 F, Ext hh h1 → (F.keep [0, 1, 4, 5, 6, 7, 8, 18, 19, 20, 86]) = [(0, w), (1, .int .i64 m), (4, x), (5, y), (6, .int .i64 i), (7, .pointer (some ⟨b7, 0, none⟩)), (8, .int .i64 kk), (18, u1), (19, u2), (20, u3),
      (86, .bool (decide (a.pick = b.pick) || t || (decide (b.kind = 6) && decide (b.from' = i)) || (decide (a.kind = 6) && decide (a.t = b.t) && b.fences)))] → K F h1) :
    wO G c91_11 [(0, w), (1, .int .i64 m), (4, x), (5, y), (6, .int .i64 i), (7, .pointer (some ⟨b7, 0, none⟩)), (8, .int .i64 kk), (9, .pointer (some ⟨b9, 0, none⟩)), (10, .bool t), (18, u1), (19, u2), (20, u3)] hh K := by
  unfold c91_11
  have e9 : (b.c).length = 7 := rfl
  have k0 := fun F => hK hh F (Ext.refl hh)
  have rest : ∀ (p : (decide (b.kind = 6) && decide (b.from' = (i : Int))) = false) (q : a.pick ≠ b.pick) (ht : t = false), wO G c91_11 [(0, w), (1, .int .i64 m), (4, x), (5, y), (6, .int .i64 i), (7, .pointer (some ⟨b7, 0, none⟩)), (8, .int .i64 kk), (9, .pointer (some ⟨b9, 0, none⟩)), (10, .bool t), (18, u1), (19, u2), (20, u3)] hh K := by
    intro p q ht
    unfold c91_11
    subst ht
    by_cases h3 : b.kind = 6
    · have h4 : ¬ b.from' = (i : Int) := by simpa [h3] using p
      by_cases h5 : a.kind = 6
      · by_cases h6 : a.t = b.t
        · simp -implicitDefEqProofs [M7.st, M9.st, Stp.c, q, h3, h4, h5, h6, List.take_of_length_le]
          refine Fences_spec g (s := { b with kind := 6 }) fun h1 x2 => ?_
          simp -implicitDefEqProofs
          exact hK _ _ x2 (by simp [q, h3, h4, h5, h6, Stp.fences])
        · simp -implicitDefEqProofs [M7.st, M9.st, Stp.c, q, h3, h4, h5, h6]
          exact k0 _ (by simp [q, h4, h6])
      · simp -implicitDefEqProofs [M7.st, M9.st, Stp.c, q, h3, h4, h5]
        exact k0 _ (by simp [q, h4, h5])
    · by_cases h5 : a.kind = 6
      · by_cases h6 : a.t = b.t
        · simp -implicitDefEqProofs [M7.st, M9.st, Stp.c, q, h3, h5, h6, List.take_of_length_le]
          refine Fences_spec g (s := b) fun h1 x2 => ?_
          simp -implicitDefEqProofs
          exact hK _ _ x2 (by simp [q, h3, h5, h6])
        · simp -implicitDefEqProofs [M7.st, M9.st, Stp.c, q, h3, h5, h6]
          exact k0 _ (by simp [q, h3, h6])
      · simp -implicitDefEqProofs [M7.st, M9.st, Stp.c, q, h3, h5]
        exact k0 _ (by simp [q, h3, h5])
  by_cases h1 : a.pick = b.pick
  · simp -implicitDefEqProofs [M7.st, M9.st, Stp.c, h1]
    exact k0 _ (by simp [h1])
  · cases t with
    | true =>
      simp -implicitDefEqProofs [M7.st, M9.st, Stp.c, h1]
      exact k0 _ (by simp)
    | false =>
      by_cases h3 : b.kind = 6
      · by_cases h4 : b.from' = (i : Int)
        · simp -implicitDefEqProofs [M7.st, M9.st, Stp.c, h1, h3, h4]
          exact k0 _ (by simp [h3, h4])
        · exact rest (by simp [h4]) h1 rfl
      · exact rest (by simp [h3]) h1 rfl
theorem wbody91 (g : HBG G) {n : Nat} {m : Int} {l : List Stp} {b o : Nat} {sp : Option Nat} {c : Nat} {i : Nat} {a : Nat} {hh : AH} {b5 b7 : Nat} {r : Nat → Nat} {R : SExit → Fr → AH → Prop} (s : SlV 7 h l.length (l.flatMap Stp.c) (.slice (some ⟨b, o, sp⟩) l.length c)) (hl : l.length ≤ 64) (hn : n ≤ 64) (hr : RowsOk r) (hi : i < l.length) (ha : a ≤ l.length)
    (M : HbM h hh b5 n r) (M7 : CpM hh b7 l[i]) (hne : b7 ≠ b5) (hR1 : l.length ≤ a → R (.exit 2) [(0, (.slice (some ⟨b, o, sp⟩) l.length c)), (1, .int .i64 m), (4, .pointer (some ⟨h.next, 0, none⟩)), (5, .pointer (some ⟨b5, 0, none⟩)), (6, .int .i64 i), (7, .pointer (some ⟨b7, 0, none⟩)), (8, .int .i64 a), (18, (.slice (some ⟨b, o, sp⟩) l.length c)), (19, .int .i64 l.length), (20, .int .i64 i), (30, .bool false)] hh)
    (hR2 : a < l.length → ∀ h1, HbM h h1 b5 n (hbI n m l i r a) → CpM h1 b7 l[i] → R .normal [(0, (.slice (some ⟨b, o, sp⟩) l.length c)), (1, .int .i64 m), (4, .pointer (some ⟨h.next, 0, none⟩)), (5, .pointer (some ⟨b5, 0, none⟩)), (6, .int .i64 i), (7, .pointer (some ⟨b7, 0, none⟩)), (8, .int .i64 ((a : Int) + 1)), (18, (.slice (some ⟨b, o, sp⟩) l.length c)), (19, .int .i64 l.length), (20, .int .i64 i)] h1) :
    W G c91_14 [(0, (.slice (some ⟨b, o, sp⟩) l.length c)), (1, .int .i64 m), (4, .pointer (some ⟨h.next, 0, none⟩)), (5, .pointer (some ⟨b5, 0, none⟩)), (6, .int .i64 i), (7, .pointer (some ⟨b7, 0, none⟩)), (8, .int .i64 a), (18, (.slice (some ⟨b, o, sp⟩) l.length c)), (19, .int .i64 l.length), (20, .int .i64 i)] hh R := by
  unfold c91_14 c91_8
  by_cases h1 : a < l.length
  · have hw : IntKind.i64.wrap ((a : Int) + 1) = (a : Int) + 1 := wrap64 (by omega)
    obtain ⟨bb, oo, sp', c', c0, g', ro', hv, e2, e3, e4, e5, e6⟩ := (s.ext M.ext).row Stp.c_length h1
    simp only [Value.slice.injEq, Option.some.injEq, Addr.mk.injEq, true_and] at hv
    obtain ⟨⟨rfl, rfl, rfl⟩, rfl⟩ := hv
    have hz7 : zi 7 = [.int .i64 0, .int .i64 0, .int .i64 0, .int .i64 0, .int .i64 0, .int .i64 0, .int .i64 0] := rfl
    have M1 : ∀ (A : ABlk), CpM ((hh.alloc A).put hh.next (.cells l[a].c false false)) hh.next l[a] := fun A => ⟨by simp, by simp⟩
    have x1 : ∀ (A B : ABlk), Ext hh ((hh.alloc A).put hh.next B) := fun A B => ((Ext.refl hh).alloc _).put (Nat.le_refl _) _
    have hsp : splice [.int .i64 0, .int .i64 0, .int .i64 0, .int .i64 0, .int .i64 0, .int .i64 0, .int .i64 0] 0 l[a].c = l[a].c := splice_all rfl
    simp -implicitDefEqProofs [h1, c91_9, e3, e4, e5, show b ≠ hh.next by omega, hz7, hsp, Stp.c_length]
    have M9 := M1 (.cells [.int .i64 0, .int .i64 0, .int .i64 0, .int .i64 0, .int .i64 0, .int .i64 0, .int .i64 0] false false)
    have x2 := x1 (.cells [.int .i64 0, .int .i64 0, .int .i64 0, .int .i64 0, .int .i64 0, .int .i64 0, .int .i64 0] false false) (.cells l[a].c false false)
    refine wO10 g.toTraceG (M7.more x2) M9 fun h2 F y hF => ?_
    have y2 := x2.trans y
    simp -implicitDefEqProofs only [keepK_eq, hF]
    simp -implicitDefEqProofs
    refine wO11 g.toTraceG (M7.more y2) (M9.more y) fun h3 F3 z hF3 => ?_
    have z2 := y2.trans z
    simp -implicitDefEqProofs only [keepK_eq, hF3]
    have eb : hbI n m l i r a = if hbB m l[i] l[a] i = true then addR n r i a else r := by rw [hbI, atS_of hi, atS_of h1]
    rw [eb] at hR2
    unfold hbB at hR2
    revert hR2
    generalize (decide (l[i].pick = l[a].pick) || (l[i].writes m && l[a].writes m && decide (l[i].loc = l[a].loc)) || (decide (l[a].kind = 6) && decide (l[a].from' = i)) || (decide (l[i].kind = 6) && decide (l[i].t = l[a].t) && l[a].fences)) = tt
    intro hR2
    have M3 := M.more z2
    have M73 := M7.more z2
    unfold c91_12 c91_13
    cases tt with
    | false =>
      simp -implicitDefEqProofs [hw]
      exact hR2 h1 _ M3 M73
    | true =>
      simp -implicitDefEqProofs [M3.rel, relC_take]
      refine Add_rel g.toRelG hn hr fun h4 y4 => ?_
      have M4 := M3.more y4
      have M74 := M73.more y4
      simp -implicitDefEqProofs [M4.rel, relC_splice, relV, hw]
      exact hR2 h1 _ M4.put (M74.put hne)
  · simp -implicitDefEqProofs [h1]
    exact hR1 (by omega)
theorem wloop91 (g : HBG G) {n : Nat} {m : Int} {l : List Stp} {b o : Nat} {sp : Option Nat} {c : Nat} {i : Nat} {a : Nat} {hh : AH} {b5 b7 : Nat} {r : Nat → Nat} {R : SExit → Fr → AH → Prop} (s : SlV 7 h l.length (l.flatMap Stp.c) (.slice (some ⟨b, o, sp⟩) l.length c)) (hl : l.length ≤ 64) (hn : n ≤ 64) (hr : RowsOk r) (hi : i < l.length) (ha : a ≤ l.length)
    (M : HbM h hh b5 n r) (M7 : CpM hh b7 l[i]) (hne : b7 ≠ b5)
    (hR : ∀ h1 (aa : Int), HbM h h1 b5 n (hbLoop n m l i r a) → CpM h1 b7 l[i] → R (.exit 2) [(0, (.slice (some ⟨b, o, sp⟩) l.length c)), (1, .int .i64 m), (4, .pointer (some ⟨h.next, 0, none⟩)), (5, .pointer (some ⟨b5, 0, none⟩)), (6, .int .i64 i), (7, .pointer (some ⟨b7, 0, none⟩)), (8, .int .i64 aa), (18, (.slice (some ⟨b, o, sp⟩) l.length c)), (19, .int .i64 l.length), (20, .int .i64 i), (30, .bool false)] h1) :
    W G (.loop [0, 1, 4, 5, 6, 7, 8, 18, 19, 20] c91_14) [(0, (.slice (some ⟨b, o, sp⟩) l.length c)), (1, .int .i64 m), (4, .pointer (some ⟨h.next, 0, none⟩)), (5, .pointer (some ⟨b5, 0, none⟩)), (6, .int .i64 i), (7, .pointer (some ⟨b7, 0, none⟩)), (8, .int .i64 a), (18, (.slice (some ⟨b, o, sp⟩) l.length c)), (19, .int .i64 l.length), (20, .int .i64 i)] hh R := by
  refine W_loop (fun mm F hh => ∃ (a : Nat) (q : Nat → Nat), mm = l.length - a ∧ a ≤ l.length ∧ RowsOk q ∧ HbM h hh b5 n q ∧ CpM hh b7 l[i] ∧ (∀ h1 (aa : Int), HbM h h1 b5 n (hbLoop n m l i q a) → CpM h1 b7 l[i] → R (.exit 2) [(0, (.slice (some ⟨b, o, sp⟩) l.length c)), (1, .int .i64 m), (4, .pointer (some ⟨h.next, 0, none⟩)), (5, .pointer (some ⟨b5, 0, none⟩)), (6, .int .i64 i), (7, .pointer (some ⟨b7, 0, none⟩)), (8, .int .i64 aa), (18, (.slice (some ⟨b, o, sp⟩) l.length c)), (19, .int .i64 l.length), (20, .int .i64 i), (30, .bool false)] h1) ∧
    F = [(0, (.slice (some ⟨b, o, sp⟩) l.length c)), (1, .int .i64 m), (4, .pointer (some ⟨h.next, 0, none⟩)), (5, .pointer (some ⟨b5, 0, none⟩)), (6, .int .i64 i), (7, .pointer (some ⟨b7, 0, none⟩)), (8, .int .i64 a), (18, (.slice (some ⟨b, o, sp⟩) l.length c)), (19, .int .i64 l.length), (20, .int .i64 i)]) (l.length - a) ⟨a, r, rfl, ha, hr, M, M7, hR, rfl⟩ ?_
  rintro mm F hh ⟨a, q, rfl, ha, hq, M, M7, hR, rfl⟩
  refine wbody91 g s hl hn hq hi ha M M7 hne (fun hla => ?_) (fun hla h1 M1 M71 => ?_)
  · refine hR _ _ ?_ M7
    rw [hbLoop_end hla]; exact M
  · refine ⟨l.length - (a + 1), by omega, a + 1, _, rfl, hla, hbI_ok hq, M1, M71, ?_, rfl⟩
    rw [← hbLoop_step hla]; exact hR
theorem HB_spec (g : HBG G) {m : Int} {l : List Stp} {v : Value} (s : SlV 7 h l.length (l.flatMap Stp.c) v) (hl : l.length ≤ 1000000) (k : ∀ h1, Ext h h1 → R (relV (hbN l) (hbR m l)) h1) : WC G 91 [v, .int .i64 m] h R := by
  refine WC_enter g.g91 rfl ?_
  show W G c91_body _ _ (retK [.cellN 4 65] R)
  unfold c91_body c91_0 c91_1
  obtain ⟨aa, cp, rfl⟩ := s.len
  by_cases hbig : 64 < l.length
  · have f1 : (64 : Int) < l.length := by omega
    simp -implicitDefEqProofs [f1, c91_2]
    refine New_rel g.toRelG fun h1 x => ?_
    have e4 : h1.get h.next = .cells zrel false false := by rw [x.get _ (by simp)]; simp
    have hx : Ext h h1 := ((Ext.refl h).alloc _).trans x
    simp -implicitDefEqProofs [relV, e4, zrel_length, zrel_splice, relC_take]
    have := k _ (hx.put (Nat.le_refl _) (.cells (relC (newN 0) fun _ => 0) false false))
    simp only [hbN, hbR, if_pos hbig] at this
    exact this
  · have f1 : ¬ (64 : Int) < l.length := by omega
    have hl64 : l.length ≤ 64 := by omega
    simp -implicitDefEqProofs [f1, c91_3]
    refine New_rel g.toRelG fun h1 x => ?_
    rw [newN_of hl64]
    have e4 : h1.get h.next = .cells zrel false false := by rw [x.get _ (by simp)]; simp
    have hx : Ext h h1 := ((Ext.refl h).alloc _).trans x
    have hlt : h.next < h1.next := Nat.lt_of_lt_of_le (by simp) x.next
    simp -implicitDefEqProofs [relV, zrel_length, zrel_splice, c91_4]
    have M0 : HbM h ((h1.alloc (.cells zrel false false)).put h1.next (.cells (relC l.length fun _ => 0) false false)) h1.next l.length fun _ => 0 :=
      ⟨(hx.alloc _).put (by omega) _, hlt, by simp, by simp [show h.next ≠ h1.next by omega, e4], by simp⟩
    revert M0
    generalize (h1.alloc (.cells zrel false false)).put h1.next (.cells (relC l.length fun _ => 0) false false) = hh
    generalize h1.next = b5
    intro M0
    refine W_loop (fun mm F hh => ∃ i : Nat, mm = l.length - i ∧ i ≤ l.length ∧ HbM h hh b5 l.length ((List.range i).foldl (hbRow l.length m l) fun _ => 0) ∧
      F = [(0, .slice aa l.length cp), (1, .int .i64 m), (4, .pointer (some ⟨h.next, 0, none⟩)), (5, .pointer (some ⟨b5, 0, none⟩)), (18, .slice aa l.length cp), (19, .int .i64 l.length), (20, .int .i64 i)]) l.length ⟨0, rfl, Nat.zero_le _, M0, rfl⟩ ?_
    rintro mm F hh2 ⟨i, rfl, hi, M, rfl⟩
    unfold c91_18 c91_5
    by_cases h2 : i < l.length
    · have hw : IntKind.i64.wrap ((i : Int) + 1) = ((i + 1 : Nat) : Int) := by rw [wrap64 (by omega)]; rfl
      obtain ⟨b, o, sp, c, c0, g', ro', hv, e2, e3, e4, e5, e6⟩ := (s.ext M.ext).row Stp.c_length h2
      simp only [Value.slice.injEq, true_and] at hv
      obtain ⟨rfl, rfl⟩ := hv
      have hz7 : zi 7 = [.int .i64 0, .int .i64 0, .int .i64 0, .int .i64 0, .int .i64 0, .int .i64 0, .int .i64 0] := rfl
      have hsp : splice [.int .i64 0, .int .i64 0, .int .i64 0, .int .i64 0, .int .i64 0, .int .i64 0, .int .i64 0] 0 l[i].c = l[i].c := splice_all rfl
      have hrr : RowsOk ((List.range i).foldl (hbRow l.length m l) fun _ => 0) := foldl_ok (fun _ _ h => hbRow_ok h) zero_ok
      have e0 := @foldl_range _ (hbRow l.length m l) (fun _ => 0) i
      revert M hrr e0
      generalize (List.range i).foldl (hbRow l.length m l) (fun _ => 0) = q
      intro M hrr e0
      simp -implicitDefEqProofs [h2, c91_6, c91_7, e3, e4, e5, show b ≠ hh2.next by omega, hz7, hsp, Stp.c_length, hw]
      rw [show ((i : Int) + 1) = ((i + 1 : Nat) : Int) from rfl]
      have x7 : ∀ (A B : ABlk), Ext hh2 ((hh2.alloc A).put hh2.next B) := fun A B => ((Ext.refl hh2).alloc _).put (Nat.le_refl _) _
      have hne : hh2.next ≠ b5 := by have := M.hi; omega
      refine wloop91 (a := i + 1) g s hl64 hl64 hrr h2 (by omega) (M.more (x7 _ _)) ⟨by simp, by simp⟩ hne fun h3 a3 M3 M73 => ?_
      have erow : hbRow l.length m l q i = if l[i].reads = true then readR l.length m l (hbLoop l.length m l i q (i + 1)) i else hbLoop l.length m l i q (i + 1) := by rw [hbRow, atS_of h2]
      rw [erow] at e0
      have hq3 : RowsOk (hbLoop l.length m l i q (i + 1)) := hbLoop_ok hrr
      revert M3 e0 hq3
      generalize hbLoop l.length m l i q (i + 1) = q3
      intro e0 M3 hq3
      simp -implicitDefEqProofs [c91_15, M73.st, Stp.c_length, List.take_of_length_le]
      refine Reads_spec g.toTraceG (s := l[i]) fun h4 y => ?_
      have M4 := M3.more y
      unfold c91_16 c91_17
      cases hrd : l[i].reads with
      | false =>
        rw [hrd] at e0
        simp -implicitDefEqProofs [hw]
        refine ⟨l.length - (i + 1), by omega, i + 1, rfl, h2, ?_, rfl⟩
        rw [e0]; exact M4
      | true =>
        rw [hrd] at e0
        simp -implicitDefEqProofs [M4.rel, relC_take]
        refine reading_spec g (s.ext M4.ext) hl64 hl64 hq3 h2 fun h5 z => ?_
        have M5 := M4.more z
        simp -implicitDefEqProofs [M5.rel, relC_splice, relV, hw]
        refine ⟨l.length - (i + 1), by omega, i + 1, rfl, h2, ?_, rfl⟩
        rw [e0]; exact M5.put
    · have hin : i = l.length := by omega
      subst hin
      simp -implicitDefEqProofs [c91_19, M.rel, relC_take]
      refine Closure_rel g.toRelG hl64 (foldl_ok (fun _ _ h => hbRow_ok h) zero_ok) fun h3 y => ?_
      have M3 := M.more y
      simp -implicitDefEqProofs [relV, M3.out, zrel_length, zrel_splice, relC_take]
      have := k _ (M3.ext.put (Nat.le_refl _) (.cells (relC l.length (clo l.length (hbPre m l))) false false))
      simp only [hbN, hbR, if_neg hbig] at this
      exact this
end Go.Jq
namespace Go.Jq
theorem addR_bit {n : Nat} {r : Nat → Nat} {a b x y : Nat} (ha : a < n) (hb : b < n) (hn : n ≤ 64) : (addR n r a b x).testBit y = ((r x).testBit y || (decide (x = a) && decide (y = b))) := by
  unfold addR
  rw [if_pos (by simp [inB_of ha, inB_of hb])]
  unfold updR
  by_cases h : x = a
  · subst h
    rw [if_pos (by simp), withN_bit]
    simp
    congr 1
    rw [decide_eq_true (by omega : (b : Int) < 64), Bool.true_and]
    congr 1; apply propext; omega
  · rw [if_neg (by simpa using h)]; simp [h]
def fence (p : Int) : Stp := ⟨p, p, 3, 0, 0, 0, -1⟩
theorem fence_reads {p : Int} : (fence p).reads = false := by simp [fence, Stp.reads]
theorem fence_hb {m p : Int} {i : Nat} : hbB m (fence p) (fence p) i = true := by simp [hbB]
theorem atS_rep {n k : Nat} {s : Stp} (h : k < n) : atS (List.replicate n s) k = s := by
  rw [atS_of (by simpa using h)]; simp
theorem many_loop {n : Nat} {m p : Int} {i : Nat} (hn : n ≤ 64) (hi : i < n) : ∀ (d a : Nat) (r : Nat → Nat), a + d = n → i < a → ∀ x y, (hbLoop n m (List.replicate n (fence p)) i r a x).testBit y = ((r x).testBit y || (decide (x = i) && (decide (a ≤ y) && decide (y < n)))) := by
  intro d
  induction d with
  | zero =>
    intro a r ha hia x y
    rw [hbLoop_end (by simp; omega)]
    have : (decide (a ≤ y) && decide (y < n)) = false := by simp; omega
    rw [this]; simp
  | succ d ih =>
    intro a r ha hia x y
    rw [hbLoop_step (by simp; omega), ih (a + 1) _ (by omega) (by omega), hbI, atS_rep hi, atS_rep (by omega), if_pos fence_hb, addR_bit hi (by omega) hn]
    by_cases hx : x = i
    · by_cases hy : y = a
      · subst hy; simp [hx]; omega
      · have : decide (a + 1 ≤ y) = decide (a ≤ y) := by congr 1; apply propext; omega
        rw [this]; simp [hx, hy]
    · simp [hx]
theorem many_pre {n : Nat} {m p : Int} (hn : n ≤ 64) : ∀ j, j ≤ n → ∀ x y, ((List.range j).foldl (hbRow n m (List.replicate n (fence p))) (fun _ => 0) x).testBit y = (decide (x < j) && (decide (x < y) && decide (y < n))) := by
  intro j
  induction j with
  | zero => intro _ x y; simp
  | succ j ih =>
    intro hj x y
    rw [foldl_range]
    have hj' : j < n := by omega
    rw [show ∀ q, hbRow n m (List.replicate n (fence p)) q j = hbLoop n m (List.replicate n (fence p)) j q (j + 1) from fun q => by rw [hbRow, atS_rep hj', fence_reads, if_neg (by simp)]]
    rw [many_loop hn hj' (n - (j + 1)) (j + 1) _ (by omega) (by omega), ih (by omega)]
    by_cases hx : x = j
    · subst hx; simp; rfl
    · have : decide (x < j + 1) = decide (x < j) := by congr 1; apply propext; omega
      rw [this]; simp [hx]
def manyR (n : Nat) (r : Nat → Nat) : Prop := ∀ x y, (r x).testBit y = (decide (x < y) && decide (y < n))
theorem many_pre' {n : Nat} {m p : Int} (hn : n ≤ 64) : manyR n (hbPre m (List.replicate n (fence p))) := by
  intro x y
  unfold hbPre
  rw [List.length_replicate, many_pre hn n (Nat.le_refl _)]
  by_cases h : x < n
  · simp [h]
  · simp [h]; omega
theorem many_cloI {n k i : Nat} {r : Nat → Nat} (h : manyR n r) : cloI k r i = r := by
  unfold cloI
  split
  · rename_i hk
    funext j
    unfold updR
    split
    · rename_i hj; subst hj
      apply Nat.eq_of_testBit_eq
      intro y
      rw [Nat.testBit_or, h, h]
      rw [h] at hk
      simp only [Bool.and_eq_true, decide_eq_true_eq] at hk
      by_cases h1 : j < y <;> by_cases h2 : k < y <;> by_cases h3 : y < n <;> simp [h1, h2, h3] <;> omega
    · rfl
  · rfl
theorem foldl_fix {α β : Type} {f : α → β → α} {a : α} (hf : ∀ b, f a b = a) : ∀ l : List β, l.foldl f a = a
  | [] => rfl
  | b :: l => by rw [List.foldl_cons, hf]; exact foldl_fix hf l
theorem many_clo {n : Nat} {r : Nat → Nat} (h : manyR n r) : clo n r = r := foldl_fix (f := cloK n) (fun k => foldl_fix (f := cloI k) (fun _ => many_cloI h) _) _
theorem many_hb {n : Nat} {m p : Int} (hn : n ≤ 64) : manyR n (hbR m (List.replicate n (fence p))) := by
  unfold hbR
  rw [List.length_replicate, if_neg (by omega), many_clo (many_pre' hn)]
  exact many_pre' hn
end Go.Jq
namespace Go.Jq
variable {G : Nat → SFunc} {h : AH} {R : Value → AH → Prop}
def acyM (n : Nat) (r : Nat → Nat) : Bool := (List.range n).all fun i => !(clo n r i).testBit i
def inv30 (h : AH) (n : Nat) (q : Nat → Nat) (b3 : Nat) (m : Nat) (F : Fr) (hh : AH) : Prop :=
  ∃ i : Nat, m = n - i ∧ i ≤ n ∧ (∀ j, j < i → (q j).testBit j = false) ∧ Ext h hh ∧ b3 < hh.next ∧ hh.get b3 = .cells (relC n q) false false ∧ F = [(3, .pointer (some ⟨b3, 0, none⟩)), (8, .int .i64 n), (9, .int .i64 i)]
theorem Acyclic_rel (g : RelG G) (g30 : G 30 = c30) {n : Nat} {r : Nat → Nat} (hn : n ≤ 64) (hr : RowsOk r) (k : ∀ h1, Ext h h1 → R (.bool (acyM n r)) h1) : WC G 30 [relV n r] h R := by
  have hq : RowsOk (clo n r) := clo_ok hr
  refine WC_enter g30 rfl ?_
  show W G c30_body _ _ (retK [.tmp 2] R)
  unfold c30_body c30_0 c30_1
  simp -implicitDefEqProofs [relV]
  refine Closure_rel g hn hr fun h1 x1 => ?_
  have n1 := x1.next
  simp at n1
  unfold acyM at k
  generalize clo n r = q at k hq
  have zl : zrel.length = 65 := by simp [zrel, zu]
  have sz : splice zrel 0 (relC n q) = relC n q := by unfold splice; simp [zl, relC_length]
  have le : 65 ≤ zrel.length := by omega
  simp -implicitDefEqProofs [relV, c30_2, sz, le]
  have x0 : Ext h (h.alloc (.cells (relC n r) false false)) := (Ext.refl h).alloc _
  refine W_loop (inv30 h n q h1.next) n ⟨0, rfl, by omega, by omega, ((x0.trans x1).alloc _).put (by omega) _, by simp, by simp, rfl⟩ ?_
  rintro m F hh ⟨i, rfl, hi, hno, x, hb, gb, rfl⟩
  unfold c30_8 c30_3 c30_4 c30_5
  by_cases h2 : i < n
  · have f1 : (i : Int) < 64 := by omega
    have f3 : i < 64 := by omega
    have hw : IntKind.i64.wrap ((i : Int) + 1) = ((i + 1 : Nat) : Int) := by rw [wrap64 (by omega)]; rfl
    have eb : hasB (q i) (i : Int) = (q i).testBit i := by unfold hasB; simp; omega
    cases e : (q i).testBit i with
    | false =>
      simp -implicitDefEqProofs [h2, gb, f1, relC_get f3]
      refine Has_spec g.toSetG (hq _) ?_
      rw [eb, e]
      simp -implicitDefEqProofs [c30_7, hw]
      refine ⟨n - (i + 1), by omega, i + 1, rfl, h2, fun j hj => ?_, x, hb, gb, by simp⟩
      by_cases ej : j = i
      · subst ej; exact e
      · exact hno j (by omega)
    | true =>
      simp -implicitDefEqProofs [h2, gb, f1, relC_get f3]
      refine Has_spec g.toSetG (hq _) ?_
      rw [eb, e]
      simp -implicitDefEqProofs [c30_6]
      have ea : ((List.range n).all fun i => !(q i).testBit i) = false := by
        rw [List.all_eq_false]
        exact ⟨i, List.mem_range.2 h2, by simp [e]⟩
      rw [ea] at k
      exact k hh x
  · simp -implicitDefEqProofs [h2, c30_9]
    have ea : ((List.range n).all fun i => !(q i).testBit i) = true := by
      rw [List.all_eq_true]
      intro j hj
      rw [List.mem_range] at hj
      simp [hno j (by omega)]
    rw [ea] at k
    exact k hh x
end Go.Jq
namespace Go.Jq
open Go.ChangeShapes Go.WideShapes Go.ChangeAt Go.RowKit Go.Deep
theorem more_slice {C : Ctx} {γ : Gm} {h : AH} (H : HR C γ h C.w0) (hb : C.base = C.w0.heap.size) {k B s len cap : Nat} {cs : List Value} (hlen : cs.length = len * k) (hp : cs.all plain1 = true) (hcell : ∀ t, t < len * k → C.w0.cell? ⟨B, s + t, none⟩ = cs[t]?) (hk : 0 < k) :
    ∃ h' γ' v, HR C γ' h' C.w0 ∧ Sub γ γ' ∧ Ext h h' ∧ VR C γ' v (.slice (some ⟨B, s, none⟩) len cap) ∧ SlV k h' len cs v := by
  have hg0 : γ h.next = none := H.dom _ (Nat.le_refl _)
  have go : ∀ (N : Nat) (o : ABlk), o.wr = false → (∀ γ', γ' h.next = some (B, s, N) → BR C γ' o (C.w0.heap[B]?) B s N) → HR C (gset γ h.next (B, s, N)) (h.alloc o) C.w0 := by
    intro N o hw hbr
    refine ⟨H.below, H.low, fun b B' s' N' e => ?_, fun b b' B' s' N' s'' N'' e1 e2 w1 w2 => ?_, fun b hbn => ?_⟩
    · unfold gset at e
      rw [AH.alloc_get]
      by_cases hbb : b = h.next
      · rw [if_pos hbb] at e ⊢
        simp only [Option.some.injEq, Prod.mk.injEq] at e
        obtain ⟨rfl, rfl, rfl⟩ := e
        exact hbr _ (by simp [gset])
      · rw [if_neg hbb] at e ⊢
        exact (H.blk b B' s' N' e).mono (gset_sub hg0)
    · rw [AH.alloc_get] at w1 w2
      by_cases h1 : b = h.next
      · rw [if_pos h1, hw] at w1; simp at w1
      · by_cases h2 : b' = h.next
        · rw [if_pos h2, hw] at w2; simp at w2
        · rw [if_neg h1] at w1
          rw [if_neg h2] at w2
          unfold gset at e1 e2
          rw [if_neg h1] at e1
          rw [if_neg h2] at e2
          exact H.inj b b' B' s' N' s'' N'' e1 e2 w1 w2
    · simp at hbn
      unfold gset
      rw [if_neg (by omega)]
      exact H.dom b (by omega)
  by_cases h0 : len = 0
  · subst h0
    refine ⟨_, _, .slice (some ⟨h.next, 0, none⟩) 0 cap, go 0 .dead rfl (fun _ _ => trivial), gset_sub hg0, (Ext.refl h).alloc _, .slX (o := 0) (N := 0) (by simp [gset]), hlen, .inl ⟨rfl, _, _, rfl⟩⟩
  · have hpos : 0 < len * k := Nat.mul_pos (Nat.pos_of_ne_zero h0) hk
    have hc0 := hcell 0 hpos
    obtain ⟨D, E, fl, hD⟩ : ∃ D E fl, C.w0.heap[B]? = some (.cells D E fl) := by
      unfold World.cell? at hc0
      simp only at hc0
      split at hc0
      · exact ⟨_, _, _, by assumption⟩
      · rw [List.getElem?_eq_getElem (by omega)] at hc0; simp at hc0
    obtain ⟨lo, hi⟩ := fl
    have hDt : ∀ t, t < len * k → D[s + t]? = cs[t]? := fun t ht => by rw [← cell_of hD]; exact hcell t ht
    have hsz : s + cs.length ≤ D.size := by
      have := hDt (len * k - 1) (by omega)
      rw [List.getElem?_eq_getElem (by omega)] at this
      have := (Array.getElem?_eq_some_iff.1 this).1
      omega
    have hcs : (D.toList.drop s).take cs.length = cs := by
      apply List.ext_getElem?
      intro t
      by_cases ht : t < cs.length
      · rw [List.getElem?_take, if_pos ht, List.getElem?_drop, Array.getElem?_toList, hDt t (by omega)]
      · rw [List.getElem?_eq_none (by simp; omega), List.getElem?_eq_none (by omega)]
    refine ⟨_, _, .slice (some ⟨h.next, 0, none⟩) len cap, go D.size (.cells cs false true) rfl (fun γ' hγ => ?_), gset_sub hg0, (Ext.refl h).alloc _, .slX (o := 0) (N := D.size) (by simp [gset]), hlen, .inr ⟨h.next, 0, none, cap, cs, false, true, rfl, by simp, by simp, by omega, by simp [← hlen]⟩⟩
    refine ⟨D, E, lo, hi, hD, rfl, hsz, by rw [hcs]; exact plains_VR hp, fun x hx => plain1_one (List.all_eq_true.1 hp x hx), fun _ => ?_, fun e => by simp at e⟩
    rw [hb]
    exact (Array.getElem?_eq_some_iff.1 hD).1
theorem slice_spot' {P : Program} {W : World} {base : Nat} {t e : TypeId} {a : Addr} {len cap : Nat} (ht : P.underlying t = some (.slice e)) (h : Value.okWide P W .any base t (.slice (some a) len cap)) : a.spot = none := by
  simp only [Value.okWide, ht, Cell.okWide, Cell.ok] at h
  exact h.2.2.2.1
theorem open_ints {H : Type} {enc : TypeId × Value → H} {P : Program} {W : World} {base : Nat} {t e : TypeId} {v : Value} {d : DataW H} {ps : List MemPlace}
    (ht : P.underlying t = some (.slice e)) (he : P.underlying e = some (.int .i64)) (ce : P.cellsOf e = 1)
    (hok : Value.okWide P W .any base t v) (h : DataW.Trod enc P W 0 (fun _ => true) true t v d ps) :
    v = .slice none 0 0 ∨ ∃ B s cap, ∃ l : List Int, v = .slice (some ⟨B, s, none⟩) l.length cap ∧ l.length ≤ maxLen ∧ ∀ i, i < l.length → W.cell? ⟨B, s + i, none⟩ = (l.flatMap intC)[i]? := by
  obtain ⟨a0, len0, cap0, rfl⟩ := okWide_slice ht hok
  obtain ⟨fuel, hf⟩ := h
  rcases open_slice1 ht ce hf with ⟨hcs, _⟩ | ⟨a, len, cap, m, n, V, D, Pl, hcs, _, hl, hm, hmm, _, hel⟩
  · simp [Value.cells] at hcs
    obtain ⟨rfl, rfl, rfl⟩ := hcs
    exact .inl rfl
  · simp [Value.cells] at hcs
    obtain ⟨rfl, rfl, rfl⟩ := hcs
    right
    obtain ⟨B, s, sp⟩ := a
    have hsp := slice_spot' ht hok
    simp only at hsp
    subst hsp
    have hm' : m = cap0 := by simpa using hmm
    have key : ∀ i, i < len0 → ∃ x : Int, W.cell? ⟨B, s + i, none⟩ = some (.int .i64 x) := by
      intro i hi
      obtain ⟨hc, hd⟩ := hel i (by omega)
      obtain ⟨x, e0, _⟩ := DataW.trod_int he hd
      simp at e0
      have ea : (⟨B, s, none⟩ : Addr).add i = ⟨B, s + i, none⟩ := by
        unfold Addr.add
        split <;> simp_all
      rw [ea, e0] at hc
      exact ⟨x, hc⟩
    have lo : ∀ n : Nat, (∀ i, i < n → ∃ x : Int, W.cell? ⟨B, s + i, none⟩ = some (.int .i64 x)) → ∃ l : List Int, l.length = n ∧ ∀ i (hi : i < l.length), W.cell? ⟨B, s + i, none⟩ = some (.int .i64 l[i]) := by
      intro n
      induction n with
      | zero => intro _; exact ⟨[], rfl, fun i hi => by simp at hi⟩
      | succ n ih =>
        intro hx
        obtain ⟨l, hll, hp⟩ := ih fun i hi => hx i (by omega)
        obtain ⟨x, hx⟩ := hx n (by omega)
        refine ⟨l ++ [x], by simp [hll], fun i hi => ?_⟩
        by_cases e : i < l.length
        · rw [List.getElem_append_left e]; exact hp i e
        · have : i = n := by simp at hi; omega
          subst this
          rw [List.getElem_append_right (by omega)]
          simpa [hll] using hx
    obtain ⟨l, hll, hp⟩ := lo len0 key
    subst hll
    refine ⟨B, s, cap0, l, rfl, by omega, fun i hi => ?_⟩
    have h2 := fm_get intC_length l i 0 (by omega)
    simp only [Nat.mul_one, Nat.add_zero] at h2
    rw [hp i hi, h2, List.getElem?_eq_getElem hi]
    rfl
theorem ints_plain (l : List Int) : (l.flatMap intC).all plain1 = true := by
  rw [List.all_eq_true]
  intro x hx
  obtain ⟨o, _, ho⟩ := List.mem_flatMap.1 hx
  simp only [intC, List.mem_cons, List.not_mem_nil, or_false] at ho
  subst ho; rfl
theorem more_ints {C : Ctx} {γ : Gm} {h : AH} (H : HR C γ h C.w0) (hb : C.base = C.w0.heap.size) {v : Value}
    (hv : v = .slice none 0 0 ∨ ∃ B s cap, ∃ l : List Int, v = .slice (some ⟨B, s, none⟩) l.length cap ∧ l.length ≤ maxLen ∧ ∀ i, i < l.length → C.w0.cell? ⟨B, s + i, none⟩ = (l.flatMap intC)[i]?) :
    ∃ h' γ' v0, ∃ l : List Int, HR C γ' h' C.w0 ∧ Sub γ γ' ∧ Ext h h' ∧ VR C γ' v0 v ∧ l.length ≤ maxLen ∧ SlV 1 h' l.length (l.flatMap intC) v0 := by
  rcases hv with rfl | ⟨B, s, cap, l, rfl, hl, hc⟩
  · exact ⟨h, γ, .slice none 0 0, [], H, fun _ _ e => e, Ext.refl h, .sl0, Nat.zero_le _, ⟨rfl, .inl ⟨rfl, _, _, rfl⟩⟩⟩
  · obtain ⟨h', γ', v0, a1, a2, a3, a4, a5⟩ := more_slice H hb (k := 1) (len := l.length) (cap := cap) (cs := l.flatMap intC) (by rw [fm_length intC_length]) (ints_plain l) (fun t ht => hc t (by omega)) (by omega)
    exact ⟨h', γ', v0, l, a1, a2, a3, a4, hl, a5⟩
end Go.Jq
