/- Sets of few numbers, and relations: what they are in memory, and what their functions answer. -/
import Derived.Test.YtghlejnndjioiaaDoorC
set_option linter.unusedSimpArgs false
set_option linter.unusedVariables false
namespace Go.Jq
variable {G : Nat → SFunc} {h : AH} {R : Value → AH → Prop}
theorem wrapu {n : Int} (h : 0 ≤ n ∧ n < 18446744073709551616) : IntKind.u64.wrap n = n := by
  simp only [IntKind.wrap, IntKind.bits, IntKind.signed]
  simp; omega
theorem iand_nat {a b : Nat} (ha : a < 2 ^ 64) (hb : b < 2 ^ 64) : iand .u64 a b = ((a &&& b : Nat) : Int) := by
  have e : (BitVec.ofInt IntKind.u64.bits (a : Int) &&& BitVec.ofInt IntKind.u64.bits (b : Int)).toNat = a &&& b := by
    rw [BitVec.toNat_and, BitVec.ofInt_natCast, BitVec.ofInt_natCast, BitVec.toNat_ofNat, BitVec.toNat_ofNat]
    show a % 2 ^ 64 &&& b % 2 ^ 64 = _
    rw [Nat.mod_eq_of_lt ha, Nat.mod_eq_of_lt hb]
  rw [iand, e, wrapu]
  have : a &&& b ≤ a := Nat.and_le_left
  omega
theorem ior_nat {a b : Nat} (ha : a < 2 ^ 64) (hb : b < 2 ^ 64) : ior .u64 a b = ((a ||| b : Nat) : Int) := by
  have e : (BitVec.ofInt IntKind.u64.bits (a : Int) ||| BitVec.ofInt IntKind.u64.bits (b : Int)).toNat = a ||| b := by
    rw [BitVec.toNat_or, BitVec.ofInt_natCast, BitVec.ofInt_natCast, BitVec.toNat_ofNat, BitVec.toNat_ofNat]
    show a % 2 ^ 64 ||| b % 2 ^ 64 = _
    rw [Nat.mod_eq_of_lt ha, Nat.mod_eq_of_lt hb]
  rw [ior, e, wrapu]
  have : a ||| b < 2 ^ 64 := Nat.or_lt_two_pow ha hb
  omega
abbrev stW (s : Nat) : Value := .int .u64 (s : Int)
def bitN (i : Int) : Nat := if 0 ≤ i ∧ i < 64 then 2 ^ i.toNat else 0
theorem bitN_lt {i : Int} : bitN i < 2 ^ 64 := by
  unfold bitN; split
  · exact Nat.pow_lt_pow_right (by omega) (by omega)
  · decide
def hasB (s : Nat) (i : Int) : Bool := decide (0 ≤ i ∧ i < 64) && s.testBit i.toNat
theorem and_bit {s : Nat} {i : Int} : decide (¬ (s &&& bitN i) = 0) = hasB s i := by
  unfold bitN hasB
  by_cases h : 0 ≤ i ∧ i < 64
  · rw [if_pos h, decide_eq_true h, Bool.true_and]
    have e : s &&& 2 ^ i.toNat = (s.testBit i.toNat).toNat * 2 ^ i.toNat := by
      apply Nat.eq_of_testBit_eq
      intro j
      rw [Nat.testBit_and, Nat.testBit_two_pow]
      cases hb : s.testBit i.toNat with
      | false =>
        simp
        rintro h1 rfl; rw [hb] at h1; simp at h1
      | true =>
        simp only [Bool.toNat_true, Nat.one_mul, Nat.testBit_two_pow]
        by_cases hj : i.toNat = j
        · subst hj; simp [hb]
        · simp [hj]
    rw [e]
    have : 0 < 2 ^ i.toNat := Nat.pow_pos (by omega)
    cases s.testBit i.toNat <;> simp
  · rw [if_neg h, decide_eq_false h]; simp
def withN (s : Nat) (i : Int) : Nat := s ||| bitN i
theorem withN_lt {s : Nat} {i : Int} (h : s < 2 ^ 64) : withN s i < 2 ^ 64 := Nat.or_lt_two_pow h bitN_lt
theorem withN_bit {s : Nat} {i : Int} {j : Nat} : (withN s i).testBit j = (s.testBit j || (decide (0 ≤ i ∧ i < 64) && decide (i = j))) := by
  unfold withN bitN
  rw [Nat.testBit_or]
  congr 1
  by_cases h : 0 ≤ i ∧ i < 64
  · rw [if_pos h, decide_eq_true h, Nat.testBit_two_pow, Bool.true_and]
    congr 1
    apply propext; omega
  · rw [if_neg h, decide_eq_false h]; simp
structure SetG (G : Nat → SFunc) : Prop where
  g103 : G 103 = c103
  g58 : G 58 = c58
  g102 : G 102 = c102
theorem bit_spec (g : SetG G) {i : Int} (k : R (stW (bitN i)) h) : WC G 103 [.int .i64 i] h R := by
  refine WC_enter g.g103 rfl ?_
  show W G c103_body _ _ (retK [.tmp 2] R)
  unfold c103_body c103_0 c103_1 c103_2 c103_3
  by_cases h1 : i < 0
  · have : bitN i = 0 := by unfold bitN; rw [if_neg]; omega
    rw [this] at k
    simp -implicitDefEqProofs [h1]
    exact k
  · by_cases h2 : 64 ≤ i
    · have : bitN i = 0 := by unfold bitN; rw [if_neg]; omega
      rw [this] at k
      simp -implicitDefEqProofs [h1, h2]
      exact k
    · have e : bitN i = 2 ^ i.toNat := by unfold bitN; rw [if_pos]; omega
      have e1 : IntKind.u64.wrap i = i := wrapu (by omega)
      have e2 : min i.toNat IntKind.u64.bits = i.toNat := by
        have : IntKind.u64.bits = 64 := rfl
        rw [this]; omega
      have hp : (2 : Nat) ^ i.toNat < 2 ^ 64 := Nat.pow_lt_pow_right (by omega) (by omega)
      have e3 : IntKind.u64.wrap ((1 : Int) * 2 ^ i.toNat) = ((2 ^ i.toNat : Nat) : Int) := by
        rw [Int.one_mul]
        have : (2 : Int) ^ i.toNat = ((2 ^ i.toNat : Nat) : Int) := by simp
        rw [this]
        exact wrapu ⟨by omega, by omega⟩
      rw [e] at k
      simp -implicitDefEqProofs only [W_seq, W_reg, W_cond, W_ret, W_skip]
      simp -implicitDefEqProofs [h1, h2, e1, e2, sbin]
      rw [Int.one_mul] at e3
      rw [e3]
      simp at k ⊢
      exact k
theorem Has_spec (g : SetG G) {s : Nat} {i : Int} (hs : s < 2 ^ 64) (k : R (.bool (hasB s i)) h) : WC G 58 [stW s, .int .i64 i] h R := by
  refine WC_enter g.g58 rfl ?_
  show W G c58_body _ _ (retK [.tmp 4] R)
  unfold c58_body c58_0 c58_1
  simp -implicitDefEqProofs
  refine bit_spec g ?_
  have e : ((s &&& bitN i : Nat) : Int) = 0 ↔ (s &&& bitN i) = 0 := by omega
  rw [← and_bit] at k
  simp -implicitDefEqProofs [iand_nat hs bitN_lt, e]
  simpa using k
theorem With_spec (g : SetG G) {s : Nat} {i : Int} (hs : s < 2 ^ 64) (k : R (stW (withN s i)) h) : WC G 102 [stW s, .int .i64 i] h R := by
  refine WC_enter g.g102 rfl ?_
  show W G c102_body _ _ (retK [.tmp 4] R)
  unfold c102_body c102_0 c102_1
  simp -implicitDefEqProofs
  refine bit_spec g ?_
  simp -implicitDefEqProofs [ior_nat hs bitN_lt]
  exact k
def rowC (r : Nat → Nat) : List Value := (List.range 64).map fun i => stW (r i)
def relC (n : Nat) (r : Nat → Nat) : List Value := .int .i64 (n : Int) :: rowC r
def relV (n : Nat) (r : Nat → Nat) : Value := .agg (relC n r).toArray
theorem rowC_length {r : Nat → Nat} : (rowC r).length = 64 := by simp [rowC]
@[simp] theorem relC_length {n : Nat} {r : Nat → Nat} : (relC n r).length = 65 := by simp [relC, rowC_length]
theorem rowC_get {r : Nat → Nat} {i : Nat} (h : i < 64) : (rowC r)[i]? = some (stW (r i)) := by simp [rowC, h]
@[simp] theorem relC_get0 {n : Nat} {r : Nat → Nat} : (relC n r)[0]? = some (.int .i64 (n : Int)) := rfl
@[simp] theorem relC_g0 {n : Nat} {r : Nat → Nat} {h : 0 < (relC n r).length} : (relC n r)[0] = .int .i64 (n : Int) := rfl
theorem relC_get {n : Nat} {r : Nat → Nat} {i : Nat} (h : i < 64) : (relC n r)[1 + i]? = some (stW (r i)) := by
  rw [Nat.add_comm, relC, List.getElem?_cons_succ, rowC_get h]
def updR (r : Nat → Nat) (i v : Nat) : Nat → Nat := fun j => if j = i then v else r j
theorem rowC_set {r : Nat → Nat} {i v : Nat} : (rowC r).set i (stW v) = rowC (updR r i v) := by
  apply List.ext_getElem?
  intro j
  rw [List.getElem?_set, rowC_length]
  by_cases hj : j < 64
  · rw [rowC_get hj, rowC_get hj]
    by_cases h : i = j
    · subst h; simp [updR, hj]
    · have : ¬ j = i := fun e => h e.symm
      simp [h, updR, this]
  · by_cases h : i = j
    · subst h
      rw [if_pos rfl, if_neg hj, List.getElem?_eq_none (by rw [rowC_length]; omega)]
    · rw [if_neg h, List.getElem?_eq_none (by rw [rowC_length]; omega), List.getElem?_eq_none (by rw [rowC_length]; omega)]
theorem relC_set {n : Nat} {r : Nat → Nat} {i v : Nat} : (relC n r).set (1 + i) (stW v) = relC n (updR r i v) := by
  rw [Nat.add_comm, relC, List.set_cons_succ, rowC_set]; rfl
theorem zrel_eq : zrel = relC 0 fun _ => 0 := rfl
theorem zrel_length : zrel.length = 65 := rfl
theorem relC_take {n : Nat} {r : Nat → Nat} : (relC n r).take 65 = relC n r := List.take_of_length_le (by simp)
theorem relC_splice {n m : Nat} {r q : Nat → Nat} : splice (relC n r) 0 (relC m q) = relC m q := splice_all (by simp)
structure RelG (G : Nat → SFunc) : Prop extends SetG G where
  g38 : G 38 = c38
  g137 : G 137 = c137
  g98 : G 98 = c98
  g139 : G 139 = c139
  g56 : G 56 = c56
  g57 : G 57 = c57
def inB (n : Nat) (a : Int) : Bool := decide (0 ≤ a) && decide (a < n)
def newN (a : Int) : Nat := if a ≤ 0 then 0 else if 64 ≤ a then 64 else a.toNat
theorem newN_of {a : Nat} (h : a ≤ 64) : newN (a : Int) = a := by unfold newN; split <;> (try split) <;> omega
theorem newN_le {a : Int} : newN a ≤ 64 := by unfold newN; split <;> (try split) <;> omega
theorem zrel_put {n : Nat} : splice zrel 0 [.int .i64 (n : Int)] = relC n fun _ => 0 := rfl
theorem zrel_splice {n : Nat} {r : Nat → Nat} : splice zrel 0 (relC n r) = relC n r := splice_all (by simp [zrel_length])
theorem New_rel (g : RelG G) {a : Int} (k : ∀ h1, Ext h h1 → R (relV (newN a) fun _ => 0) h1) : WC G 38 [.int .i64 a] h R := by
  refine WC_enter g.g38 rfl ?_
  show W G c38_body _ _ (retK [.cellN 2 65] R)
  unfold c38_body c38_0 c38_1
  have k1 : ∀ o o', R (relV (newN a) fun _ => 0) ((h.alloc o).put h.next o') := fun o o' => k _ (((Ext.refl h).alloc _).put (Nat.le_refl _) _)
  have e : (if 64 < (if a < 0 then (0 : Int) else a) then (64 : Int) else (if a < 0 then (0 : Int) else a)) = (newN a : Int) := by
    unfold newN; split <;> split <;> (try split) <;> (try split) <;> omega
  have e' : smm true (.int .i64 a) [.int .i64 0] = some (.int .i64 (if a < 0 then 0 else a)) := by simp [smm]
  have e2 : ∀ b : Int, smm false (.int .i64 b) [.int .i64 64] = some (.int .i64 (if b > 64 then 64 else b)) := fun b => by simp [smm]
  simp -implicitDefEqProofs [e', e2, e, zrel_put, zrel_splice, zrel_length, relC_take]
  exact k1 _ _
theorem N_rel (g : RelG G) {n : Nat} {r : Nat → Nat} (k : ∀ h1, Ext h h1 → R (.int .i64 n) h1) : WC G 137 [relV n r] h R := by
  refine WC_enter g.g137 rfl ?_
  show W G c137_body _ _ (retK [.tmp 2] R)
  unfold c137_body c137_0 c137_1
  simp -implicitDefEqProofs [relV]
  exact k _ ((Ext.refl h).alloc _)
theorem in_rel (g : RelG G) {n : Nat} {r : Nat → Nat} {a : Int} (k : ∀ h1, Ext h h1 → R (.bool (inB n a)) h1) : WC G 98 [relV n r, .int .i64 a] h R := by
  refine WC_enter g.g98 rfl ?_
  show W G c98_body _ _ (retK [.tmp 4] R)
  unfold c98_body c98_0 c98_1
  have kk : ∀ o, R (.bool (inB n a)) (h.alloc o) := fun o => k _ ((Ext.refl h).alloc o)
  by_cases h1 : 0 ≤ a
  · by_cases h2 : a < n
    · have e : inB n a = true := by simp [inB, h1, h2]
      rw [e] at kk
      simp -implicitDefEqProofs [relV, h1, h2]
      exact kk _
    · have e : inB n a = false := by simp [inB, h2]
      rw [e] at kk
      simp -implicitDefEqProofs [relV, h1, h2]
      exact kk _
  · have e : inB n a = false := by simp [inB, h1]
    rw [e] at kk
    simp -implicitDefEqProofs [relV, h1]
    exact kk _
theorem inB_nat {n : Nat} {a : Int} (h : inB n a = true) : ∃ i : Nat, a = i ∧ i < n := by
  simp only [inB, Bool.and_eq_true, decide_eq_true_eq] at h
  exact ⟨a.toNat, by omega, by omega⟩
theorem inB_of {n a : Nat} (h : a < n) : inB n a = true := by simp [inB]; omega
def RowsOk (r : Nat → Nat) : Prop := ∀ i, r i < 2 ^ 64
def relB (n : Nat) (r : Nat → Nat) (a b : Int) : Bool := inB n a && hasB (r a.toNat) b
theorem Has_rel (g : RelG G) {n : Nat} {r : Nat → Nat} {a b : Int} (hn : n ≤ 64) (hr : RowsOk r) (k : ∀ h1, Ext h h1 → R (.bool (relB n r a b)) h1) : WC G 139 [relV n r, .int .i64 a, .int .i64 b] h R := by
  refine WC_enter g.g139 rfl ?_
  show W G c139_body _ _ (retK [.tmp 6] R)
  unfold c139_body c139_0 c139_1
  simp -implicitDefEqProofs [relV, relC_take]
  refine in_rel g fun h1 x => ?_
  have hx : h1.get h.next = .cells (relC n r) false false := by rw [x.get _ (by simp)]; simp
  have x2 : Ext h h1 := ((Ext.refl h).alloc _).trans x
  cases e : inB n a with
  | false =>
    simp -implicitDefEqProofs
    have := k _ x2
    simpa [relB, e] using this
  | true =>
    obtain ⟨i, rfl, hi⟩ := inB_nat e
    have f1 : (i : Int) < 64 := by omega
    simp -implicitDefEqProofs [hx, f1, relC_get (show i < 64 by omega)]
    refine Has_spec g.toSetG (hr _) ?_
    simp -implicitDefEqProofs
    have := k _ x2
    simpa [relB, e] using this
def addR (n : Nat) (r : Nat → Nat) (a b : Int) : Nat → Nat := if inB n a && inB n b then updR r a.toNat (withN (r a.toNat) b) else r
theorem addR_ok {n : Nat} {r : Nat → Nat} {a b : Int} (hr : RowsOk r) : RowsOk (addR n r a b) := by
  unfold addR; split
  · intro i; unfold updR; split
    · exact withN_lt (hr _)
    · exact hr _
  · exact hr
theorem Add_rel (g : RelG G) {n : Nat} {r : Nat → Nat} {a b : Int} (hn : n ≤ 64) (hr : RowsOk r) (k : ∀ h1, Ext h h1 → R (relV n (addR n r a b)) h1) : WC G 56 [relV n r, .int .i64 a, .int .i64 b] h R := by
  refine WC_enter g.g56 rfl ?_
  show W G c56_body _ _ (retK [.cellN 6 65] R)
  unfold c56_body c56_0 c56_1
  simp -implicitDefEqProofs [relV, relC_take]
  refine in_rel g fun h1 x => ?_
  have hx : h1.get h.next = .cells (relC n r) false false := by rw [x.get _ (by simp)]; simp
  have hz : h1.get (h.next + 1) = .cells zrel false false := by rw [x.get _ (by simp)]; simp
  have hq : h.next + 2 ≤ h1.next := x.next
  have x2 : Ext h h1 := (((Ext.refl h).alloc _).alloc _).trans x
  unfold c56_2 c56_3
  cases e : inB n a with
  | false =>
    have ea : addR n r a b = r := by simp [addR, e]
    rw [ea] at k
    simp -implicitDefEqProofs [hx, hz, relC_take, zrel_length, zrel_splice]
    exact k _ (x2.put (by omega) _)
  | true =>
    simp -implicitDefEqProofs [hx, relC_take]
    refine in_rel g fun h2 y => ?_
    have hx' : h2.get h.next = .cells (relC n r) false false := by rw [y.get _ (by omega)]; exact hx
    have hz' : h2.get (h.next + 1) = .cells zrel false false := by rw [y.get _ (by omega)]; exact hz
    have y2 : Ext h h2 := x2.trans y
    cases e2 : inB n b with
    | false =>
      have ea : addR n r a b = r := by simp [addR, e2]
      rw [ea] at k
      simp -implicitDefEqProofs [hx', hz', relC_take, zrel_length, zrel_splice]
      exact k _ (y2.put (by omega) _)
    | true =>
      obtain ⟨i, rfl, hi⟩ := inB_nat e
      have f1 : (i : Int) < 64 := by omega
      have ea : addR n r i b = updR r i (withN (r i) b) := by simp [addR, e, e2]
      rw [ea] at k
      simp -implicitDefEqProofs [hx', hz', f1, relC_get (show i < 64 by omega)]
      refine With_spec g.toSetG (hr _) ?_
      simp -implicitDefEqProofs [hx', hz', f1, relC_set, relC_take, zrel_length, zrel_splice]
      exact ⟨by omega, k _ ((y2.put (Nat.le_refl _) _).put (by omega) _)⟩
def cloI (k : Nat) (r : Nat → Nat) (i : Nat) : Nat → Nat := if (r i).testBit k then updR r i (r i ||| r k) else r
def cloK (n : Nat) (r : Nat → Nat) (k : Nat) : Nat → Nat := (List.range n).foldl (cloI k) r
def clo (n : Nat) (r : Nat → Nat) : Nat → Nat := (List.range n).foldl (cloK n) r
theorem cloI_ok {k : Nat} {r : Nat → Nat} {i : Nat} (hr : RowsOk r) : RowsOk (cloI k r i) := by
  unfold cloI; split
  · intro j; unfold updR; split
    · exact Nat.or_lt_two_pow (hr _) (hr _)
    · exact hr _
  · exact hr
theorem foldl_ok {α : Type} {f : (Nat → Nat) → α → (Nat → Nat)} (hf : ∀ r a, RowsOk r → RowsOk (f r a)) : ∀ {l : List α} {r : Nat → Nat}, RowsOk r → RowsOk (l.foldl f r)
  | [], _, h => h
  | _ :: l, _, h => foldl_ok hf (l := l) (hf _ _ h)
theorem cloK_ok {n k : Nat} {r : Nat → Nat} (hr : RowsOk r) : RowsOk (cloK n r k) := foldl_ok (fun _ _ h => cloI_ok h) hr
theorem clo_ok {n : Nat} {r : Nat → Nat} (hr : RowsOk r) : RowsOk (clo n r) := foldl_ok (fun _ _ h => cloK_ok h) hr
theorem foldl_range {α : Type} {f : α → Nat → α} {a : α} {n : Nat} : (List.range (n + 1)).foldl f a = f ((List.range n).foldl f a) n := by
  rw [List.range_succ, List.foldl_append]; rfl
structure CloM (h hh : AH) (n : Nat) (r : Nat → Nat) : Prop where
  ext : Ext h hh
  next : hh.next = h.next + 2
  rel : hh.get h.next = .cells (relC n r) false false
  out : hh.get (h.next + 1) = .cells zrel false false
def inv57b (h : AH) (n : Nat) (r : Nat → Nat) (kk : Nat) (m : Nat) (F : Fr) (hh : AH) : Prop :=
  ∃ i, m = n - i ∧ i ≤ n ∧ CloM h hh n ((List.range i).foldl (cloI kk) ((List.range kk).foldl (cloK n) r)) ∧
    F = [(1, .pointer (some ⟨h.next, 0, none⟩)), (2, .pointer (some ⟨h.next + 1, 0, none⟩)), (3, .int .i64 kk), (6, .int .i64 n), (7, .int .i64 kk), (11, .int .i64 n), (12, .int .i64 i)]
def inv57a (h : AH) (n : Nat) (r : Nat → Nat) (m : Nat) (F : Fr) (hh : AH) : Prop :=
  ∃ kk, m = n - kk ∧ kk ≤ n ∧ CloM h hh n ((List.range kk).foldl (cloK n) r) ∧
    F = [(1, .pointer (some ⟨h.next, 0, none⟩)), (2, .pointer (some ⟨h.next + 1, 0, none⟩)), (6, .int .i64 n), (7, .int .i64 kk)]
theorem Closure_rel (g : RelG G) {n : Nat} {r : Nat → Nat} (hn : n ≤ 64) (hr : RowsOk r) (k : ∀ h1, Ext h h1 → R (relV n (clo n r)) h1) : WC G 57 [relV n r] h R := by
  refine WC_enter g.g57 rfl ?_
  show W G c57_body _ _ (retK [.cellN 2 65] R)
  unfold c57_body c57_0 c57_1
  simp -implicitDefEqProofs [relV]
  refine W_loop (inv57a h n r) n ⟨0, rfl, Nat.zero_le _, ⟨((Ext.refl h).alloc _).alloc _, rfl, by simp, by simp⟩, rfl⟩ ?_
  rintro m F hh ⟨kk, rfl, hk, M, rfl⟩
  unfold c57_12 c57_2 c57_3 c57_4 c57_13
  by_cases h1 : kk < n
  · simp -implicitDefEqProofs [h1, M.rel]
    refine W_loop (inv57b h n r kk) n ⟨0, rfl, Nat.zero_le _, M, rfl⟩ ?_
    rintro m F hh2 ⟨i, rfl, hi, M2, rfl⟩
    unfold c57_10 c57_5 c57_6 c57_7 c57_9
    have hrr : RowsOk ((List.range i).foldl (cloI kk) ((List.range kk).foldl (cloK n) r)) := foldl_ok (fun _ _ h => cloI_ok h) (foldl_ok (fun _ _ h => cloK_ok h) hr)
    have e0 := @foldl_range _ (cloI kk) ((List.range kk).foldl (cloK n) r) i
    revert M2 hrr e0
    generalize hq : (List.range i).foldl (cloI kk) ((List.range kk).foldl (cloK n) r) = q
    intro M2 hrr e0
    by_cases h2 : i < n
    · have f1 : (i : Int) < 64 := by omega
      have f2 : (kk : Int) < 64 := by omega
      have f3 : i < 64 := by omega
      have f4 : kk < 64 := by omega
      have hw : IntKind.i64.wrap ((i : Int) + 1) = (i : Int) + 1 := wrap64 (by omega)
      simp -implicitDefEqProofs [h2, M2.rel, f1, relC_get f3]
      refine Has_spec g.toSetG (hrr _) ?_
      have eb : hasB (q i) (kk : Int) = (q i).testBit kk := by unfold hasB; simp; omega
      rw [eb]
      cases e : (q i).testBit kk with
      | false =>
        simp -implicitDefEqProofs [hw]
        refine ⟨n - (i + 1), by omega, i + 1, rfl, h2, ?_, rfl⟩
        rw [e0, cloI, e]; exact M2
      | true =>
        unfold c57_8 c57_8b
        have f5 : 1 + i ≤ 64 := by omega
        have e5 : splice (relC n q) (1 + i) [stW (q i ||| q kk)] = relC n (updR q i (q i ||| q kk)) := by rw [splice_one (by simp; omega), relC_set]
        simp -implicitDefEqProofs [hw, M2.rel, f1, f2, relC_get f3, relC_get f4, ior_nat (hrr i) (hrr kk), f5, e5]
        refine ⟨n - (i + 1), by omega, i + 1, rfl, h2, ⟨M2.ext.put (Nat.le_refl _) _, M2.next, ?_, by simp [M2.out]⟩, rfl⟩
        rw [e0, cloI, e]
        simp
    · have hin : i = n := by omega
      subst hin
      have hw : IntKind.i64.wrap ((kk : Int) + 1) = (kk : Int) + 1 := wrap64 (by omega)
      unfold c57_11
      simp -implicitDefEqProofs [hw]
      refine ⟨i - (kk + 1), by omega, kk + 1, rfl, h1, ?_, rfl⟩
      rw [foldl_range, cloK, hq]
      exact M2
  · have hin : kk = n := by omega
    subst hin
    simp -implicitDefEqProofs [M.rel, M.out, relC_take, zrel_length, zrel_splice]
    exact k _ (M.ext.put (by omega) _)
theorem SlV.row {α : Type} {f : α → List Value} {k : Nat} (hf : ∀ x, (f x).length = k) {l : List α} {v : Value} (s : SlV k h l.length (l.flatMap f) v) {i : Nat} (hi : i < l.length) :
    ∃ b o sp c c0 g ro, v = .slice (some ⟨b, o, sp⟩) l.length c ∧ b < h.next ∧ h.get b = .cells c0 g ro ∧ o + i * k + k ≤ c0.length ∧ (c0.drop (o + i * k)).take k = f l[i] ∧ ∀ j, j < k → c0[o + i * k + j]? = (f l[i])[j]? := by
  obtain ⟨b, o, sp, c, c0, g, ro, e1, e2, e3, e4, e5, e6⟩ := s.cells hi
  refine ⟨b, o, sp, c, c0, g, ro, e1, e2, e3, e5, ?_, fun j hj => ?_⟩
  · rw [e6]
    have := fm_take_drop hf l i 1
    rw [Nat.one_mul] at this
    rw [this, List.drop_eq_getElem_cons hi, List.take_succ_cons, List.take_zero, List.flatMap_cons, List.flatMap_nil, List.append_nil]
  · rw [e4 j hj, fm_get hf l i j hj, List.getElem?_eq_getElem hi]; rfl
end Go.Jq
namespace Go.Jq
variable {G : Nat → SFunc} {h : AH} {R : Value → AH → Prop}
theorem SlG.app1 {k bytes : Nat} {h0 hh : AH} {lo n : Nat} {cs ec : List Value} {v : Value} {K : Value → AH → Prop} (s : SlG k hh lo n cs v) (he : ec.length = k) (hb : (n + 1) * bytes ≤ 70368744177664)
    (x : Ext h0 hh) (h1 : h0.next ≤ lo) (h2 : lo ≤ hh.next) (hK : ∀ v' h', SlG k h' lo (n + 1) (cs ++ ec) v' → Ext h0 h' → K v' h') :
    getvh (sappend (hh.alloc (.cells ec false false)) k bytes v (.slice (some ⟨hh.next, 0, none⟩) 1 1)) K := by
  have xa : Ext hh (hh.alloc (.cells ec false false)) := (Ext.refl hh).alloc _
  have hl : (hh.alloc (.cells ec false false)).load hh.next 0 (1 * k) = some ec := load_all (g := false) (ro := false) (by simp) (by omega)
  obtain ⟨h', e1, e2, e3, _, e4⟩ := (s.ext xa).append (m := 1) (m' := 1) (bytes := bytes) (sp := none) hl (by omega) hb (by simp; omega)
  rw [e1, getvh_some]
  refine hK _ _ e2 ⟨by have := x.next; simp at e3; omega, fun y hy => ?_⟩
  rw [e4 y (by omega), xa.get y (by have := x.next; omega), x.get y hy]
theorem SlG.app2 {k bytes : Nat} {h0 hh : AH} {lo n : Nat} {cs ec : List Value} {v : Value} {K : Value → AH → Prop} (s : SlG k hh lo n cs v) (he : ec.length = k) (hb : (n + 1) * bytes ≤ 70368744177664)
    (x : Ext h0 hh) (h1 : h0.next ≤ lo) (h2 : lo ≤ hh.next)
    (hK : ∀ v' h', SlG k h' lo (n + 1) (cs ++ ec) v' → Ext h0 h' → hh.next ≤ h'.next → (∀ y, y < hh.next → (∀ n', v ≠ .slice (some ⟨y, 0, some k⟩) n' n') → h'.get y = hh.get y) → (∀ y, y < hh.next → ∀ n', v' ≠ .slice (some ⟨y, 0, some k⟩) n' n') → K v' h') :
    getvh (sappend (hh.alloc (.cells ec false false)) k bytes v (.slice (some ⟨hh.next, 0, none⟩) 1 1)) K := by
  have xa : Ext hh (hh.alloc (.cells ec false false)) := (Ext.refl hh).alloc _
  have hl : (hh.alloc (.cells ec false false)).load hh.next 0 (1 * k) = some ec := load_all (g := false) (ro := false) (by simp) (by omega)
  obtain ⟨h', e1, e2, e3, e5, e4⟩ := (s.ext xa).append (m := 1) (m' := 1) (bytes := bytes) (sp := none) hl (by omega) hb (by simp; omega)
  rw [e1, getvh_some]
  refine hK _ _ e2 ⟨by have := x.next; simp at e3; omega, fun y hy => ?_⟩ (by simp at e3; omega) (fun y hy hv => ?_) (fun y hy n' hv => ?_)
  · rw [e4 y (by omega), xa.get y (by have := x.next; omega), x.get y hy]
  · rw [e5 y (by simp; omega) hv, xa.get y hy]
  · simp at hv <;> omega
theorem SlG.not_at {k : Nat} {h : AH} {lo n : Nat} {cs : List Value} {v : Value} (s : SlG k h lo n cs v) {y : Nat} (hy : h.next ≤ y) : ∀ n', v ≠ .slice (some ⟨y, 0, some k⟩) n' n' := by
  intro n' e
  rcases s.2 with ⟨_, rfl⟩ | ⟨b, h1, h2, h3, rfl⟩
  · simp at e
  · simp at e <;> omega
end Go.Jq
