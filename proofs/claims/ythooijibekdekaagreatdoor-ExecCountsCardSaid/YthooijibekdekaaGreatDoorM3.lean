/- Lists in pieces of one size; blocks, read and written. -/
import Derived.Test.YthooijibekdekaaGreatDoorM2
import Derived.Test.YthooijibekdekaaGreatDoorA
import Derived.Test.YthooijibekdekaaGreatDoorR
set_option linter.unusedSimpArgs false
set_option linter.unusedVariables false
namespace Go.Jq
section
variable {α β : Type} {f : α → List β} {k : Nat}
theorem fm_length (hf : ∀ x, (f x).length = k) (l : List α) : (l.flatMap f).length = l.length * k := by
  induction l with
  | nil => simp
  | cons a l ih => simp [ih, hf, Nat.succ_mul, Nat.add_comm]
theorem fm_take (hf : ∀ x, (f x).length = k) (l : List α) (i : Nat) : (l.flatMap f).take (i * k) = (l.take i).flatMap f := by
  induction l generalizing i with
  | nil => simp
  | cons a l ih =>
    cases i with
    | zero => simp
    | succ i =>
      rw [List.flatMap_cons, List.take_append, List.take_of_length_le (by rw [hf, Nat.succ_mul]; omega), hf, List.take_succ_cons, List.flatMap_cons, ← ih, Nat.succ_mul, Nat.add_sub_cancel]
theorem fm_drop (hf : ∀ x, (f x).length = k) (l : List α) (i : Nat) : (l.flatMap f).drop (i * k) = (l.drop i).flatMap f := by
  induction l generalizing i with
  | nil => simp
  | cons a l ih =>
    cases i with
    | zero => simp
    | succ i =>
      rw [List.flatMap_cons, List.drop_append, List.drop_of_length_le (by rw [hf, Nat.succ_mul]; omega), hf, List.drop_succ_cons, ← ih, Nat.succ_mul, Nat.add_sub_cancel, List.nil_append]
theorem fm_get (hf : ∀ x, (f x).length = k) (l : List α) (i j : Nat) (hj : j < k) : (l.flatMap f)[i * k + j]? = (l[i]?).bind fun x => (f x)[j]? := by
  have h1 : (l.flatMap f)[i * k + j]? = ((l.flatMap f).drop (i * k))[j]? := by rw [List.getElem?_drop]
  rw [h1, fm_drop hf]
  cases hd : l.drop i with
  | nil =>
    have : l[i]? = none := by rw [List.getElem?_eq_none_iff]; exact List.drop_eq_nil_iff.1 hd
    simp [this]
  | cons a r =>
    have : l[i]? = some a := by
      have := congrArg (·[0]?) hd
      simpa using this
    rw [this, List.flatMap_cons, List.getElem?_append_left (by rw [hf]; exact hj)]
    rfl
theorem fm_take_drop (hf : ∀ x, (f x).length = k) (l : List α) (i n : Nat) : ((l.flatMap f).drop (i * k)).take (n * k) = ((l.drop i).take n).flatMap f := by
  rw [fm_drop hf, fm_take hf]
end
theorem fm_splice {α : Type} {f : α → List Value} {k : Nat} (hf : ∀ x, (f x).length = k) (l r : List α) (i : Nat) :
    splice (l.flatMap f) (i * k) (r.flatMap f) = (l.take i ++ (r ++ l.drop (i + r.length))).flatMap f := by
  unfold splice
  rw [fm_take hf, fm_length hf, ← Nat.add_mul, fm_drop hf, List.flatMap_append, List.flatMap_append]
theorem splice_cons {a : Value} {c vs : List Value} {o : Nat} : splice (a :: c) (o + 1) vs = a :: splice c o vs := by
  unfold splice
  simp [Nat.add_right_comm o 1]
theorem splice_all {c vs : List Value} (h : c.length = vs.length) : splice c 0 vs = vs := by
  unfold splice
  simp [← h]
theorem splice_len {c vs : List Value} {o : Nat} (h : o + vs.length ≤ c.length) : (splice c o vs).length = c.length := by
  unfold splice
  simp; omega
theorem splice_one {c : List Value} {o : Nat} {v : Value} (h : o < c.length) : splice c o [v] = c.set o v := by
  unfold splice
  rw [List.set_eq_take_append_cons_drop, if_pos h]
  simp
structure Ext (h h1 : AH) : Prop where
  next : h.next ≤ h1.next
  get : ∀ b, b < h.next → h1.get b = h.get b
theorem Ext.refl (h : AH) : Ext h h := ⟨Nat.le_refl _, fun _ _ => rfl⟩
theorem Ext.trans {a b c : AH} (x : Ext a b) (y : Ext b c) : Ext a c := ⟨Nat.le_trans x.next y.next, fun i hi => by rw [y.get i (Nat.lt_of_lt_of_le hi x.next), x.get i hi]⟩
theorem Ext.alloc {a b : AH} (x : Ext a b) (o : ABlk) : Ext a (b.alloc o) := ⟨Nat.le_trans x.next (Nat.le_succ _), fun i hi => by
  rw [AH.alloc_get, if_neg (by have := x.next; omega), x.get i hi]⟩
theorem Ext.put {a b : AH} (x : Ext a b) {i : Nat} (hi : a.next ≤ i) (o : ABlk) : Ext a (b.put i o) := ⟨x.next, fun j hj => by
  rw [AH.put_get, if_neg (by omega), x.get j hj]⟩
section
variable {h : AH} {b o n : Nat} {c vs : List Value} {g ro : Bool} {v : Value}
theorem load_of (hb : h.get b = .cells c g ro) (hn : o + n ≤ c.length) : h.load b o n = some ((c.drop o).take n) := by
  simp [AH.load, hb, hn]
theorem load_all (hb : h.get b = .cells c g ro) (hn : c.length = n) : h.load b 0 n = some c := by
  rw [load_of hb (by omega)]; simp [← hn]
theorem load1_of (hb : h.get b = .cells c g ro) : h.load1 b o = c[o]? := by
  simp [AH.load1, hb]
theorem store_of (hb : h.get b = .cells c g false) (hn : o + vs.length ≤ c.length) : h.store b o vs = some (h.put b (.cells (splice c o vs) g false)) := by
  simp [AH.store, hb, hn]
theorem store_all (hb : h.get b = .cells c g false) (hn : c.length = vs.length) : h.store b 0 vs = some (h.put b (.cells vs g false)) := by
  rw [store_of hb (by omega), splice_all hn]
theorem store1_of (hb : h.get b = .cells c g false) (hn : o < c.length) : h.store1 b o v = some (h.put b (.cells (c.set o v) g false)) := by
  simp [AH.store1, hb, hn]
end
theorem sbounds_n {len cap : Nat} : sbounds len cap none none none = some (0, len, cap) := rfl
theorem sbounds_l {len cap : Nat} {k : IntKind} {i : Int} : sbounds len cap (some (.int k i)) none none = if 0 ≤ i ∧ i ≤ len then some (i.toNat, len, cap) else none := by
  unfold sbounds sbound
  dsimp only
  by_cases h : 0 ≤ i ∧ i ≤ (len : Int)
  · rw [if_pos h, if_pos h]
  · rw [if_neg h, if_neg h]
theorem sbounds_h {len cap : Nat} {k : IntKind} {i : Int} : sbounds len cap none (some (.int k i)) none = if 0 ≤ i ∧ i ≤ cap then some (0, i.toNat, cap) else none := by
  unfold sbounds sbound
  dsimp only
  by_cases h : 0 ≤ i ∧ i ≤ (cap : Int)
  · rw [if_pos h, if_pos h]
  · rw [if_neg h, if_neg h]
theorem sbounds_lh {len cap : Nat} {k k' : IntKind} {i j : Int} : sbounds len cap (some (.int k i)) (some (.int k' j)) none = if 0 ≤ i ∧ i ≤ j ∧ j ≤ cap then some (i.toNat, j.toNat, cap) else none := by
  unfold sbounds sbound
  dsimp only
  by_cases h : 0 ≤ j ∧ j ≤ (cap : Int)
  · rw [if_pos h]
    dsimp only
    by_cases h2 : 0 ≤ i ∧ i ≤ ((j.toNat : Nat) : Int)
    · rw [if_pos h2, if_pos (by omega)]
    · rw [if_neg h2, if_neg (by omega)]
  · rw [if_neg h, if_neg (by omega)]
attribute [simp] Fr.get Fr.set Fr.undo Fr.del Fr.keep Fr.put Fr.unput Fr.val Fr.from wop pickB boxB buildB mksliceB load1B loadNB one1 store1B storeNB nilchkB binB eqBB isnilB unB convB fldB idxSB idxAB idxV1B idxVNB idxTB part1B partNB extrB lenSB lenTB mmB smm
  vals vparts optVal ptr vcells sbin sun oneOf AH.load AH.load1 AH.store AH.store1 AH.alloc_get AH.alloc_next AH.put_get AH.put_next sbounds_n sbounds_l sbounds_h sbounds_lh slstrB slslB slarrB eqNB cellsEq cellEq snil mkfuncB callvB mkrowB lenMB appendB copyB stsOf stsOk crossOk stOf St.fits St.put St.apart splice_cons bind_ite map_ite sfill
@[simp] theorem splice_nil {c : List Value} {o : Nat} : splice c o [] = c := by simp [splice]
@[simp] theorem splice_zero {a v : Value} {c vs : List Value} : splice (a :: c) 0 (v :: vs) = v :: splice c 0 vs := by simp [splice, Nat.add_comm]
@[simp] theorem zi_length {n : Nat} : (zi n).length = n := by simp [zi]
@[simp] theorem int_beq (a b : Int) : (a == b) = decide (a = b) := by by_cases h : a = b <;> simp [h]
@[simp] theorem int_bne (a b : Int) : (a != b) = !decide (a = b) := by by_cases h : a = b <;> simp [h]
section
variable {F : Fr} {h : AH} {r : SRes} {l : List SRes} {t n : Nat}
@[simp] theorem resultsOf_nil : resultsOf F h [] = some [] := rfl
@[simp] theorem resultsOf_cons : resultsOf F h (r :: l) = (resultOf F h r).bind fun v => (resultsOf F h l).map fun vs => v :: vs := by
  simp only [resultsOf]
  cases resultOf F h r <;> cases resultsOf F h l <;> rfl
@[simp] theorem resultOf_tmp : resultOf F h (.tmp t) = F.get t := rfl
@[simp] theorem resultOf_cell1 : resultOf F h (.cell1 t) = ((F.get t).bind ptr).bind fun p => h.load1 p.1 p.2 := by
  simp only [resultOf]; cases (F.get t).bind ptr <;> rfl
@[simp] theorem resultOf_cellN : resultOf F h (.cellN t n) = ((F.get t).bind ptr).bind fun p => (h.load p.1 p.2 n).map fun cs => .agg cs.toArray := by
  simp only [resultOf]; cases (F.get t).bind ptr with
  | none => rfl
  | some p =>
    simp only [Option.bind_some]
    generalize h.load p.1 p.2 n = q
    cases q <;> rfl
@[simp] theorem getr_ite {c : Prop} [Decidable c] {o : Option (List Value)} {K : Value → Prop} : getr (if c then o else none) K = (c ∧ getr o K) := by
  by_cases hc : c <;> simp [hc, getr]
end
theorem splice_two {a b : Value} {c vs : List Value} {k : Nat} : splice (a :: b :: c) (2 + k) vs = a :: b :: splice c k vs := by
  rw [Nat.add_comm 2 k]; simp [splice_cons, show k + 2 = k + 1 + 1 from rfl]
theorem get_two {a b : Value} {c : List Value} {k : Nat} : (a :: b :: c)[2 + k]? = c[k]? := by
  rw [Nat.add_comm 2 k]; simp
theorem get_two1 {a b : Value} {c : List Value} {k j : Nat} : (a :: b :: c)[2 + k + j]? = c[k + j]? := by
  rw [Nat.add_assoc, get_two]
def iand (k : IntKind) (a b : Int) : Int := k.wrap (BitVec.ofInt k.bits a &&& BitVec.ofInt k.bits b).toNat
def ior (k : IntKind) (a b : Int) : Int := k.wrap (BitVec.ofInt k.bits a ||| BitVec.ofInt k.bits b).toNat
def ixor (k : IntKind) (a b : Int) : Int := k.wrap (BitVec.ofInt k.bits a ^^^ BitVec.ofInt k.bits b).toNat
def iandn (k : IntKind) (a b : Int) : Int := k.wrap (BitVec.ofInt k.bits a &&& ~~~(BitVec.ofInt k.bits b)).toNat
section
variable {k : IntKind} {a b : Int}
@[simp] theorem sint_add : sint .add k a b = some (.int k (k.wrap (a + b))) := rfl
@[simp] theorem sint_sub : sint .sub k a b = some (.int k (k.wrap (a - b))) := rfl
@[simp] theorem sint_mul : sint .mul k a b = some (.int k (k.wrap (a * b))) := rfl
@[simp] theorem sint_quo : sint .quo k a b = if b = 0 then none else some (.int k (k.wrap (a.tdiv b))) := rfl
@[simp] theorem sint_rem : sint .rem k a b = if b = 0 then none else some (.int k (a.tmod b)) := rfl
@[simp] theorem sint_and : sint .and k a b = some (.int k (iand k a b)) := rfl
@[simp] theorem sint_or : sint .or k a b = some (.int k (ior k a b)) := rfl
@[simp] theorem sint_xor : sint .xor k a b = some (.int k (ixor k a b)) := rfl
@[simp] theorem sint_andNot : sint .andNot k a b = some (.int k (iandn k a b)) := rfl
@[simp] theorem sint_eql : sint .eql k a b = some (.bool (decide (a = b))) := by simp [sint]
@[simp] theorem sint_neq : sint .neq k a b = some (.bool (!decide (a = b))) := by simp [sint]
@[simp] theorem sint_lss : sint .lss k a b = some (.bool (decide (a < b))) := rfl
@[simp] theorem sint_leq : sint .leq k a b = some (.bool (decide (a ≤ b))) := rfl
@[simp] theorem sint_gtr : sint .gtr k a b = some (.bool (decide (b < a))) := rfl
@[simp] theorem sint_geq : sint .geq k a b = some (.bool (decide (b ≤ a))) := rfl
end
section
variable {n : Nat}
@[simp] theorem s11 : n + 1 + 1 = n + 2 := rfl
@[simp] theorem s21 : n + 2 + 1 = n + 3 := rfl
@[simp] theorem s31 : n + 3 + 1 = n + 4 := rfl
@[simp] theorem s41 : n + 4 + 1 = n + 5 := rfl
@[simp] theorem s51 : n + 5 + 1 = n + 6 := rfl
@[simp] theorem s61 : n + 6 + 1 = n + 7 := rfl
@[simp] theorem s71 : n + 7 + 1 = n + 8 := rfl
@[simp] theorem s81 : n + 8 + 1 = n + 9 := rfl
end
theorem scopy_ss {h : AH} {size len c n c' : Nat} {a a' : Addr} : scopy h size (.slice (some a) len c) (.slice (some a') n c') =
    (h.load a'.block a'.off (min n len * size)).bind fun new => if min n len = 0 then some (.int .i64 0, h) else (h.store a.block a.off new).map fun h' => (.int .i64 (min n len : Nat), h') := by
  simp only [scopy, lenOf, firstOf]
  generalize h.load a'.block a'.off (min n len * size) = q
  cases q with
  | none => rfl
  | some l =>
    simp only [Option.bind_some]
    by_cases h0 : min n len = 0
    · rw [if_pos h0, if_pos h0]
    · rw [if_neg h0, if_neg h0]
      generalize h.store a.block a.off l = q
      cases q <;> rfl
theorem wrap64 {n : Int} (h : -9223372036854775808 ≤ n ∧ n ≤ 9223372036854775807) : IntKind.i64.wrap n = n := by
  simp only [IntKind.wrap, IntKind.bits, IntKind.signed]
  simp
  split <;> omega
end Go.Jq
namespace Go.Jq
def SlG (k : Nat) (h : AH) (lo n : Nat) (cs : List Value) (v : Value) : Prop :=
  cs.length = n * k ∧ ((n = 0 ∧ v = .slice none 0 0) ∨ ∃ b, lo ≤ b ∧ b < h.next ∧ h.get b = .cells cs true false ∧ v = .slice (some ⟨b, 0, some k⟩) n n)
theorem SlG.nil {k : Nat} {h : AH} {lo : Nat} : SlG k h lo 0 [] (.slice none 0 0) := ⟨by simp, .inl ⟨rfl, rfl⟩⟩
theorem SlG.len {k : Nat} {h : AH} {lo n : Nat} {cs : List Value} {v : Value} (s : SlG k h lo n cs v) : ∃ a c, v = .slice a n c := by
  rcases s.2 with ⟨rfl, rfl⟩ | ⟨b, _, _, _, rfl⟩
  · exact ⟨_, _, rfl⟩
  · exact ⟨_, _, rfl⟩
theorem SlG.ext {k : Nat} {h h1 : AH} {lo n : Nat} {cs : List Value} {v : Value} (s : SlG k h lo n cs v) (x : Ext h h1) : SlG k h1 lo n cs v := by
  obtain ⟨s1, s2⟩ := s
  refine ⟨s1, ?_⟩
  rcases s2 with ⟨rfl, rfl⟩ | ⟨b, h1, h2, h3, rfl⟩
  · exact .inl ⟨rfl, rfl⟩
  · exact .inr ⟨b, h1, Nat.lt_of_lt_of_le h2 x.next, by rw [x.get b h2]; exact h3, rfl⟩
theorem SlG.low {k : Nat} {h : AH} {lo lo' n : Nat} {cs : List Value} {v : Value} (s : SlG k h lo n cs v) (hl : lo' ≤ lo) : SlG k h lo' n cs v := by
  obtain ⟨s1, s2⟩ := s
  refine ⟨s1, ?_⟩
  rcases s2 with ⟨rfl, rfl⟩ | ⟨b, h1, h2, h3, rfl⟩
  · exact .inl ⟨rfl, rfl⟩
  · exact .inr ⟨b, Nat.le_trans hl h1, h2, h3, rfl⟩
theorem SlG.append {k bytes m m' t o : Nat} {sp : Option Nat} {h : AH} {lo n : Nat} {cs ec : List Value} {v : Value} (s : SlG k h lo n cs v) (he : h.load t o (m * k) = some ec) (hm : 0 < m) (hb : (n + m) * bytes ≤ 70368744177664) (hlo : lo ≤ h.next) :
    ∃ h', sappend h k bytes v (.slice (some ⟨t, o, sp⟩) m m') = some (.slice (some ⟨h.next, 0, some k⟩) (n + m) (n + m), h') ∧ SlG k h' lo (n + m) (cs ++ ec) (.slice (some ⟨h.next, 0, some k⟩) (n + m) (n + m)) ∧
      h'.next = h.next + 1 ∧ (∀ x, x < h.next → (∀ n' , v ≠ .slice (some ⟨x, 0, some k⟩) n' n') → h'.get x = h.get x) ∧ (∀ x, x < lo → h'.get x = h.get x) := by
  have hel : ec.length = m * k := by
    unfold AH.load at he
    split at he
    · split at he
      · simp only [Option.some.injEq] at he; subst he; simp; omega
      · simp at he
    · simp at he
  obtain ⟨s1, s2⟩ := s
  have hgt : ¬ (n + m) * bytes > 70368744177664 := by omega
  have hm0 : m ≠ 0 := by omega
  rcases s2 with ⟨rfl, rfl⟩ | ⟨b, h1, h2, h3, rfl⟩
  · have hc : cs = [] := by apply List.eq_nil_of_length_eq_zero; simpa using s1
    subst hc
    refine ⟨h.alloc (.cells ec true false), ?_, ⟨by simp [hel], .inr ⟨h.next, hlo, Nat.lt_succ_self _, by simp, rfl⟩⟩, rfl, ?_, ?_⟩
    · simp only [sappend, lenOf, firstOf, he, Nat.zero_add] at hgt ⊢
      simp [hgt, hm0]
    · intro x hx _; simp; omega
    · intro x hx; simp; omega
  · refine ⟨(h.put b .dead).alloc (.cells (cs ++ ec) true false), ?_, ⟨by simp [hel, s1, Nat.add_mul], .inr ⟨h.next, hlo, by simp, by simp, rfl⟩⟩, rfl, ?_, ?_⟩
    · have hld : h.load b (0 : Nat) (n * k) = some cs := load_all h3 (by omega)
      have hnc : ¬ (n + m ≤ n) := by omega
      simp only [sappend, lenOf, firstOf, he]
      rw [if_neg hgt, if_neg hnc, hld, h3]
      simp
    · intro x hx hne
      have : x ≠ b := by rintro rfl; exact hne n rfl
      simp [this]; omega
    · intro x hx
      have : x ≠ b := by omega
      simp [this]; omega
theorem iand_bound {a m : Int} (h0 : 0 ≤ m) (h1 : m ≤ 9223372036854775807) : 0 ≤ iand .i64 a m ∧ iand .i64 a m ≤ m := by
  have hb : (BitVec.ofInt IntKind.i64.bits a &&& BitVec.ofInt IntKind.i64.bits m).toNat ≤ m.toNat := by
    rw [BitVec.toNat_and]
    refine Nat.le_trans Nat.and_le_right ?_
    rw [BitVec.toNat_ofInt]
    have : (IntKind.i64.bits : Nat) = 64 := rfl
    rw [this]
    omega
  unfold iand
  rw [wrap64 (by omega)]
  omega
end Go.Jq
namespace Go.Jq
open Go.RowKit
abbrev Names := List (Nat × Nat)
def Names.φ (t : Names) (g : Nat) : FuncId := ((t.find? (·.1 == g)).map (·.2)).getD 0
def Names.ψ (t : Names) (f : FuncId) : Option Nat := (t.find? (·.2 == f)).map (·.1)
def Names.has (t : Names) (g : Nat) : Bool := (t.find? (·.1 == g)).isSome
def Names.ok (t : Names) : Bool := t.all fun x => t.find? (·.1 == x.1) == some x
theorem Names.back {t : Names} (h : t.ok = true) {f : FuncId} {g : Nat} (e : t.ψ f = some g) : t.φ g = f ∧ t.has g = true := by
  unfold Names.ψ at e
  rw [Option.map_eq_some_iff] at e
  obtain ⟨x, h1, rfl⟩ := e
  have hm := List.mem_of_find?_eq_some h1
  have hf := List.find?_some h1
  have hk := List.all_eq_true.1 h x hm
  have hk : t.find? (fun y => y.1 == x.1) = some x := eq_of_beq hk
  refine ⟨?_, ?_⟩
  · unfold Names.φ; rw [hk]; simpa using hf
  · unfold Names.has; rw [hk]; rfl
theorem Names.mem {t : Names} {g : Nat} (h : t.has g = true) : ∃ x ∈ t, x.1 = g ∧ t.φ g = x.2 := by
  unfold Names.has at h
  rw [Option.isSome_iff_exists] at h
  obtain ⟨x, hx⟩ := h
  have := List.find?_some hx
  exact ⟨x, List.mem_of_find?_eq_some hx, by simpa using this, by unfold Names.φ; rw [hx]; rfl⟩
structure Known (P : Program) (t : Names) (G : Nat → SFunc) : Prop where
  ok : t.ok = true
  calls : ∀ x ∈ t, ∀ (args : Array Value) (w : World), (callFunc x.2 args).run P w = .ok (.enter x.2 args) w
  code : ∀ x ∈ t, (∃ fn ls, P.funcs[x.2]? = some fn ∧ cFunc P t.ψ fn ls = some (G x.1)) ∨ ∃ n, (G x.1).body = .native n
def Known.ctx {P : Program} {t : Names} {G : Nat → SFunc} (k : Known P t G) (w : World) : Ctx :=
  { P, φ := t.φ, ψ := t.ψ, L := t.has, base := w.heap.size, w0 := w, back := fun _ _ e => Names.back k.ok e,
    calls := fun f hf args w => by
      obtain ⟨x, hx, _, e⟩ := Names.mem hf
      rw [e]; exact k.calls x hx args w }
theorem Known.tabN {P : Program} {t : Names} {G : Nat → SFunc} (k : Known P t G) (w : World) (hn : ∀ x ∈ t, ∀ n, (G x.1).body = .native n → NatOk (k.ctx w) n x.2) : Tab (k.ctx w) G := by
  intro f hf
  obtain ⟨x, hx, rfl, e⟩ := Names.mem (t := t) hf
  rcases k.code x hx with ⟨fn, ls, h1, h2⟩ | ⟨n, h1⟩
  · exact .inl ⟨fn, ls, by show P.funcs[t.φ x.1]? = _; rw [e]; exact h1, h2⟩
  · refine .inr ⟨n, h1, ?_⟩
    show NatOk _ _ (t.φ x.1)
    rw [e]; exact hn x hx n h1
def h00 : AH := ⟨0, fun _ => .dead⟩
theorem HR.start {C : Ctx} (hb : C.base = C.w0.heap.size) : HR C (fun _ => none) h00 C.w0 :=
  ⟨Below.refl C.base C.w0, Nat.le_of_eq hb, fun _ _ _ _ h => by simp at h, fun _ _ _ _ _ _ _ h => by simp at h, fun _ _ => rfl⟩
theorem law_true {C : Ctx} {G : Nat → SFunc} (tab : Tab C G) {f : Nat} (hL : C.L f = true) {args : List Value} {h : AH} (H : WC G f args h fun v _ => v = .bool true) {γ : Gm} {w : World} {args' : Array Value}
    (hh : HR C γ h w) (ha : FA2 (VR C γ) args args'.toList) : Calls C.P (C.φ f) args' w fun e w' => e = .returned (.bool true) ∧ Below C.base C.w0 w' := by
  obtain ⟨v, h1, r, rfl⟩ := H
  obtain ⟨_, s⟩ := sound tab r
  refine (s hL γ w args' hh ha).mono fun e w' hd => ?_
  obtain ⟨v', γ', rfl, _, z2, z3⟩ := hd
  exact ⟨by rw [z3.bool_inv], z2.below⟩
theorem Known.plain {P : Program} {t : Names} {G : Nat → SFunc} (k : Known P t G) {f : Nat} (w : World) (hn : ∀ x ∈ t, ∀ n, (G x.1).body = .native n → NatOk (k.ctx w) n x.2) (hf : t.has f = true) {args : List Value} (H : WC G f args h00 fun v _ => v = .bool true) (hp : args.all plain1 = true) :
    Calls P (t.φ f) args.toArray w fun e w' => e = .returned (.bool true) ∧ Below w.heap.size w w' :=
  law_true (C := k.ctx w) (k.tabN w hn) hf H (HR.start rfl) (by simpa using plains_VR hp)
end Go.Jq
namespace Go.Jq
def SlV (k : Nat) (h : AH) (n : Nat) (cs : List Value) (v : Value) : Prop :=
  cs.length = n * k ∧ ((n = 0 ∧ ∃ a c, v = .slice a 0 c) ∨ ∃ b o sp c c0 g ro, v = .slice (some ⟨b, o, sp⟩) n c ∧ b < h.next ∧ h.get b = .cells c0 g ro ∧ o + n * k ≤ c0.length ∧ (c0.drop o).take (n * k) = cs)
theorem SlV.ext {k : Nat} {h h1 : AH} {n : Nat} {cs : List Value} {v : Value} (s : SlV k h n cs v) (x : Ext h h1) : SlV k h1 n cs v := by
  obtain ⟨s1, s2⟩ := s
  refine ⟨s1, ?_⟩
  rcases s2 with s2 | ⟨b, o, sp, c, c0, g, ro, e1, e2, e3, e4, e5⟩
  · exact .inl s2
  · exact .inr ⟨b, o, sp, c, c0, g, ro, e1, Nat.lt_of_lt_of_le e2 x.next, by rw [x.get b e2]; exact e3, e4, e5⟩
theorem SlG.view {k : Nat} {h : AH} {lo n : Nat} {cs : List Value} {v : Value} (s : SlG k h lo n cs v) : SlV k h n cs v := by
  obtain ⟨s1, s2⟩ := s
  refine ⟨s1, ?_⟩
  rcases s2 with ⟨rfl, rfl⟩ | ⟨b, h1, h2, h3, rfl⟩
  · exact .inl ⟨rfl, _, _, rfl⟩
  · exact .inr ⟨b, 0, _, _, cs, true, false, rfl, h2, h3, by omega, by simp [← s1]⟩
theorem SlV.len {k : Nat} {h : AH} {n : Nat} {cs : List Value} {v : Value} (s : SlV k h n cs v) : ∃ a c, v = .slice a n c := by
  rcases s.2 with ⟨rfl, a, c, rfl⟩ | ⟨b, o, sp, c, c0, g, ro, rfl, _⟩
  · exact ⟨_, _, rfl⟩
  · exact ⟨_, _, rfl⟩
theorem SlV.at {k : Nat} {h : AH} {n : Nat} {cs : List Value} {v : Value} (s : SlV k h n cs v) {i : Nat} (hi : i < n) :
    ∃ b o sp c, v = .slice (some ⟨b, o, sp⟩) n c ∧ b < h.next ∧ (∀ h1 : AH, h1.get b = h.get b → ∀ j, j < k → h1.load1 b (o + i * k + j) = cs[i * k + j]?) ∧ (∀ h1 : AH, h1.get b = h.get b → h1.load b (o + i * k) k = some ((cs.drop (i * k)).take k)) := by
  rcases s.2 with ⟨rfl, _⟩ | ⟨b, o, sp, c, c0, g, ro, rfl, e2, e3, e4, e5⟩
  · omega
  · have hik : i * k + k ≤ n * k := by rw [← Nat.succ_mul]; exact Nat.mul_le_mul_right k hi
    refine ⟨b, o, sp, c, rfl, e2, fun h1 hg j hj => ?_, fun h1 hg => ?_⟩
    · rw [load1_of (hg.trans e3), ← e5, List.getElem?_take, if_pos (by omega), List.getElem?_drop, Nat.add_assoc]
    · rw [load_of (hg.trans e3) (by omega), ← e5, List.drop_take, List.take_take, List.drop_drop, Nat.min_eq_left (by omega)]
theorem SlV.cells {k : Nat} {h : AH} {n : Nat} {cs : List Value} {v : Value} (s : SlV k h n cs v) {i : Nat} (hi : i < n) :
    ∃ b o sp c c0 g ro, v = .slice (some ⟨b, o, sp⟩) n c ∧ b < h.next ∧ h.get b = .cells c0 g ro ∧ (∀ j, j < k → c0[o + i * k + j]? = cs[i * k + j]?) ∧ o + i * k + k ≤ c0.length ∧ (c0.drop (o + i * k)).take k = (cs.drop (i * k)).take k := by
  rcases s.2 with ⟨rfl, _⟩ | ⟨b, o, sp, c, c0, g, ro, rfl, e2, e3, e4, e5⟩
  · omega
  · have hik : i * k + k ≤ n * k := by rw [← Nat.succ_mul]; exact Nat.mul_le_mul_right k hi
    refine ⟨b, o, sp, c, c0, g, ro, rfl, e2, e3, fun j hj => ?_, by omega, ?_⟩
    · rw [← e5, List.getElem?_take, if_pos (by omega), List.getElem?_drop, Nat.add_assoc]
    · rw [← e5, List.drop_take, List.take_take, List.drop_drop, Nat.min_eq_left (by omega)]
theorem cellsEq_ints {n : Nat} : ∀ {l l' : List Int}, l.length = n → l'.length = n → cellsEq (List.replicate n 0) (l.map (.int .i64)) (l'.map (.int .i64)) = some (decide (l = l')) := by
  induction n with
  | zero =>
    intro l l' h1 h2
    rw [List.eq_nil_of_length_eq_zero h1, List.eq_nil_of_length_eq_zero h2]
    rfl
  | succ n ih =>
    intro l l' h1 h2
    cases l with
    | nil => simp at h1
    | cons a l =>
      cases l' with
      | nil => simp at h2
      | cons b l' =>
        have := ih (l := l) (l' := l') (by simpa using h1) (by simpa using h2)
        simp only [List.replicate_succ, List.map_cons, cellsEq, cellEq, this]
        by_cases hab : a = b <;> by_cases hl : l = l' <;> simp [hab, hl]
end Go.Jq
namespace Go.Jq
attribute [simp] wD_move wD_moveg wD_keep wD_keepg SOp.still SOp.quiet SOp.float putD Rec.same sop Rec.apart
end Go.Jq
namespace Go.Jq
section
variable {G : Nat → SFunc} {h : AH}
theorem carried {l : List (Nat × SFunc)} (hG : ∀ x ∈ l, G x.1 = x.2) {n f : Nat} {args : List EV} {v : EV} {T : TH} (H : (mach (triOf l) n).call f args ⟨0, .leaf⟩ = some (v, T)) {vs : List Value} (ha : args.map (den h.next) = vs) {R : Value → AH → Prop}
    (k : ∀ h1, Ext h h1 → R (den h.next v) h1) : WC G f vs h R := by
  have r := (mach_ok (G := G) (h := h) (fun f s e => hG _ (triOf_get e)) n).1 _ _ _ _ _ H
  rw [ha, denH_nil] at r
  exact ⟨_, _, r, k _ ⟨Nat.le_add_right _ _, fun b hb => denH_ext hb⟩⟩
def okTrue : Option (EV × TH) → Bool
  | some (.raw (.bool b), _) => b
  | _ => false
theorem carried_true {l : List (Nat × SFunc)} (hG : ∀ x ∈ l, G x.1 = x.2) {n f : Nat} {args : List EV} (H : okTrue ((mach (triOf l) n).call f args ⟨0, .leaf⟩) = true) {vs : List Value} (ha : args.map (den h.next) = vs) {R : Value → AH → Prop}
    (k : ∀ h1, Ext h h1 → R (.bool true) h1) : WC G f vs h R := by
  unfold okTrue at H
  split at H
  · rename_i b T e
    subst H
    exact carried hG e ha k
  · simp at H
end
theorem carriedR {G : Nat → SFunc} {h : AH} {L : List (Nat × (RFunc ⊕ Nat))} {Gt : Tri (RFunc ⊕ Nat)} (hGt : Gt = triOf L) (hf : ∀ x ∈ L, ∀ r, x.2 = .inl r → r.body.fine = true) (hG : ∀ x ∈ L, G x.1 = rconv x.2) {n f : Nat} {args : List EV} {v : EV} {T0 T : TH} (H : (machR Gt n).call f args T0 = some (v, T)) {vs : List Value} (ha : args.map (den h.next) = vs) {R : Value → AH → Prop}
    (k : R (den h.next v) (denH h T)) : WC G f vs (denH h T0) R := by
  subst hGt
  rw [(machR_eq hf n).1] at H
  have r := (mach_ok (G := G) (h := h) (fun f s e => by
    rw [triOf_map] at e
    simp only [Option.map_eq_some_iff] at e
    obtain ⟨u, e1, rfl⟩ := e
    exact hG _ (triOf_get e1)) n).1 _ _ _ _ _ H
  rw [ha] at r
  exact ⟨_, _, r, k⟩
theorem carriedR_true {G : Nat → SFunc} {h : AH} {L : List (Nat × (RFunc ⊕ Nat))} {Gt : Tri (RFunc ⊕ Nat)} (hGt : Gt = triOf L) (hf : (L.all fun x => match x.2 with | .inl r => r.body.fine | .inr _ => true) = true) (hG : ∀ x ∈ L, G x.1 = rconv x.2) {n f : Nat} {args : List EV}
    (H : okTrue ((machR Gt n).call f args ⟨0, .leaf⟩) = true) {vs : List Value} (ha : args.map (den h.next) = vs) {R : Value → AH → Prop} (k : ∀ h1, Ext h h1 → R (.bool true) h1) : WC G f vs h R := by
  have hf' : ∀ x ∈ L, ∀ r, x.2 = .inl r → r.body.fine = true := fun x hx r e => by
    have := List.all_eq_true.1 hf x hx
    rw [e] at this; exact this
  unfold okTrue at H
  split at H
  · rename_i b T e
    subst H
    have := carriedR (h := h) (R := R) hGt hf' hG e ha (k _ ⟨Nat.le_add_right _ _, fun b hb => denH_ext hb⟩)
    rw [denH_nil] at this
    exact this
  · simp at H
end Go.Jq
