/- Tests and programs: what they are in memory. -/
import Derived.Test.YtghlejnndjioiaaDoorH
import Derived.Test.YtghlejnndjioiaaDoorC
import Derived.Test.YtghlejnndjioiaaDoorM3
import Derived.Deep.Slices
import Derived.OpenShut
import Derived.ProofKit
set_option linter.unusedSimpArgs false
set_option linter.unusedVariables false
namespace Go.Jq
variable {h : AH} {R : Value → AH → Prop}
structure Ins where
  kind : Int
  reg : Int
  loc : Int
  areg : Int
  aval : Int
  op : Int
  breg : Int
  bval : Int
  n : Int
  deriving DecidableEq, Inhabited
def Ins.c (i : Ins) : List Value := [.int .i64 i.kind, .int .i64 i.reg, .int .i64 i.loc, .int .i64 i.areg, .int .i64 i.aval, .int .i64 i.op, .int .i64 i.breg, .int .i64 i.bval, .int .i64 i.n]
def Ins.v (i : Ins) : Value := .agg i.c.toArray
theorem Ins.c_length (i : Ins) : i.c.length = 9 := rfl
def i2c (x : Int × Int) : List Value := [.int .i64 x.1, .int .i64 x.2]
theorem i2c_length (x : Int × Int) : (i2c x).length = 2 := rfl
def intC (x : Int) : List Value := [.int .i64 x]
theorem intC_length (x : Int) : (intC x).length = 1 := rfl
def bytC (x : Int) : List Value := [.int .u8 x]
theorem bytC_length (x : Int) : (bytC x).length = 1 := rfl
def oneC (x : Value) : List Value := [x]
theorem oneC_length (x : Value) : (oneC x).length = 1 := rfl
theorem oneC_fm {l : List Value} : l.flatMap oneC = l := by
  induction l with
  | nil => rfl
  | cons a l ih => rw [List.flatMap_cons, ih]; rfl
inductive All2 {α β : Type} (p : α → β → Prop) : List α → List β → Prop where
  | nil : All2 p [] []
  | cons {a : α} {b : β} {l : List α} {m : List β} : p a b → All2 p l m → All2 p (a :: l) (b :: m)
theorem All2.len {α β : Type} {p : α → β → Prop} {l : List α} {m : List β} (h : All2 p l m) : l.length = m.length := by
  induction h with
  | nil => rfl
  | cons _ _ ih => simp [ih]
theorem All2.imp {α β : Type} {p q : α → β → Prop} {l : List α} {m : List β} (h : All2 p l m) (k : ∀ a b, a ∈ l → b ∈ m → p a b → q a b) : All2 q l m := by
  induction h with
  | nil => exact .nil
  | cons h1 _ ih => exact .cons (k _ _ List.mem_cons_self List.mem_cons_self h1) (ih fun a b ha hb => k a b (List.mem_cons_of_mem _ ha) (List.mem_cons_of_mem _ hb))
theorem All2.snoc {α β : Type} {p : α → β → Prop} {l : List α} {m : List β} {a : α} {b : β} (h : All2 p l m) (hp : p a b) : All2 p (l ++ [a]) (m ++ [b]) := by
  induction h with
  | nil => exact .cons hp .nil
  | cons h1 _ ih => exact .cons h1 ih
theorem All2.at {α β : Type} {p : α → β → Prop} {l : List α} {m : List β} (h : All2 p l m) {i : Nat} (hi : i < l.length) : ∃ hm : i < m.length, p l[i] m[i] := by
  induction h generalizing i with
  | nil => simp at hi
  | cons h1 _ ih => cases i with
    | zero => exact ⟨by simp, h1⟩
    | succ i => obtain ⟨a, b⟩ := ih (i := i) (by simpa using hi); exact ⟨by simpa using a, b⟩
theorem SlG.app3 {k bytes j : Nat} {hh : AH} {lo n : Nat} {cs ec : List Value} {v : Value} {K : Value → AH → Prop} (s : SlG k hh lo n cs v) (he : ec.length = j * k) (hj : 0 < j) (hb : (n + j) * bytes ≤ 70368744177664)
    (h2 : lo ≤ hh.next) (hK : ∀ v' h', SlG k h' lo (n + j) (cs ++ ec) v' → hh.next ≤ h'.next → (∀ y, y < lo → h'.get y = hh.get y) →
      (∀ k' m cs' v', SlV k' hh m cs' v' → (m = 0 ∨ ∃ x ∈ cs', x ∉ cs) → SlV k' h' m cs' v') → (∀ k' l' m cs' v', SlG k' hh l' m cs' v' → (v' = .slice none 0 0 ∨ ∃ x ∈ cs', x ∉ cs) → SlG k' h' l' m cs' v') → K v' h') :
    getvh (sappend (hh.alloc (.cells ec false false)) k bytes v (.slice (some ⟨hh.next, 0, none⟩) j j)) K := by
  have xa : Ext hh (hh.alloc (.cells ec false false)) := (Ext.refl hh).alloc _
  have hl : (hh.alloc (.cells ec false false)).load hh.next 0 (j * k) = some ec := load_all (g := false) (ro := false) (by simp) he
  obtain ⟨h', e1, e2, e3, e5, e4⟩ := (s.ext xa).append (m := j) (m' := j) (bytes := bytes) (sp := none) hl hj hb (by simp; omega)
  rw [e1, getvh_some]
  have keep : ∀ y, y < hh.next → (∀ n' , v ≠ .slice (some ⟨y, 0, some k⟩) n' n') → h'.get y = hh.get y := fun y hy hv => by
    rw [e5 y (by simp; omega) hv, xa.get y hy]
  refine hK _ _ e2 (by simp at e3; omega) (fun y hy => ?_) (fun k' m cs' v' s' hc => ?_) (fun k' l' m cs' v' s' hc => ?_)
  · rw [e4 y (by omega), xa.get y (by omega)]
  · obtain ⟨s1, s2⟩ := s'
    refine ⟨s1, ?_⟩
    rcases s2 with s2 | ⟨b, o, sp, c, c0, g, ro, f1, f2, f3, f4, f5⟩
    · exact .inl s2
    · rcases hc with hc | ⟨x, hx, hxn⟩
      · subst hc; exact .inl ⟨rfl, _, _, f1⟩
      · refine .inr ⟨b, o, sp, c, c0, g, ro, f1, Nat.lt_of_lt_of_le f2 (by simp at e3; omega), ?_, f4, f5⟩
        rw [keep b f2 fun n' e => ?_]
        · exact f3
        · rcases s.2 with ⟨_, q⟩ | ⟨b', q1, q2, q3, q4⟩
          · rw [e] at q; simp at q
          · rw [e] at q4; simp at q4
            rw [q4.1, q3] at f3
            simp only [ABlk.cells.injEq] at f3
            rw [← f5, ← f3.1] at hx
            exact hxn (List.mem_of_mem_drop (List.mem_of_mem_take hx))
  · obtain ⟨s1, s2⟩ := s'
    refine ⟨s1, ?_⟩
    rcases s2 with s2 | ⟨b, f1, f2, f3, f4⟩
    · exact .inl s2
    · rcases hc with hc | ⟨x, hx, hxn⟩
      · rw [hc] at f4; simp at f4
      · refine .inr ⟨b, f1, Nat.lt_of_lt_of_le f2 (by simp at e3; omega), ?_, f4⟩
        rw [keep b f2 fun n' e => ?_]
        · exact f3
        · rcases s.2 with ⟨_, q⟩ | ⟨b', q1, q2, q3, q4⟩
          · rw [e] at q; simp at q
          · rw [e] at q4; simp at q4
            rw [q4.1, q3] at f3
            simp only [ABlk.cells.injEq] at f3
            rw [← f3.1] at hx
            exact hxn hx
end Go.Jq
namespace Go.Jq
variable {G : Nat → SFunc} {h : AH} {R : Value → AH → Prop}
structure Ext1 (b : Nat) (h h1 : AH) : Prop where
  next : h.next ≤ h1.next
  get : ∀ i, i < h.next → i ≠ b → h1.get i = h.get i
theorem Ext1.refl {b : Nat} (h : AH) : Ext1 b h h := ⟨Nat.le_refl _, fun _ _ _ => rfl⟩
theorem Ext1.trans {b : Nat} {x y z : AH} (e : Ext1 b x y) (f : Ext1 b y z) : Ext1 b x z :=
  ⟨Nat.le_trans e.next f.next, fun i hi hb => by rw [f.get i (Nat.lt_of_lt_of_le hi e.next) hb, e.get i hi hb]⟩
theorem Ext.one {b : Nat} {x y : AH} (e : Ext x y) : Ext1 b x y := ⟨e.next, fun i hi _ => e.get i hi⟩
theorem Ext1.put {b : Nat} {x y : AH} (e : Ext1 b x y) {o : ABlk} : Ext1 b x (y.put b o) := ⟨e.next, fun i hi hb => by simp [hb, e.get i hi hb]⟩
theorem Ext1.alloc {b : Nat} {x y : AH} (e : Ext1 b x y) (o : ABlk) : Ext1 b x (y.alloc o) := ⟨Nat.le_trans e.next (Nat.le_succ _), fun i hi hb => by
  have := e.next
  simp [show i ≠ y.next by omega, e.get i hi hb]⟩
theorem SlG.ext1 {b k : Nat} {x y : AH} {lo n : Nat} {cs : List Value} {v : Value} (s : SlG k x lo n cs v) (e : Ext1 b x y) (hb : b < lo) : SlG k y lo n cs v := by
  obtain ⟨s1, s2⟩ := s
  refine ⟨s1, ?_⟩
  rcases s2 with s2 | ⟨c, h1, h2, h3, h4⟩
  · exact .inl s2
  · exact .inr ⟨c, h1, Nat.lt_of_lt_of_le h2 e.next, by rw [e.get c h2 (by omega)]; exact h3, h4⟩
structure SmallG (G : Nat → SFunc) : Prop where
  g275 : G 275 = c275
  g282 : G 282 = c282
theorem num_spec (g : SmallG G) {hh : AH} {ba bl : Nat} {a : Nat} {lv : Value} {l : List Int} (hne : ba ≠ bl) (ha : hh.get ba = .cells [.int .i64 a] false false) (hl : hh.get bl = .cells [lv] false false) (s : ∀ o, SlV 1 (hh.put ba o) l.length (l.flatMap intC) lv)
    (hlen : l.length ≤ 9223372036854775807) (hab : a ≤ 1000000) (k : ∀ x : Int, 0 ≤ x → x ≤ 65535 → R (.int .i64 x) (hh.put ba (.cells [.int .i64 ((a + 1 : Nat) : Int)] false false))) :
    WC G 282 [.pointer (some ⟨ba, 0, none⟩), .pointer (some ⟨bl, 0, none⟩)] hh R := by
  refine WC_enter g.g282 rfl ?_
  show W G c282_body _ _ (retK [.tmp 2] R)
  unfold c282_body c282_0 c282_1 c282_2
  have hw : IntKind.i64.wrap ((a : Int) + 1) = ((a + 1 : Nat) : Int) := by rw [wrap64 (by omega)]; rfl
  have s1 := s (.cells [.int .i64 ((a + 1 : Nat) : Int)] false false)
  obtain ⟨lb, lc, rfl⟩ := s1.len
  by_cases h1 : l.length < a + 1
  · have h1' : (l.length : Int) < (a : Int) + 1 := by omega
    simp -implicitDefEqProofs [ha, hl, hw, hne, hne.symm, h1', c282_3]
    simpa using k 0 (by omega) (by omega)
  · have h1' : ¬ (l.length : Int) < (a : Int) + 1 := by omega
    obtain ⟨b, o, sp, c, c0, g', ro', hv, e2, e3, e4, e5, e6⟩ := s1.row intC_length (i := a) (by omega)
    simp only [Value.slice.injEq, true_and] at hv
    obtain ⟨rfl, rfl⟩ := hv
    have hw2 : IntKind.i64.wrap (a : Int) = (a : Int) := wrap64 (by omega)
    have h2 : (a : Int) < l.length := by omega
    have e60 := e6 0 (by omega)
    simp [intC] at e60
    have hb := iand_bound (a := l[a]) (m := 65535) (by omega) (by omega)
    simp at e3
    have kk := k _ hb.1 hb.2
    simp -implicitDefEqProofs [ha, hl, hw, hne, hne.symm, h1', c282_4, hw2, h2, e3, e60]
    exact kk
def aOk (i : Ins) : Prop := i.areg = -1 ∨ i.areg = 0 ∨ i.areg = 1
def rOk (i : Ins) : Prop := i.reg = 0 ∨ i.reg = 1
def iOk (P : Int → Prop) (i : Ins) : Prop :=
  (i.kind = 1 ∧ P i.loc ∧ aOk i ∧ i.op = 0) ∨ (i.kind = 2 ∧ P i.loc ∧ rOk i ∧ i.op = 0) ∨ (i.kind = 3 ∧ i.loc = 0) ∨ (i.kind = 4 ∧ P i.loc ∧ rOk i ∧ aOk i ∧ i.breg = -1) ∨
  (i.kind = 5 ∧ i.loc = 0 ∧ rOk i ∧ aOk i ∧ i.op = 6 ∧ i.breg = -1) ∨ (i.kind = 6 ∧ i.loc = 0 ∧ aOk i ∧ i.breg = -1 ∧ i.n = 1)
def isMem (i : Ins) : Bool := decide (i.kind = 1) || decide (i.kind = 2) || decide (i.kind = 4)
def memN (l : List Ins) : Nat := (l.filter isMem).length
structure TOk (P : Int → Prop) (l : List Ins) : Prop where
  ok : ∀ i ∈ l, iOk P i
  skip : ∀ k (hk : k < l.length), l[k].kind = 6 → k + 1 < l.length
def lP (x : Int) : Prop := x = 120 ∨ x = 121 ∨ x = 122
theorem TOk.nil {P : Int → Prop} : TOk P [] := ⟨by simp, by simp⟩
theorem TOk.one {P : Int → Prop} {l : List Ins} {i : Ins} (t : TOk P l) (h : iOk P i) (h6 : i.kind ≠ 6) : TOk P (l ++ [i]) := by
  refine ⟨fun j hj => ?_, fun k hk hk6 => ?_⟩
  · rcases List.mem_append.1 hj with hj | hj
    · exact t.ok j hj
    · simp at hj; subst hj; exact h
  · simp at hk ⊢
    by_cases e : k < l.length
    · rw [List.getElem_append_left e] at hk6
      have := t.skip k e hk6; omega
    · rw [List.getElem_append_right (by omega)] at hk6
      simp at hk6
      exact absurd hk6 h6
theorem TOk.two {P : Int → Prop} {l : List Ins} {i j : Ins} (t : TOk P l) (h : iOk P i) (h' : iOk P j) (h6 : j.kind ≠ 6) : TOk P (l ++ [i, j]) := by
  refine ⟨fun y hj => ?_, fun k hk hk6 => ?_⟩
  · rcases List.mem_append.1 hj with hj | hj
    · exact t.ok y hj
    · simp at hj; rcases hj with rfl | rfl
      · exact h
      · exact h'
  · simp at hk ⊢
    by_cases e : k < l.length
    · omega
    · rw [List.getElem_append_right (by omega)] at hk6
      by_cases e2 : k = l.length
      · omega
      · have : k = l.length + 1 := by omega
        subst this
        simp at hk6
        exact absurd hk6 h6
structure RoundOk (s s' : List Ins) (m m' : Nat) : Prop where
  ok : TOk lP s → TOk lP s'
  mem : m' = m + memN s' - memN s
  le : m ≤ m' ∧ m' ≤ m + 1
  mono : memN s ≤ memN s'
  len : s'.length ≤ s.length + 2
  ne : s' ≠ []
theorem memN_app {l m : List Ins} : memN (l ++ m) = memN l + memN m := by simp [memN]
theorem RoundOk.one {li : List Ins} {i : Ins} {m m' : Nat} (h : iOk lP i) (h6 : i.kind ≠ 6) (hm : m' = m + (if isMem i then 1 else 0)) : RoundOk li (li ++ [i]) m m' := by
  have e : memN [i] = if isMem i then 1 else 0 := by simp [memN]; split <;> simp_all
  refine ⟨fun t => t.one h h6, ?_, ?_, ?_, ?_, by simp⟩
  · rw [memN_app, e]; omega
  · split at hm <;> omega
  · rw [memN_app]; omega
  · simp
theorem RoundOk.two {li : List Ins} {i j : Ins} {m m' : Nat} (h : iOk lP i) (h' : iOk lP j) (h6 : i.kind = 6) (h1 : j.kind = 1) (hm : m' = m + 1) : RoundOk li (li ++ [i, j]) m m' := by
  have e : memN [i, j] = 1 := by simp [memN, isMem, h6, h1]
  refine ⟨fun t => t.two h h' (by omega), ?_, ?_, ?_, ?_, by simp⟩
  · rw [memN_app, e]; omega
  · omega
  · rw [memN_app]; omega
  · simp
theorem shr_of {x : Int} {n : Nat} (h0 : 0 ≤ x) : x.fdiv (2 ^ n) = x / 2 ^ n := by
  rw [Int.fdiv_eq_ediv_of_nonneg _ (by exact Int.pow_nonneg (by omega))]
def fr275 (most : Nat) (h : AH) (n lcs mem i : Int) (s : Value) (k : Int) : Fr :=
  [(1, .int .i64 most), (4, .pointer (some ⟨h.next + 1, 0, none⟩)), (5, .pointer (some ⟨h.next + 2, 0, none⟩)), (7, .func (.func 282) #[] #[.pointer (some ⟨h.next + 3, 0, none⟩), .pointer (some ⟨h.next, 0, none⟩)]), (8, .int .i64 n), (9, .int .i64 lcs), (10, .int .i64 mem), (11, .int .i64 i), (12, s), (13, .int .i64 k)]
structure WB (G : Nat → SFunc) (c : SCode) (F : Fr) (h : AH) (R : SExit → Fr → AH → Prop) : Prop where
  w : W G c F h R
def rest275 : SCode := match c275_43 with
  | .seq _ (.seq (.block _ (.seq _ (.seq _ (.seq _ (.seq _ r))))) _) => r
  | _ => .skip
theorem rest_275_0 {hB h0 : AH} {most mem : Nat} {x n lcs i kk lc ar av : Int} {s : Value} {li : List Ins} {R : SExit → Fr → AH → Prop} {b16 bb : Nat}     (hx0 : 0 ≤ x) (hlc : lP lc) (har : ar = -1 ∨ ar = 0 ∨ ar = 1) (g16 : hB.get b16 = .cells [.int .i64 ar, .int .i64 av] false false) (hb16 : b16 < hB.next) (hm : mem < most) (hmost : most ≤ 1000000)     (x0 : Ext1 bb h0 hB) (hbb : bb < h0.next) (ss : SlG 9 hB h0.next li.length (li.flatMap Ins.c) s) (hli : li.length ≤ 1000)     (hR : ∀ (h1 : AH) (s' : Value) (li' : List Ins) (mem' : Nat), Ext1 bb h0 h1 → (∀ y, y < h0.next → h1.get y = hB.get y) → SlG 9 h1 h0.next li'.length (li'.flatMap Ins.c) s' → RoundOk li li' mem mem' →       R .normal [(1, .int .i64 most), (4, .pointer (some ⟨h.next + 1, 0, none⟩)), (5, .pointer (some ⟨h.next + 2, 0, none⟩)), (7, .func (.func 282) #[] #[.pointer (some ⟨h.next + 3, 0, none⟩), .pointer (some ⟨h.next, 0, none⟩)]), (8, .int .i64 n), (9, .int .i64 lcs), (10, .int .i64 mem'), (11, .int .i64 i), (12, s'), (13, .int .i64 kk)] h1) (ed : x.tmod 12 = 0) : WB G rest275 [(1, .int .i64 most), (4, .pointer (some ⟨h.next + 1, 0, none⟩)), (5, .pointer (some ⟨h.next + 2, 0, none⟩)), (7, .func (.func 282) #[] #[.pointer (some ⟨h.next + 3, 0, none⟩), .pointer (some ⟨h.next, 0, none⟩)]), (8, .int .i64 n), (9, .int .i64 lcs), (10, .int .i64 mem), (11, .int .i64 i), (12, s), (13, .int .i64 kk), (14, .int .i64 x), (15, .int .i64 lc), (16, .pointer (some ⟨b16, 0, none⟩))] hB R := by
  constructor
  have bm : IntKind.i64.wrap ((mem : Int) + 1) = ((mem + 1 : Nat) : Int) := by rw [wrap64 (by omega)]; rfl
  obtain ⟨r, er, hr⟩ : ∃ r : Int, iand .i64 (x.fdiv (2 ^ min 11 IntKind.i64.bits)) 1 = r ∧ (r = 0 ∨ r = 1) := by
    have := iand_bound (a := x.fdiv (2 ^ min 11 IntKind.i64.bits)) (m := 1) (by omega) (by omega)
    exact ⟨_, rfl, by omega⟩
  have fin : ∀ (j : Nat) (new : List Ins) (mem' : Nat), new.length = j → 0 < j → j ≤ 2 → RoundOk li (li ++ new) mem mem' → ∀ (hC : AH), (∀ y, y < hB.next → hC.get y = hB.get y) → hB.next ≤ hC.next → ∀ (K : Value → AH → Prop),
      (∀ v' h', SlG 9 h' h0.next (li ++ new).length ((li ++ new).flatMap Ins.c) v' → Ext1 bb h0 h' → (∀ y, y < h0.next → h'.get y = hB.get y) → K v' h') →
      getvh (sappend (hC.alloc (.cells (new.flatMap Ins.c) false false)) 9 72 s (.slice (some ⟨hC.next, 0, none⟩) j j)) K := by
    intro j new mem' hj h0' h2' hro hC hCg hCn K hK
    have sC : SlG 9 hC h0.next li.length (li.flatMap Ins.c) s := ss.ext1 (b := bb) ⟨hCn, fun i hi _ => hCg i hi⟩ (by omega)
    have hnn : h0.next ≤ hB.next := x0.next
    refine sC.app3 (j := j) (by rw [fm_length Ins.c_length, hj]) h0' (by omega) (by omega) fun v' h' s' n' k1 _ _ => ?_
    refine hK v' h' ?_ ⟨by have := x0.next; omega, fun i hi hb => ?_⟩ fun y hy => ?_
    · rw [List.length_append, hj, List.flatMap_append]; exact s'
    · rw [k1 i hi, hCg i (by omega), x0.get i hi hb]
    · rw [k1 y hy, hCg y (by omega)]
  unfold rest275 c275_43
  have hz9 : zi 9 = [.int .i64 0, .int .i64 0, .int .i64 0, .int .i64 0, .int .i64 0, .int .i64 0, .int .i64 0, .int .i64 0, .int .i64 0] := rfl
  have hz18 : zi 18 = [.int .i64 0, .int .i64 0, .int .i64 0, .int .i64 0, .int .i64 0, .int .i64 0, .int .i64 0, .int .i64 0, .int .i64 0, .int .i64 0, .int .i64 0, .int .i64 0, .int .i64 0, .int .i64 0, .int .i64 0, .int .i64 0, .int .i64 0, .int .i64 0] := rfl
  simp -implicitDefEqProofs [c275_19, c275_20, c275_21, c275_25, c275_26, ed, er, g16, hz9, hz18, bm]
  have ro : RoundOk li (li ++ [⟨1, 0, lc, ar, av, 0, 0, 0, 0⟩]) mem (mem + 1) := RoundOk.one (.inl ⟨rfl, hlc, har, rfl⟩) (by simp) (by simp [isMem])
  refine fin 1 [⟨1, 0, lc, ar, av, 0, 0, 0, 0⟩] (mem + 1) rfl (by omega) (by omega) ro hB (fun _ _ => rfl) (Nat.le_refl _) _ fun v' h' s' x' g' => ?_
  simp -implicitDefEqProofs [bm]
  exact hR h' v' _ _ x' g' s' ro
theorem rest_275_1 {hB h0 : AH} {most mem : Nat} {x n lcs i kk lc ar av : Int} {s : Value} {li : List Ins} {R : SExit → Fr → AH → Prop} {b16 bb : Nat}     (hx0 : 0 ≤ x) (hlc : lP lc) (har : ar = -1 ∨ ar = 0 ∨ ar = 1) (g16 : hB.get b16 = .cells [.int .i64 ar, .int .i64 av] false false) (hb16 : b16 < hB.next) (hm : mem < most) (hmost : most ≤ 1000000)     (x0 : Ext1 bb h0 hB) (hbb : bb < h0.next) (ss : SlG 9 hB h0.next li.length (li.flatMap Ins.c) s) (hli : li.length ≤ 1000)     (hR : ∀ (h1 : AH) (s' : Value) (li' : List Ins) (mem' : Nat), Ext1 bb h0 h1 → (∀ y, y < h0.next → h1.get y = hB.get y) → SlG 9 h1 h0.next li'.length (li'.flatMap Ins.c) s' → RoundOk li li' mem mem' →       R .normal [(1, .int .i64 most), (4, .pointer (some ⟨h.next + 1, 0, none⟩)), (5, .pointer (some ⟨h.next + 2, 0, none⟩)), (7, .func (.func 282) #[] #[.pointer (some ⟨h.next + 3, 0, none⟩), .pointer (some ⟨h.next, 0, none⟩)]), (8, .int .i64 n), (9, .int .i64 lcs), (10, .int .i64 mem'), (11, .int .i64 i), (12, s'), (13, .int .i64 kk)] h1) (ed : x.tmod 12 = 1) : WB G rest275 [(1, .int .i64 most), (4, .pointer (some ⟨h.next + 1, 0, none⟩)), (5, .pointer (some ⟨h.next + 2, 0, none⟩)), (7, .func (.func 282) #[] #[.pointer (some ⟨h.next + 3, 0, none⟩), .pointer (some ⟨h.next, 0, none⟩)]), (8, .int .i64 n), (9, .int .i64 lcs), (10, .int .i64 mem), (11, .int .i64 i), (12, s), (13, .int .i64 kk), (14, .int .i64 x), (15, .int .i64 lc), (16, .pointer (some ⟨b16, 0, none⟩))] hB R := by
  constructor
  have bm : IntKind.i64.wrap ((mem : Int) + 1) = ((mem + 1 : Nat) : Int) := by rw [wrap64 (by omega)]; rfl
  obtain ⟨r, er, hr⟩ : ∃ r : Int, iand .i64 (x.fdiv (2 ^ min 11 IntKind.i64.bits)) 1 = r ∧ (r = 0 ∨ r = 1) := by
    have := iand_bound (a := x.fdiv (2 ^ min 11 IntKind.i64.bits)) (m := 1) (by omega) (by omega)
    exact ⟨_, rfl, by omega⟩
  have fin : ∀ (j : Nat) (new : List Ins) (mem' : Nat), new.length = j → 0 < j → j ≤ 2 → RoundOk li (li ++ new) mem mem' → ∀ (hC : AH), (∀ y, y < hB.next → hC.get y = hB.get y) → hB.next ≤ hC.next → ∀ (K : Value → AH → Prop),
      (∀ v' h', SlG 9 h' h0.next (li ++ new).length ((li ++ new).flatMap Ins.c) v' → Ext1 bb h0 h' → (∀ y, y < h0.next → h'.get y = hB.get y) → K v' h') →
      getvh (sappend (hC.alloc (.cells (new.flatMap Ins.c) false false)) 9 72 s (.slice (some ⟨hC.next, 0, none⟩) j j)) K := by
    intro j new mem' hj h0' h2' hro hC hCg hCn K hK
    have sC : SlG 9 hC h0.next li.length (li.flatMap Ins.c) s := ss.ext1 (b := bb) ⟨hCn, fun i hi _ => hCg i hi⟩ (by omega)
    have hnn : h0.next ≤ hB.next := x0.next
    refine sC.app3 (j := j) (by rw [fm_length Ins.c_length, hj]) h0' (by omega) (by omega) fun v' h' s' n' k1 _ _ => ?_
    refine hK v' h' ?_ ⟨by have := x0.next; omega, fun i hi hb => ?_⟩ fun y hy => ?_
    · rw [List.length_append, hj, List.flatMap_append]; exact s'
    · rw [k1 i hi, hCg i (by omega), x0.get i hi hb]
    · rw [k1 y hy, hCg y (by omega)]
  unfold rest275 c275_43
  have hz9 : zi 9 = [.int .i64 0, .int .i64 0, .int .i64 0, .int .i64 0, .int .i64 0, .int .i64 0, .int .i64 0, .int .i64 0, .int .i64 0] := rfl
  have hz18 : zi 18 = [.int .i64 0, .int .i64 0, .int .i64 0, .int .i64 0, .int .i64 0, .int .i64 0, .int .i64 0, .int .i64 0, .int .i64 0, .int .i64 0, .int .i64 0, .int .i64 0, .int .i64 0, .int .i64 0, .int .i64 0, .int .i64 0, .int .i64 0, .int .i64 0] := rfl
  simp -implicitDefEqProofs [c275_19, c275_20, c275_21, c275_22, c275_25, c275_26, ed, er, g16, hz9, hz18, bm]
  have ro : RoundOk li (li ++ [⟨1, 0, lc, ar, av, 0, 0, 0, 0⟩]) mem (mem + 1) := RoundOk.one (.inl ⟨rfl, hlc, har, rfl⟩) (by simp) (by simp [isMem])
  refine fin 1 [⟨1, 0, lc, ar, av, 0, 0, 0, 0⟩] (mem + 1) rfl (by omega) (by omega) ro hB (fun _ _ => rfl) (Nat.le_refl _) _ fun v' h' s' x' g' => ?_
  simp -implicitDefEqProofs [bm]
  exact hR h' v' _ _ x' g' s' ro
theorem rest_275_2 {hB h0 : AH} {most mem : Nat} {x n lcs i kk lc ar av : Int} {s : Value} {li : List Ins} {R : SExit → Fr → AH → Prop} {b16 bb : Nat}     (hx0 : 0 ≤ x) (hlc : lP lc) (har : ar = -1 ∨ ar = 0 ∨ ar = 1) (g16 : hB.get b16 = .cells [.int .i64 ar, .int .i64 av] false false) (hb16 : b16 < hB.next) (hm : mem < most) (hmost : most ≤ 1000000)     (x0 : Ext1 bb h0 hB) (hbb : bb < h0.next) (ss : SlG 9 hB h0.next li.length (li.flatMap Ins.c) s) (hli : li.length ≤ 1000)     (hR : ∀ (h1 : AH) (s' : Value) (li' : List Ins) (mem' : Nat), Ext1 bb h0 h1 → (∀ y, y < h0.next → h1.get y = hB.get y) → SlG 9 h1 h0.next li'.length (li'.flatMap Ins.c) s' → RoundOk li li' mem mem' →       R .normal [(1, .int .i64 most), (4, .pointer (some ⟨h.next + 1, 0, none⟩)), (5, .pointer (some ⟨h.next + 2, 0, none⟩)), (7, .func (.func 282) #[] #[.pointer (some ⟨h.next + 3, 0, none⟩), .pointer (some ⟨h.next, 0, none⟩)]), (8, .int .i64 n), (9, .int .i64 lcs), (10, .int .i64 mem'), (11, .int .i64 i), (12, s'), (13, .int .i64 kk)] h1) (ed : x.tmod 12 = 2) : WB G rest275 [(1, .int .i64 most), (4, .pointer (some ⟨h.next + 1, 0, none⟩)), (5, .pointer (some ⟨h.next + 2, 0, none⟩)), (7, .func (.func 282) #[] #[.pointer (some ⟨h.next + 3, 0, none⟩), .pointer (some ⟨h.next, 0, none⟩)]), (8, .int .i64 n), (9, .int .i64 lcs), (10, .int .i64 mem), (11, .int .i64 i), (12, s), (13, .int .i64 kk), (14, .int .i64 x), (15, .int .i64 lc), (16, .pointer (some ⟨b16, 0, none⟩))] hB R := by
  constructor
  have bm : IntKind.i64.wrap ((mem : Int) + 1) = ((mem + 1 : Nat) : Int) := by rw [wrap64 (by omega)]; rfl
  obtain ⟨r, er, hr⟩ : ∃ r : Int, iand .i64 (x.fdiv (2 ^ min 11 IntKind.i64.bits)) 1 = r ∧ (r = 0 ∨ r = 1) := by
    have := iand_bound (a := x.fdiv (2 ^ min 11 IntKind.i64.bits)) (m := 1) (by omega) (by omega)
    exact ⟨_, rfl, by omega⟩
  have fin : ∀ (j : Nat) (new : List Ins) (mem' : Nat), new.length = j → 0 < j → j ≤ 2 → RoundOk li (li ++ new) mem mem' → ∀ (hC : AH), (∀ y, y < hB.next → hC.get y = hB.get y) → hB.next ≤ hC.next → ∀ (K : Value → AH → Prop),
      (∀ v' h', SlG 9 h' h0.next (li ++ new).length ((li ++ new).flatMap Ins.c) v' → Ext1 bb h0 h' → (∀ y, y < h0.next → h'.get y = hB.get y) → K v' h') →
      getvh (sappend (hC.alloc (.cells (new.flatMap Ins.c) false false)) 9 72 s (.slice (some ⟨hC.next, 0, none⟩) j j)) K := by
    intro j new mem' hj h0' h2' hro hC hCg hCn K hK
    have sC : SlG 9 hC h0.next li.length (li.flatMap Ins.c) s := ss.ext1 (b := bb) ⟨hCn, fun i hi _ => hCg i hi⟩ (by omega)
    have hnn : h0.next ≤ hB.next := x0.next
    refine sC.app3 (j := j) (by rw [fm_length Ins.c_length, hj]) h0' (by omega) (by omega) fun v' h' s' n' k1 _ _ => ?_
    refine hK v' h' ?_ ⟨by have := x0.next; omega, fun i hi hb => ?_⟩ fun y hy => ?_
    · rw [List.length_append, hj, List.flatMap_append]; exact s'
    · rw [k1 i hi, hCg i (by omega), x0.get i hi hb]
    · rw [k1 y hy, hCg y (by omega)]
  unfold rest275 c275_43
  have hz9 : zi 9 = [.int .i64 0, .int .i64 0, .int .i64 0, .int .i64 0, .int .i64 0, .int .i64 0, .int .i64 0, .int .i64 0, .int .i64 0] := rfl
  have hz18 : zi 18 = [.int .i64 0, .int .i64 0, .int .i64 0, .int .i64 0, .int .i64 0, .int .i64 0, .int .i64 0, .int .i64 0, .int .i64 0, .int .i64 0, .int .i64 0, .int .i64 0, .int .i64 0, .int .i64 0, .int .i64 0, .int .i64 0, .int .i64 0, .int .i64 0] := rfl
  simp -implicitDefEqProofs [c275_19, c275_20, c275_21, c275_22, c275_23, c275_25, c275_26, ed, er, g16, hz9, hz18, bm]
  have ro : RoundOk li (li ++ [⟨1, 0, lc, ar, av, 0, 0, 0, 0⟩]) mem (mem + 1) := RoundOk.one (.inl ⟨rfl, hlc, har, rfl⟩) (by simp) (by simp [isMem])
  refine fin 1 [⟨1, 0, lc, ar, av, 0, 0, 0, 0⟩] (mem + 1) rfl (by omega) (by omega) ro hB (fun _ _ => rfl) (Nat.le_refl _) _ fun v' h' s' x' g' => ?_
  simp -implicitDefEqProofs [bm]
  exact hR h' v' _ _ x' g' s' ro
theorem rest_275_3 {hB h0 : AH} {most mem : Nat} {x n lcs i kk lc ar av : Int} {s : Value} {li : List Ins} {R : SExit → Fr → AH → Prop} {b16 bb : Nat}     (hx0 : 0 ≤ x) (hlc : lP lc) (har : ar = -1 ∨ ar = 0 ∨ ar = 1) (g16 : hB.get b16 = .cells [.int .i64 ar, .int .i64 av] false false) (hb16 : b16 < hB.next) (hm : mem < most) (hmost : most ≤ 1000000)     (x0 : Ext1 bb h0 hB) (hbb : bb < h0.next) (ss : SlG 9 hB h0.next li.length (li.flatMap Ins.c) s) (hli : li.length ≤ 1000)     (hR : ∀ (h1 : AH) (s' : Value) (li' : List Ins) (mem' : Nat), Ext1 bb h0 h1 → (∀ y, y < h0.next → h1.get y = hB.get y) → SlG 9 h1 h0.next li'.length (li'.flatMap Ins.c) s' → RoundOk li li' mem mem' →       R .normal [(1, .int .i64 most), (4, .pointer (some ⟨h.next + 1, 0, none⟩)), (5, .pointer (some ⟨h.next + 2, 0, none⟩)), (7, .func (.func 282) #[] #[.pointer (some ⟨h.next + 3, 0, none⟩), .pointer (some ⟨h.next, 0, none⟩)]), (8, .int .i64 n), (9, .int .i64 lcs), (10, .int .i64 mem'), (11, .int .i64 i), (12, s'), (13, .int .i64 kk)] h1) (ed : x.tmod 12 = 3) : WB G rest275 [(1, .int .i64 most), (4, .pointer (some ⟨h.next + 1, 0, none⟩)), (5, .pointer (some ⟨h.next + 2, 0, none⟩)), (7, .func (.func 282) #[] #[.pointer (some ⟨h.next + 3, 0, none⟩), .pointer (some ⟨h.next, 0, none⟩)]), (8, .int .i64 n), (9, .int .i64 lcs), (10, .int .i64 mem), (11, .int .i64 i), (12, s), (13, .int .i64 kk), (14, .int .i64 x), (15, .int .i64 lc), (16, .pointer (some ⟨b16, 0, none⟩))] hB R := by
  constructor
  have bm : IntKind.i64.wrap ((mem : Int) + 1) = ((mem + 1 : Nat) : Int) := by rw [wrap64 (by omega)]; rfl
  obtain ⟨r, er, hr⟩ : ∃ r : Int, iand .i64 (x.fdiv (2 ^ min 11 IntKind.i64.bits)) 1 = r ∧ (r = 0 ∨ r = 1) := by
    have := iand_bound (a := x.fdiv (2 ^ min 11 IntKind.i64.bits)) (m := 1) (by omega) (by omega)
    exact ⟨_, rfl, by omega⟩
  have fin : ∀ (j : Nat) (new : List Ins) (mem' : Nat), new.length = j → 0 < j → j ≤ 2 → RoundOk li (li ++ new) mem mem' → ∀ (hC : AH), (∀ y, y < hB.next → hC.get y = hB.get y) → hB.next ≤ hC.next → ∀ (K : Value → AH → Prop),
      (∀ v' h', SlG 9 h' h0.next (li ++ new).length ((li ++ new).flatMap Ins.c) v' → Ext1 bb h0 h' → (∀ y, y < h0.next → h'.get y = hB.get y) → K v' h') →
      getvh (sappend (hC.alloc (.cells (new.flatMap Ins.c) false false)) 9 72 s (.slice (some ⟨hC.next, 0, none⟩) j j)) K := by
    intro j new mem' hj h0' h2' hro hC hCg hCn K hK
    have sC : SlG 9 hC h0.next li.length (li.flatMap Ins.c) s := ss.ext1 (b := bb) ⟨hCn, fun i hi _ => hCg i hi⟩ (by omega)
    have hnn : h0.next ≤ hB.next := x0.next
    refine sC.app3 (j := j) (by rw [fm_length Ins.c_length, hj]) h0' (by omega) (by omega) fun v' h' s' n' k1 _ _ => ?_
    refine hK v' h' ?_ ⟨by have := x0.next; omega, fun i hi hb => ?_⟩ fun y hy => ?_
    · rw [List.length_append, hj, List.flatMap_append]; exact s'
    · rw [k1 i hi, hCg i (by omega), x0.get i hi hb]
    · rw [k1 y hy, hCg y (by omega)]
  unfold rest275 c275_43
  have hz9 : zi 9 = [.int .i64 0, .int .i64 0, .int .i64 0, .int .i64 0, .int .i64 0, .int .i64 0, .int .i64 0, .int .i64 0, .int .i64 0] := rfl
  have hz18 : zi 18 = [.int .i64 0, .int .i64 0, .int .i64 0, .int .i64 0, .int .i64 0, .int .i64 0, .int .i64 0, .int .i64 0, .int .i64 0, .int .i64 0, .int .i64 0, .int .i64 0, .int .i64 0, .int .i64 0, .int .i64 0, .int .i64 0, .int .i64 0, .int .i64 0] := rfl
  simp -implicitDefEqProofs [c275_19, c275_20, c275_21, c275_22, c275_23, c275_24, c275_25, c275_26, ed, er, g16, hz9, hz18, bm]
  have ro : RoundOk li (li ++ [⟨1, 0, lc, ar, av, 0, 0, 0, 0⟩]) mem (mem + 1) := RoundOk.one (.inl ⟨rfl, hlc, har, rfl⟩) (by simp) (by simp [isMem])
  refine fin 1 [⟨1, 0, lc, ar, av, 0, 0, 0, 0⟩] (mem + 1) rfl (by omega) (by omega) ro hB (fun _ _ => rfl) (Nat.le_refl _) _ fun v' h' s' x' g' => ?_
  simp -implicitDefEqProofs [bm]
  exact hR h' v' _ _ x' g' s' ro
theorem rest_275_4 {hB h0 : AH} {most mem : Nat} {x n lcs i kk lc ar av : Int} {s : Value} {li : List Ins} {R : SExit → Fr → AH → Prop} {b16 bb : Nat}     (hx0 : 0 ≤ x) (hlc : lP lc) (har : ar = -1 ∨ ar = 0 ∨ ar = 1) (g16 : hB.get b16 = .cells [.int .i64 ar, .int .i64 av] false false) (hb16 : b16 < hB.next) (hm : mem < most) (hmost : most ≤ 1000000)     (x0 : Ext1 bb h0 hB) (hbb : bb < h0.next) (ss : SlG 9 hB h0.next li.length (li.flatMap Ins.c) s) (hli : li.length ≤ 1000)     (hR : ∀ (h1 : AH) (s' : Value) (li' : List Ins) (mem' : Nat), Ext1 bb h0 h1 → (∀ y, y < h0.next → h1.get y = hB.get y) → SlG 9 h1 h0.next li'.length (li'.flatMap Ins.c) s' → RoundOk li li' mem mem' →       R .normal [(1, .int .i64 most), (4, .pointer (some ⟨h.next + 1, 0, none⟩)), (5, .pointer (some ⟨h.next + 2, 0, none⟩)), (7, .func (.func 282) #[] #[.pointer (some ⟨h.next + 3, 0, none⟩), .pointer (some ⟨h.next, 0, none⟩)]), (8, .int .i64 n), (9, .int .i64 lcs), (10, .int .i64 mem'), (11, .int .i64 i), (12, s'), (13, .int .i64 kk)] h1) (ed : x.tmod 12 = 4) : WB G rest275 [(1, .int .i64 most), (4, .pointer (some ⟨h.next + 1, 0, none⟩)), (5, .pointer (some ⟨h.next + 2, 0, none⟩)), (7, .func (.func 282) #[] #[.pointer (some ⟨h.next + 3, 0, none⟩), .pointer (some ⟨h.next, 0, none⟩)]), (8, .int .i64 n), (9, .int .i64 lcs), (10, .int .i64 mem), (11, .int .i64 i), (12, s), (13, .int .i64 kk), (14, .int .i64 x), (15, .int .i64 lc), (16, .pointer (some ⟨b16, 0, none⟩))] hB R := by
  constructor
  have bm : IntKind.i64.wrap ((mem : Int) + 1) = ((mem + 1 : Nat) : Int) := by rw [wrap64 (by omega)]; rfl
  obtain ⟨r, er, hr⟩ : ∃ r : Int, iand .i64 (x.fdiv (2 ^ min 11 IntKind.i64.bits)) 1 = r ∧ (r = 0 ∨ r = 1) := by
    have := iand_bound (a := x.fdiv (2 ^ min 11 IntKind.i64.bits)) (m := 1) (by omega) (by omega)
    exact ⟨_, rfl, by omega⟩
  have fin : ∀ (j : Nat) (new : List Ins) (mem' : Nat), new.length = j → 0 < j → j ≤ 2 → RoundOk li (li ++ new) mem mem' → ∀ (hC : AH), (∀ y, y < hB.next → hC.get y = hB.get y) → hB.next ≤ hC.next → ∀ (K : Value → AH → Prop),
      (∀ v' h', SlG 9 h' h0.next (li ++ new).length ((li ++ new).flatMap Ins.c) v' → Ext1 bb h0 h' → (∀ y, y < h0.next → h'.get y = hB.get y) → K v' h') →
      getvh (sappend (hC.alloc (.cells (new.flatMap Ins.c) false false)) 9 72 s (.slice (some ⟨hC.next, 0, none⟩) j j)) K := by
    intro j new mem' hj h0' h2' hro hC hCg hCn K hK
    have sC : SlG 9 hC h0.next li.length (li.flatMap Ins.c) s := ss.ext1 (b := bb) ⟨hCn, fun i hi _ => hCg i hi⟩ (by omega)
    have hnn : h0.next ≤ hB.next := x0.next
    refine sC.app3 (j := j) (by rw [fm_length Ins.c_length, hj]) h0' (by omega) (by omega) fun v' h' s' n' k1 _ _ => ?_
    refine hK v' h' ?_ ⟨by have := x0.next; omega, fun i hi hb => ?_⟩ fun y hy => ?_
    · rw [List.length_append, hj, List.flatMap_append]; exact s'
    · rw [k1 i hi, hCg i (by omega), x0.get i hi hb]
    · rw [k1 y hy, hCg y (by omega)]
  unfold rest275 c275_43
  have hz9 : zi 9 = [.int .i64 0, .int .i64 0, .int .i64 0, .int .i64 0, .int .i64 0, .int .i64 0, .int .i64 0, .int .i64 0, .int .i64 0] := rfl
  have hz18 : zi 18 = [.int .i64 0, .int .i64 0, .int .i64 0, .int .i64 0, .int .i64 0, .int .i64 0, .int .i64 0, .int .i64 0, .int .i64 0, .int .i64 0, .int .i64 0, .int .i64 0, .int .i64 0, .int .i64 0, .int .i64 0, .int .i64 0, .int .i64 0, .int .i64 0] := rfl
  simp -implicitDefEqProofs [c275_19, c275_20, c275_21, c275_22, c275_23, c275_24, c275_27, c275_31, c275_32, ed, er, g16, hz9, hz18, bm]
  have ro : RoundOk li (li ++ [⟨2, r, lc, 0, 0, 0, 0, 0, 0⟩]) mem (mem + 1) := RoundOk.one (.inr (.inl ⟨rfl, hlc, hr, rfl⟩)) (by simp) (by simp [isMem])
  refine fin 1 [⟨2, r, lc, 0, 0, 0, 0, 0, 0⟩] (mem + 1) rfl (by omega) (by omega) ro hB (fun _ _ => rfl) (Nat.le_refl _) _ fun v' h' s' x' g' => ?_
  simp -implicitDefEqProofs [bm]
  exact hR h' v' _ _ x' g' s' ro
theorem rest_275_5 {hB h0 : AH} {most mem : Nat} {x n lcs i kk lc ar av : Int} {s : Value} {li : List Ins} {R : SExit → Fr → AH → Prop} {b16 bb : Nat}     (hx0 : 0 ≤ x) (hlc : lP lc) (har : ar = -1 ∨ ar = 0 ∨ ar = 1) (g16 : hB.get b16 = .cells [.int .i64 ar, .int .i64 av] false false) (hb16 : b16 < hB.next) (hm : mem < most) (hmost : most ≤ 1000000)     (x0 : Ext1 bb h0 hB) (hbb : bb < h0.next) (ss : SlG 9 hB h0.next li.length (li.flatMap Ins.c) s) (hli : li.length ≤ 1000)     (hR : ∀ (h1 : AH) (s' : Value) (li' : List Ins) (mem' : Nat), Ext1 bb h0 h1 → (∀ y, y < h0.next → h1.get y = hB.get y) → SlG 9 h1 h0.next li'.length (li'.flatMap Ins.c) s' → RoundOk li li' mem mem' →       R .normal [(1, .int .i64 most), (4, .pointer (some ⟨h.next + 1, 0, none⟩)), (5, .pointer (some ⟨h.next + 2, 0, none⟩)), (7, .func (.func 282) #[] #[.pointer (some ⟨h.next + 3, 0, none⟩), .pointer (some ⟨h.next, 0, none⟩)]), (8, .int .i64 n), (9, .int .i64 lcs), (10, .int .i64 mem'), (11, .int .i64 i), (12, s'), (13, .int .i64 kk)] h1) (ed : x.tmod 12 = 5) : WB G rest275 [(1, .int .i64 most), (4, .pointer (some ⟨h.next + 1, 0, none⟩)), (5, .pointer (some ⟨h.next + 2, 0, none⟩)), (7, .func (.func 282) #[] #[.pointer (some ⟨h.next + 3, 0, none⟩), .pointer (some ⟨h.next, 0, none⟩)]), (8, .int .i64 n), (9, .int .i64 lcs), (10, .int .i64 mem), (11, .int .i64 i), (12, s), (13, .int .i64 kk), (14, .int .i64 x), (15, .int .i64 lc), (16, .pointer (some ⟨b16, 0, none⟩))] hB R := by
  constructor
  have bm : IntKind.i64.wrap ((mem : Int) + 1) = ((mem + 1 : Nat) : Int) := by rw [wrap64 (by omega)]; rfl
  obtain ⟨r, er, hr⟩ : ∃ r : Int, iand .i64 (x.fdiv (2 ^ min 11 IntKind.i64.bits)) 1 = r ∧ (r = 0 ∨ r = 1) := by
    have := iand_bound (a := x.fdiv (2 ^ min 11 IntKind.i64.bits)) (m := 1) (by omega) (by omega)
    exact ⟨_, rfl, by omega⟩
  have fin : ∀ (j : Nat) (new : List Ins) (mem' : Nat), new.length = j → 0 < j → j ≤ 2 → RoundOk li (li ++ new) mem mem' → ∀ (hC : AH), (∀ y, y < hB.next → hC.get y = hB.get y) → hB.next ≤ hC.next → ∀ (K : Value → AH → Prop),
      (∀ v' h', SlG 9 h' h0.next (li ++ new).length ((li ++ new).flatMap Ins.c) v' → Ext1 bb h0 h' → (∀ y, y < h0.next → h'.get y = hB.get y) → K v' h') →
      getvh (sappend (hC.alloc (.cells (new.flatMap Ins.c) false false)) 9 72 s (.slice (some ⟨hC.next, 0, none⟩) j j)) K := by
    intro j new mem' hj h0' h2' hro hC hCg hCn K hK
    have sC : SlG 9 hC h0.next li.length (li.flatMap Ins.c) s := ss.ext1 (b := bb) ⟨hCn, fun i hi _ => hCg i hi⟩ (by omega)
    have hnn : h0.next ≤ hB.next := x0.next
    refine sC.app3 (j := j) (by rw [fm_length Ins.c_length, hj]) h0' (by omega) (by omega) fun v' h' s' n' k1 _ _ => ?_
    refine hK v' h' ?_ ⟨by have := x0.next; omega, fun i hi hb => ?_⟩ fun y hy => ?_
    · rw [List.length_append, hj, List.flatMap_append]; exact s'
    · rw [k1 i hi, hCg i (by omega), x0.get i hi hb]
    · rw [k1 y hy, hCg y (by omega)]
  unfold rest275 c275_43
  have hz9 : zi 9 = [.int .i64 0, .int .i64 0, .int .i64 0, .int .i64 0, .int .i64 0, .int .i64 0, .int .i64 0, .int .i64 0, .int .i64 0] := rfl
  have hz18 : zi 18 = [.int .i64 0, .int .i64 0, .int .i64 0, .int .i64 0, .int .i64 0, .int .i64 0, .int .i64 0, .int .i64 0, .int .i64 0, .int .i64 0, .int .i64 0, .int .i64 0, .int .i64 0, .int .i64 0, .int .i64 0, .int .i64 0, .int .i64 0, .int .i64 0] := rfl
  simp -implicitDefEqProofs [c275_19, c275_20, c275_21, c275_22, c275_23, c275_24, c275_27, c275_28, c275_31, c275_32, ed, er, g16, hz9, hz18, bm]
  have ro : RoundOk li (li ++ [⟨2, r, lc, 0, 0, 0, 0, 0, 0⟩]) mem (mem + 1) := RoundOk.one (.inr (.inl ⟨rfl, hlc, hr, rfl⟩)) (by simp) (by simp [isMem])
  refine fin 1 [⟨2, r, lc, 0, 0, 0, 0, 0, 0⟩] (mem + 1) rfl (by omega) (by omega) ro hB (fun _ _ => rfl) (Nat.le_refl _) _ fun v' h' s' x' g' => ?_
  simp -implicitDefEqProofs [bm]
  exact hR h' v' _ _ x' g' s' ro
theorem rest_275_6 {hB h0 : AH} {most mem : Nat} {x n lcs i kk lc ar av : Int} {s : Value} {li : List Ins} {R : SExit → Fr → AH → Prop} {b16 bb : Nat}     (hx0 : 0 ≤ x) (hlc : lP lc) (har : ar = -1 ∨ ar = 0 ∨ ar = 1) (g16 : hB.get b16 = .cells [.int .i64 ar, .int .i64 av] false false) (hb16 : b16 < hB.next) (hm : mem < most) (hmost : most ≤ 1000000)     (x0 : Ext1 bb h0 hB) (hbb : bb < h0.next) (ss : SlG 9 hB h0.next li.length (li.flatMap Ins.c) s) (hli : li.length ≤ 1000)     (hR : ∀ (h1 : AH) (s' : Value) (li' : List Ins) (mem' : Nat), Ext1 bb h0 h1 → (∀ y, y < h0.next → h1.get y = hB.get y) → SlG 9 h1 h0.next li'.length (li'.flatMap Ins.c) s' → RoundOk li li' mem mem' →       R .normal [(1, .int .i64 most), (4, .pointer (some ⟨h.next + 1, 0, none⟩)), (5, .pointer (some ⟨h.next + 2, 0, none⟩)), (7, .func (.func 282) #[] #[.pointer (some ⟨h.next + 3, 0, none⟩), .pointer (some ⟨h.next, 0, none⟩)]), (8, .int .i64 n), (9, .int .i64 lcs), (10, .int .i64 mem'), (11, .int .i64 i), (12, s'), (13, .int .i64 kk)] h1) (ed : x.tmod 12 = 6) : WB G rest275 [(1, .int .i64 most), (4, .pointer (some ⟨h.next + 1, 0, none⟩)), (5, .pointer (some ⟨h.next + 2, 0, none⟩)), (7, .func (.func 282) #[] #[.pointer (some ⟨h.next + 3, 0, none⟩), .pointer (some ⟨h.next, 0, none⟩)]), (8, .int .i64 n), (9, .int .i64 lcs), (10, .int .i64 mem), (11, .int .i64 i), (12, s), (13, .int .i64 kk), (14, .int .i64 x), (15, .int .i64 lc), (16, .pointer (some ⟨b16, 0, none⟩))] hB R := by
  constructor
  have bm : IntKind.i64.wrap ((mem : Int) + 1) = ((mem + 1 : Nat) : Int) := by rw [wrap64 (by omega)]; rfl
  obtain ⟨r, er, hr⟩ : ∃ r : Int, iand .i64 (x.fdiv (2 ^ min 11 IntKind.i64.bits)) 1 = r ∧ (r = 0 ∨ r = 1) := by
    have := iand_bound (a := x.fdiv (2 ^ min 11 IntKind.i64.bits)) (m := 1) (by omega) (by omega)
    exact ⟨_, rfl, by omega⟩
  have fin : ∀ (j : Nat) (new : List Ins) (mem' : Nat), new.length = j → 0 < j → j ≤ 2 → RoundOk li (li ++ new) mem mem' → ∀ (hC : AH), (∀ y, y < hB.next → hC.get y = hB.get y) → hB.next ≤ hC.next → ∀ (K : Value → AH → Prop),
      (∀ v' h', SlG 9 h' h0.next (li ++ new).length ((li ++ new).flatMap Ins.c) v' → Ext1 bb h0 h' → (∀ y, y < h0.next → h'.get y = hB.get y) → K v' h') →
      getvh (sappend (hC.alloc (.cells (new.flatMap Ins.c) false false)) 9 72 s (.slice (some ⟨hC.next, 0, none⟩) j j)) K := by
    intro j new mem' hj h0' h2' hro hC hCg hCn K hK
    have sC : SlG 9 hC h0.next li.length (li.flatMap Ins.c) s := ss.ext1 (b := bb) ⟨hCn, fun i hi _ => hCg i hi⟩ (by omega)
    have hnn : h0.next ≤ hB.next := x0.next
    refine sC.app3 (j := j) (by rw [fm_length Ins.c_length, hj]) h0' (by omega) (by omega) fun v' h' s' n' k1 _ _ => ?_
    refine hK v' h' ?_ ⟨by have := x0.next; omega, fun i hi hb => ?_⟩ fun y hy => ?_
    · rw [List.length_append, hj, List.flatMap_append]; exact s'
    · rw [k1 i hi, hCg i (by omega), x0.get i hi hb]
    · rw [k1 y hy, hCg y (by omega)]
  unfold rest275 c275_43
  have hz9 : zi 9 = [.int .i64 0, .int .i64 0, .int .i64 0, .int .i64 0, .int .i64 0, .int .i64 0, .int .i64 0, .int .i64 0, .int .i64 0] := rfl
  have hz18 : zi 18 = [.int .i64 0, .int .i64 0, .int .i64 0, .int .i64 0, .int .i64 0, .int .i64 0, .int .i64 0, .int .i64 0, .int .i64 0, .int .i64 0, .int .i64 0, .int .i64 0, .int .i64 0, .int .i64 0, .int .i64 0, .int .i64 0, .int .i64 0, .int .i64 0] := rfl
  simp -implicitDefEqProofs [c275_19, c275_20, c275_21, c275_22, c275_23, c275_24, c275_27, c275_28, c275_29, c275_31, c275_32, ed, er, g16, hz9, hz18, bm]
  have ro : RoundOk li (li ++ [⟨2, r, lc, 0, 0, 0, 0, 0, 0⟩]) mem (mem + 1) := RoundOk.one (.inr (.inl ⟨rfl, hlc, hr, rfl⟩)) (by simp) (by simp [isMem])
  refine fin 1 [⟨2, r, lc, 0, 0, 0, 0, 0, 0⟩] (mem + 1) rfl (by omega) (by omega) ro hB (fun _ _ => rfl) (Nat.le_refl _) _ fun v' h' s' x' g' => ?_
  simp -implicitDefEqProofs [bm]
  exact hR h' v' _ _ x' g' s' ro
theorem rest_275_7 {hB h0 : AH} {most mem : Nat} {x n lcs i kk lc ar av : Int} {s : Value} {li : List Ins} {R : SExit → Fr → AH → Prop} {b16 bb : Nat}     (hx0 : 0 ≤ x) (hlc : lP lc) (har : ar = -1 ∨ ar = 0 ∨ ar = 1) (g16 : hB.get b16 = .cells [.int .i64 ar, .int .i64 av] false false) (hb16 : b16 < hB.next) (hm : mem < most) (hmost : most ≤ 1000000)     (x0 : Ext1 bb h0 hB) (hbb : bb < h0.next) (ss : SlG 9 hB h0.next li.length (li.flatMap Ins.c) s) (hli : li.length ≤ 1000)     (hR : ∀ (h1 : AH) (s' : Value) (li' : List Ins) (mem' : Nat), Ext1 bb h0 h1 → (∀ y, y < h0.next → h1.get y = hB.get y) → SlG 9 h1 h0.next li'.length (li'.flatMap Ins.c) s' → RoundOk li li' mem mem' →       R .normal [(1, .int .i64 most), (4, .pointer (some ⟨h.next + 1, 0, none⟩)), (5, .pointer (some ⟨h.next + 2, 0, none⟩)), (7, .func (.func 282) #[] #[.pointer (some ⟨h.next + 3, 0, none⟩), .pointer (some ⟨h.next, 0, none⟩)]), (8, .int .i64 n), (9, .int .i64 lcs), (10, .int .i64 mem'), (11, .int .i64 i), (12, s'), (13, .int .i64 kk)] h1) (ed : x.tmod 12 = 7) : WB G rest275 [(1, .int .i64 most), (4, .pointer (some ⟨h.next + 1, 0, none⟩)), (5, .pointer (some ⟨h.next + 2, 0, none⟩)), (7, .func (.func 282) #[] #[.pointer (some ⟨h.next + 3, 0, none⟩), .pointer (some ⟨h.next, 0, none⟩)]), (8, .int .i64 n), (9, .int .i64 lcs), (10, .int .i64 mem), (11, .int .i64 i), (12, s), (13, .int .i64 kk), (14, .int .i64 x), (15, .int .i64 lc), (16, .pointer (some ⟨b16, 0, none⟩))] hB R := by
  constructor
  have bm : IntKind.i64.wrap ((mem : Int) + 1) = ((mem + 1 : Nat) : Int) := by rw [wrap64 (by omega)]; rfl
  obtain ⟨r, er, hr⟩ : ∃ r : Int, iand .i64 (x.fdiv (2 ^ min 11 IntKind.i64.bits)) 1 = r ∧ (r = 0 ∨ r = 1) := by
    have := iand_bound (a := x.fdiv (2 ^ min 11 IntKind.i64.bits)) (m := 1) (by omega) (by omega)
    exact ⟨_, rfl, by omega⟩
  have fin : ∀ (j : Nat) (new : List Ins) (mem' : Nat), new.length = j → 0 < j → j ≤ 2 → RoundOk li (li ++ new) mem mem' → ∀ (hC : AH), (∀ y, y < hB.next → hC.get y = hB.get y) → hB.next ≤ hC.next → ∀ (K : Value → AH → Prop),
      (∀ v' h', SlG 9 h' h0.next (li ++ new).length ((li ++ new).flatMap Ins.c) v' → Ext1 bb h0 h' → (∀ y, y < h0.next → h'.get y = hB.get y) → K v' h') →
      getvh (sappend (hC.alloc (.cells (new.flatMap Ins.c) false false)) 9 72 s (.slice (some ⟨hC.next, 0, none⟩) j j)) K := by
    intro j new mem' hj h0' h2' hro hC hCg hCn K hK
    have sC : SlG 9 hC h0.next li.length (li.flatMap Ins.c) s := ss.ext1 (b := bb) ⟨hCn, fun i hi _ => hCg i hi⟩ (by omega)
    have hnn : h0.next ≤ hB.next := x0.next
    refine sC.app3 (j := j) (by rw [fm_length Ins.c_length, hj]) h0' (by omega) (by omega) fun v' h' s' n' k1 _ _ => ?_
    refine hK v' h' ?_ ⟨by have := x0.next; omega, fun i hi hb => ?_⟩ fun y hy => ?_
    · rw [List.length_append, hj, List.flatMap_append]; exact s'
    · rw [k1 i hi, hCg i (by omega), x0.get i hi hb]
    · rw [k1 y hy, hCg y (by omega)]
  unfold rest275 c275_43
  have hz9 : zi 9 = [.int .i64 0, .int .i64 0, .int .i64 0, .int .i64 0, .int .i64 0, .int .i64 0, .int .i64 0, .int .i64 0, .int .i64 0] := rfl
  have hz18 : zi 18 = [.int .i64 0, .int .i64 0, .int .i64 0, .int .i64 0, .int .i64 0, .int .i64 0, .int .i64 0, .int .i64 0, .int .i64 0, .int .i64 0, .int .i64 0, .int .i64 0, .int .i64 0, .int .i64 0, .int .i64 0, .int .i64 0, .int .i64 0, .int .i64 0] := rfl
  simp -implicitDefEqProofs [c275_19, c275_20, c275_21, c275_22, c275_23, c275_24, c275_27, c275_28, c275_29, c275_30, c275_31, c275_32, ed, er, g16, hz9, hz18, bm]
  have ro : RoundOk li (li ++ [⟨2, r, lc, 0, 0, 0, 0, 0, 0⟩]) mem (mem + 1) := RoundOk.one (.inr (.inl ⟨rfl, hlc, hr, rfl⟩)) (by simp) (by simp [isMem])
  refine fin 1 [⟨2, r, lc, 0, 0, 0, 0, 0, 0⟩] (mem + 1) rfl (by omega) (by omega) ro hB (fun _ _ => rfl) (Nat.le_refl _) _ fun v' h' s' x' g' => ?_
  simp -implicitDefEqProofs [bm]
  exact hR h' v' _ _ x' g' s' ro
theorem rest_275_8 {hB h0 : AH} {most mem : Nat} {x n lcs i kk lc ar av : Int} {s : Value} {li : List Ins} {R : SExit → Fr → AH → Prop} {b16 bb : Nat}     (hx0 : 0 ≤ x) (hlc : lP lc) (har : ar = -1 ∨ ar = 0 ∨ ar = 1) (g16 : hB.get b16 = .cells [.int .i64 ar, .int .i64 av] false false) (hb16 : b16 < hB.next) (hm : mem < most) (hmost : most ≤ 1000000)     (x0 : Ext1 bb h0 hB) (hbb : bb < h0.next) (ss : SlG 9 hB h0.next li.length (li.flatMap Ins.c) s) (hli : li.length ≤ 1000)     (hR : ∀ (h1 : AH) (s' : Value) (li' : List Ins) (mem' : Nat), Ext1 bb h0 h1 → (∀ y, y < h0.next → h1.get y = hB.get y) → SlG 9 h1 h0.next li'.length (li'.flatMap Ins.c) s' → RoundOk li li' mem mem' →       R .normal [(1, .int .i64 most), (4, .pointer (some ⟨h.next + 1, 0, none⟩)), (5, .pointer (some ⟨h.next + 2, 0, none⟩)), (7, .func (.func 282) #[] #[.pointer (some ⟨h.next + 3, 0, none⟩), .pointer (some ⟨h.next, 0, none⟩)]), (8, .int .i64 n), (9, .int .i64 lcs), (10, .int .i64 mem'), (11, .int .i64 i), (12, s'), (13, .int .i64 kk)] h1) (ed : x.tmod 12 = 8) : WB G rest275 [(1, .int .i64 most), (4, .pointer (some ⟨h.next + 1, 0, none⟩)), (5, .pointer (some ⟨h.next + 2, 0, none⟩)), (7, .func (.func 282) #[] #[.pointer (some ⟨h.next + 3, 0, none⟩), .pointer (some ⟨h.next, 0, none⟩)]), (8, .int .i64 n), (9, .int .i64 lcs), (10, .int .i64 mem), (11, .int .i64 i), (12, s), (13, .int .i64 kk), (14, .int .i64 x), (15, .int .i64 lc), (16, .pointer (some ⟨b16, 0, none⟩))] hB R := by
  constructor
  have bm : IntKind.i64.wrap ((mem : Int) + 1) = ((mem + 1 : Nat) : Int) := by rw [wrap64 (by omega)]; rfl
  obtain ⟨r, er, hr⟩ : ∃ r : Int, iand .i64 (x.fdiv (2 ^ min 11 IntKind.i64.bits)) 1 = r ∧ (r = 0 ∨ r = 1) := by
    have := iand_bound (a := x.fdiv (2 ^ min 11 IntKind.i64.bits)) (m := 1) (by omega) (by omega)
    exact ⟨_, rfl, by omega⟩
  have fin : ∀ (j : Nat) (new : List Ins) (mem' : Nat), new.length = j → 0 < j → j ≤ 2 → RoundOk li (li ++ new) mem mem' → ∀ (hC : AH), (∀ y, y < hB.next → hC.get y = hB.get y) → hB.next ≤ hC.next → ∀ (K : Value → AH → Prop),
      (∀ v' h', SlG 9 h' h0.next (li ++ new).length ((li ++ new).flatMap Ins.c) v' → Ext1 bb h0 h' → (∀ y, y < h0.next → h'.get y = hB.get y) → K v' h') →
      getvh (sappend (hC.alloc (.cells (new.flatMap Ins.c) false false)) 9 72 s (.slice (some ⟨hC.next, 0, none⟩) j j)) K := by
    intro j new mem' hj h0' h2' hro hC hCg hCn K hK
    have sC : SlG 9 hC h0.next li.length (li.flatMap Ins.c) s := ss.ext1 (b := bb) ⟨hCn, fun i hi _ => hCg i hi⟩ (by omega)
    have hnn : h0.next ≤ hB.next := x0.next
    refine sC.app3 (j := j) (by rw [fm_length Ins.c_length, hj]) h0' (by omega) (by omega) fun v' h' s' n' k1 _ _ => ?_
    refine hK v' h' ?_ ⟨by have := x0.next; omega, fun i hi hb => ?_⟩ fun y hy => ?_
    · rw [List.length_append, hj, List.flatMap_append]; exact s'
    · rw [k1 i hi, hCg i (by omega), x0.get i hi hb]
    · rw [k1 y hy, hCg y (by omega)]
  unfold rest275 c275_43
  have hz9 : zi 9 = [.int .i64 0, .int .i64 0, .int .i64 0, .int .i64 0, .int .i64 0, .int .i64 0, .int .i64 0, .int .i64 0, .int .i64 0] := rfl
  have hz18 : zi 18 = [.int .i64 0, .int .i64 0, .int .i64 0, .int .i64 0, .int .i64 0, .int .i64 0, .int .i64 0, .int .i64 0, .int .i64 0, .int .i64 0, .int .i64 0, .int .i64 0, .int .i64 0, .int .i64 0, .int .i64 0, .int .i64 0, .int .i64 0, .int .i64 0] := rfl
  simp -implicitDefEqProofs [c275_19, c275_20, c275_21, c275_22, c275_23, c275_24, c275_27, c275_28, c275_29, c275_30, c275_33, c275_34, ed, er, g16, hz9, hz18, bm]
  have ro : RoundOk li (li ++ [⟨3, 0, 0, 0, 0, 0, 0, 0, 0⟩]) mem mem := RoundOk.one (.inr (.inr (.inl ⟨rfl, rfl⟩))) (by simp) (by simp [isMem])
  refine fin 1 [⟨3, 0, 0, 0, 0, 0, 0, 0, 0⟩] mem rfl (by omega) (by omega) ro hB (fun _ _ => rfl) (Nat.le_refl _) _ fun v' h' s' x' g' => ?_
  simp -implicitDefEqProofs [bm]
  exact hR h' v' _ _ x' g' s' ro
theorem rest_275_9 {hB h0 : AH} {most mem : Nat} {x n lcs i kk lc ar av : Int} {s : Value} {li : List Ins} {R : SExit → Fr → AH → Prop} {b16 bb : Nat}     (hx0 : 0 ≤ x) (hlc : lP lc) (har : ar = -1 ∨ ar = 0 ∨ ar = 1) (g16 : hB.get b16 = .cells [.int .i64 ar, .int .i64 av] false false) (hb16 : b16 < hB.next) (hm : mem < most) (hmost : most ≤ 1000000)     (x0 : Ext1 bb h0 hB) (hbb : bb < h0.next) (ss : SlG 9 hB h0.next li.length (li.flatMap Ins.c) s) (hli : li.length ≤ 1000)     (hR : ∀ (h1 : AH) (s' : Value) (li' : List Ins) (mem' : Nat), Ext1 bb h0 h1 → (∀ y, y < h0.next → h1.get y = hB.get y) → SlG 9 h1 h0.next li'.length (li'.flatMap Ins.c) s' → RoundOk li li' mem mem' →       R .normal [(1, .int .i64 most), (4, .pointer (some ⟨h.next + 1, 0, none⟩)), (5, .pointer (some ⟨h.next + 2, 0, none⟩)), (7, .func (.func 282) #[] #[.pointer (some ⟨h.next + 3, 0, none⟩), .pointer (some ⟨h.next, 0, none⟩)]), (8, .int .i64 n), (9, .int .i64 lcs), (10, .int .i64 mem'), (11, .int .i64 i), (12, s'), (13, .int .i64 kk)] h1) (ed : x.tmod 12 = 9) : WB G rest275 [(1, .int .i64 most), (4, .pointer (some ⟨h.next + 1, 0, none⟩)), (5, .pointer (some ⟨h.next + 2, 0, none⟩)), (7, .func (.func 282) #[] #[.pointer (some ⟨h.next + 3, 0, none⟩), .pointer (some ⟨h.next, 0, none⟩)]), (8, .int .i64 n), (9, .int .i64 lcs), (10, .int .i64 mem), (11, .int .i64 i), (12, s), (13, .int .i64 kk), (14, .int .i64 x), (15, .int .i64 lc), (16, .pointer (some ⟨b16, 0, none⟩))] hB R := by
  constructor
  have bm : IntKind.i64.wrap ((mem : Int) + 1) = ((mem + 1 : Nat) : Int) := by rw [wrap64 (by omega)]; rfl
  obtain ⟨r, er, hr⟩ : ∃ r : Int, iand .i64 (x.fdiv (2 ^ min 11 IntKind.i64.bits)) 1 = r ∧ (r = 0 ∨ r = 1) := by
    have := iand_bound (a := x.fdiv (2 ^ min 11 IntKind.i64.bits)) (m := 1) (by omega) (by omega)
    exact ⟨_, rfl, by omega⟩
  have fin : ∀ (j : Nat) (new : List Ins) (mem' : Nat), new.length = j → 0 < j → j ≤ 2 → RoundOk li (li ++ new) mem mem' → ∀ (hC : AH), (∀ y, y < hB.next → hC.get y = hB.get y) → hB.next ≤ hC.next → ∀ (K : Value → AH → Prop),
      (∀ v' h', SlG 9 h' h0.next (li ++ new).length ((li ++ new).flatMap Ins.c) v' → Ext1 bb h0 h' → (∀ y, y < h0.next → h'.get y = hB.get y) → K v' h') →
      getvh (sappend (hC.alloc (.cells (new.flatMap Ins.c) false false)) 9 72 s (.slice (some ⟨hC.next, 0, none⟩) j j)) K := by
    intro j new mem' hj h0' h2' hro hC hCg hCn K hK
    have sC : SlG 9 hC h0.next li.length (li.flatMap Ins.c) s := ss.ext1 (b := bb) ⟨hCn, fun i hi _ => hCg i hi⟩ (by omega)
    have hnn : h0.next ≤ hB.next := x0.next
    refine sC.app3 (j := j) (by rw [fm_length Ins.c_length, hj]) h0' (by omega) (by omega) fun v' h' s' n' k1 _ _ => ?_
    refine hK v' h' ?_ ⟨by have := x0.next; omega, fun i hi hb => ?_⟩ fun y hy => ?_
    · rw [List.length_append, hj, List.flatMap_append]; exact s'
    · rw [k1 i hi, hCg i (by omega), x0.get i hi hb]
    · rw [k1 y hy, hCg y (by omega)]
  unfold rest275 c275_43
  have hz9 : zi 9 = [.int .i64 0, .int .i64 0, .int .i64 0, .int .i64 0, .int .i64 0, .int .i64 0, .int .i64 0, .int .i64 0, .int .i64 0] := rfl
  have hz18 : zi 18 = [.int .i64 0, .int .i64 0, .int .i64 0, .int .i64 0, .int .i64 0, .int .i64 0, .int .i64 0, .int .i64 0, .int .i64 0, .int .i64 0, .int .i64 0, .int .i64 0, .int .i64 0, .int .i64 0, .int .i64 0, .int .i64 0, .int .i64 0, .int .i64 0] := rfl
  simp -implicitDefEqProofs [c275_19, c275_20, c275_21, c275_22, c275_23, c275_24, c275_27, c275_28, c275_29, c275_30, c275_33, c275_35, c275_36, c275_37, ed, er, g16, hz9, hz18, bm]
  have ro : RoundOk li (li ++ [⟨4, r, lc, ar, av, 0, -1, 1, 0⟩]) mem (mem + 1) := RoundOk.one (.inr (.inr (.inr (.inl ⟨rfl, hlc, hr, har, rfl⟩)))) (by simp) (by simp [isMem])
  refine fin 1 [⟨4, r, lc, ar, av, 0, -1, 1, 0⟩] (mem + 1) rfl (by omega) (by omega) ro hB (fun _ _ => rfl) (Nat.le_refl _) _ fun v' h' s' x' g' => ?_
  simp -implicitDefEqProofs [bm]
  exact hR h' v' _ _ x' g' s' ro
theorem rest_275_10 {hB h0 : AH} {most mem : Nat} {x n lcs i kk lc ar av : Int} {s : Value} {li : List Ins} {R : SExit → Fr → AH → Prop} {b16 bb : Nat}     (hx0 : 0 ≤ x) (hlc : lP lc) (har : ar = -1 ∨ ar = 0 ∨ ar = 1) (g16 : hB.get b16 = .cells [.int .i64 ar, .int .i64 av] false false) (hb16 : b16 < hB.next) (hm : mem < most) (hmost : most ≤ 1000000)     (x0 : Ext1 bb h0 hB) (hbb : bb < h0.next) (ss : SlG 9 hB h0.next li.length (li.flatMap Ins.c) s) (hli : li.length ≤ 1000)     (hR : ∀ (h1 : AH) (s' : Value) (li' : List Ins) (mem' : Nat), Ext1 bb h0 h1 → (∀ y, y < h0.next → h1.get y = hB.get y) → SlG 9 h1 h0.next li'.length (li'.flatMap Ins.c) s' → RoundOk li li' mem mem' →       R .normal [(1, .int .i64 most), (4, .pointer (some ⟨h.next + 1, 0, none⟩)), (5, .pointer (some ⟨h.next + 2, 0, none⟩)), (7, .func (.func 282) #[] #[.pointer (some ⟨h.next + 3, 0, none⟩), .pointer (some ⟨h.next, 0, none⟩)]), (8, .int .i64 n), (9, .int .i64 lcs), (10, .int .i64 mem'), (11, .int .i64 i), (12, s'), (13, .int .i64 kk)] h1) (ed : x.tmod 12 = 10) : WB G rest275 [(1, .int .i64 most), (4, .pointer (some ⟨h.next + 1, 0, none⟩)), (5, .pointer (some ⟨h.next + 2, 0, none⟩)), (7, .func (.func 282) #[] #[.pointer (some ⟨h.next + 3, 0, none⟩), .pointer (some ⟨h.next, 0, none⟩)]), (8, .int .i64 n), (9, .int .i64 lcs), (10, .int .i64 mem), (11, .int .i64 i), (12, s), (13, .int .i64 kk), (14, .int .i64 x), (15, .int .i64 lc), (16, .pointer (some ⟨b16, 0, none⟩))] hB R := by
  constructor
  have bm : IntKind.i64.wrap ((mem : Int) + 1) = ((mem + 1 : Nat) : Int) := by rw [wrap64 (by omega)]; rfl
  obtain ⟨r, er, hr⟩ : ∃ r : Int, iand .i64 (x.fdiv (2 ^ min 11 IntKind.i64.bits)) 1 = r ∧ (r = 0 ∨ r = 1) := by
    have := iand_bound (a := x.fdiv (2 ^ min 11 IntKind.i64.bits)) (m := 1) (by omega) (by omega)
    exact ⟨_, rfl, by omega⟩
  have fin : ∀ (j : Nat) (new : List Ins) (mem' : Nat), new.length = j → 0 < j → j ≤ 2 → RoundOk li (li ++ new) mem mem' → ∀ (hC : AH), (∀ y, y < hB.next → hC.get y = hB.get y) → hB.next ≤ hC.next → ∀ (K : Value → AH → Prop),
      (∀ v' h', SlG 9 h' h0.next (li ++ new).length ((li ++ new).flatMap Ins.c) v' → Ext1 bb h0 h' → (∀ y, y < h0.next → h'.get y = hB.get y) → K v' h') →
      getvh (sappend (hC.alloc (.cells (new.flatMap Ins.c) false false)) 9 72 s (.slice (some ⟨hC.next, 0, none⟩) j j)) K := by
    intro j new mem' hj h0' h2' hro hC hCg hCn K hK
    have sC : SlG 9 hC h0.next li.length (li.flatMap Ins.c) s := ss.ext1 (b := bb) ⟨hCn, fun i hi _ => hCg i hi⟩ (by omega)
    have hnn : h0.next ≤ hB.next := x0.next
    refine sC.app3 (j := j) (by rw [fm_length Ins.c_length, hj]) h0' (by omega) (by omega) fun v' h' s' n' k1 _ _ => ?_
    refine hK v' h' ?_ ⟨by have := x0.next; omega, fun i hi hb => ?_⟩ fun y hy => ?_
    · rw [List.length_append, hj, List.flatMap_append]; exact s'
    · rw [k1 i hi, hCg i (by omega), x0.get i hi hb]
    · rw [k1 y hy, hCg y (by omega)]
  unfold rest275 c275_43
  have hz9 : zi 9 = [.int .i64 0, .int .i64 0, .int .i64 0, .int .i64 0, .int .i64 0, .int .i64 0, .int .i64 0, .int .i64 0, .int .i64 0] := rfl
  have hz18 : zi 18 = [.int .i64 0, .int .i64 0, .int .i64 0, .int .i64 0, .int .i64 0, .int .i64 0, .int .i64 0, .int .i64 0, .int .i64 0, .int .i64 0, .int .i64 0, .int .i64 0, .int .i64 0, .int .i64 0, .int .i64 0, .int .i64 0, .int .i64 0, .int .i64 0] := rfl
  simp -implicitDefEqProofs [c275_19, c275_20, c275_21, c275_22, c275_23, c275_24, c275_27, c275_28, c275_29, c275_30, c275_33, c275_35, c275_38, c275_39, ed, er, g16, hz9, hz18, bm]
  have ro : RoundOk li (li ++ [⟨5, r, 0, ar, av, 6, -1, 1, 0⟩]) mem mem := RoundOk.one (.inr (.inr (.inr (.inr (.inl ⟨rfl, rfl, hr, har, rfl, rfl⟩))))) (by simp) (by simp [isMem])
  refine fin 1 [⟨5, r, 0, ar, av, 6, -1, 1, 0⟩] mem rfl (by omega) (by omega) ro hB (fun _ _ => rfl) (Nat.le_refl _) _ fun v' h' s' x' g' => ?_
  simp -implicitDefEqProofs [bm]
  exact hR h' v' _ _ x' g' s' ro
theorem rest_275_11 {hB h0 : AH} {most mem : Nat} {x n lcs i kk lc ar av : Int} {s : Value} {li : List Ins} {R : SExit → Fr → AH → Prop} {b16 bb : Nat}     (hx0 : 0 ≤ x) (hlc : lP lc) (har : ar = -1 ∨ ar = 0 ∨ ar = 1) (g16 : hB.get b16 = .cells [.int .i64 ar, .int .i64 av] false false) (hb16 : b16 < hB.next) (hm : mem < most) (hmost : most ≤ 1000000)     (x0 : Ext1 bb h0 hB) (hbb : bb < h0.next) (ss : SlG 9 hB h0.next li.length (li.flatMap Ins.c) s) (hli : li.length ≤ 1000)     (hR : ∀ (h1 : AH) (s' : Value) (li' : List Ins) (mem' : Nat), Ext1 bb h0 h1 → (∀ y, y < h0.next → h1.get y = hB.get y) → SlG 9 h1 h0.next li'.length (li'.flatMap Ins.c) s' → RoundOk li li' mem mem' →       R .normal [(1, .int .i64 most), (4, .pointer (some ⟨h.next + 1, 0, none⟩)), (5, .pointer (some ⟨h.next + 2, 0, none⟩)), (7, .func (.func 282) #[] #[.pointer (some ⟨h.next + 3, 0, none⟩), .pointer (some ⟨h.next, 0, none⟩)]), (8, .int .i64 n), (9, .int .i64 lcs), (10, .int .i64 mem'), (11, .int .i64 i), (12, s'), (13, .int .i64 kk)] h1) (ed : x.tmod 12 = 11) : WB G rest275 [(1, .int .i64 most), (4, .pointer (some ⟨h.next + 1, 0, none⟩)), (5, .pointer (some ⟨h.next + 2, 0, none⟩)), (7, .func (.func 282) #[] #[.pointer (some ⟨h.next + 3, 0, none⟩), .pointer (some ⟨h.next, 0, none⟩)]), (8, .int .i64 n), (9, .int .i64 lcs), (10, .int .i64 mem), (11, .int .i64 i), (12, s), (13, .int .i64 kk), (14, .int .i64 x), (15, .int .i64 lc), (16, .pointer (some ⟨b16, 0, none⟩))] hB R := by
  constructor
  have bm : IntKind.i64.wrap ((mem : Int) + 1) = ((mem + 1 : Nat) : Int) := by rw [wrap64 (by omega)]; rfl
  obtain ⟨r, er, hr⟩ : ∃ r : Int, iand .i64 (x.fdiv (2 ^ min 11 IntKind.i64.bits)) 1 = r ∧ (r = 0 ∨ r = 1) := by
    have := iand_bound (a := x.fdiv (2 ^ min 11 IntKind.i64.bits)) (m := 1) (by omega) (by omega)
    exact ⟨_, rfl, by omega⟩
  have fin : ∀ (j : Nat) (new : List Ins) (mem' : Nat), new.length = j → 0 < j → j ≤ 2 → RoundOk li (li ++ new) mem mem' → ∀ (hC : AH), (∀ y, y < hB.next → hC.get y = hB.get y) → hB.next ≤ hC.next → ∀ (K : Value → AH → Prop),
      (∀ v' h', SlG 9 h' h0.next (li ++ new).length ((li ++ new).flatMap Ins.c) v' → Ext1 bb h0 h' → (∀ y, y < h0.next → h'.get y = hB.get y) → K v' h') →
      getvh (sappend (hC.alloc (.cells (new.flatMap Ins.c) false false)) 9 72 s (.slice (some ⟨hC.next, 0, none⟩) j j)) K := by
    intro j new mem' hj h0' h2' hro hC hCg hCn K hK
    have sC : SlG 9 hC h0.next li.length (li.flatMap Ins.c) s := ss.ext1 (b := bb) ⟨hCn, fun i hi _ => hCg i hi⟩ (by omega)
    have hnn : h0.next ≤ hB.next := x0.next
    refine sC.app3 (j := j) (by rw [fm_length Ins.c_length, hj]) h0' (by omega) (by omega) fun v' h' s' n' k1 _ _ => ?_
    refine hK v' h' ?_ ⟨by have := x0.next; omega, fun i hi hb => ?_⟩ fun y hy => ?_
    · rw [List.length_append, hj, List.flatMap_append]; exact s'
    · rw [k1 i hi, hCg i (by omega), x0.get i hi hb]
    · rw [k1 y hy, hCg y (by omega)]
  unfold rest275 c275_43
  have hz9 : zi 9 = [.int .i64 0, .int .i64 0, .int .i64 0, .int .i64 0, .int .i64 0, .int .i64 0, .int .i64 0, .int .i64 0, .int .i64 0] := rfl
  have hz18 : zi 18 = [.int .i64 0, .int .i64 0, .int .i64 0, .int .i64 0, .int .i64 0, .int .i64 0, .int .i64 0, .int .i64 0, .int .i64 0, .int .i64 0, .int .i64 0, .int .i64 0, .int .i64 0, .int .i64 0, .int .i64 0, .int .i64 0, .int .i64 0, .int .i64 0] := rfl
  simp -implicitDefEqProofs [c275_19, c275_20, c275_21, c275_22, c275_23, c275_24, c275_27, c275_28, c275_29, c275_30, c275_33, c275_35, c275_38, c275_40, c275_41, ed, er, g16, hz9, hz18, bm]
  have ro : RoundOk li (li ++ [⟨6, 0, 0, ar, av, 0, -1, 0, 1⟩, ⟨1, 0, lc, -1, 2, 0, 0, 0, 0⟩]) mem (mem + 1) := RoundOk.two (by simp [iOk, aOk]; omega) (by simp [iOk, aOk]; exact hlc) rfl rfl rfl
  refine fin 2 [⟨6, 0, 0, ar, av, 0, -1, 0, 1⟩, ⟨1, 0, lc, -1, 2, 0, 0, 0, 0⟩] (mem + 1) rfl (by omega) (by omega) ro hB (fun _ _ => rfl) (Nat.le_refl _) _ fun v' h' s' x' g' => ?_
  simp -implicitDefEqProofs [bm]
  exact hR h' v' _ _ x' g' s' ro
end Go.Jq
namespace Go.Jq
variable {G : Nat → SFunc} {h : AH} {R : Value → AH → Prop}
theorem or12 {P a0 a1 a2 a3 a4 a5 a6 a7 a8 a9 a10 a11 : Prop} (h : a0 ∨ a1 ∨ a2 ∨ a3 ∨ a4 ∨ a5 ∨ a6 ∨ a7 ∨ a8 ∨ a9 ∨ a10 ∨ a11) (f0 : a0 → P) (f1 : a1 → P) (f2 : a2 → P) (f3 : a3 → P) (f4 : a4 → P) (f5 : a5 → P) (f6 : a6 → P) (f7 : a7 → P) (f8 : a8 → P) (f9 : a9 → P) (f10 : a10 → P) (f11 : a11 → P) : P := by
  rcases h with h | h | h | h | h | h | h | h | h | h | h | h
  · exact f0 h
  · exact f1 h
  · exact f2 h
  · exact f3 h
  · exact f4 h
  · exact f5 h
  · exact f6 h
  · exact f7 h
  · exact f8 h
  · exact f9 h
  · exact f10 h
  · exact f11 h
theorem twelve {d : Int} (h0 : 0 ≤ d) (h1 : d < 12) : d = 0 ∨ d = 1 ∨ d = 2 ∨ d = 3 ∨ d = 4 ∨ d = 5 ∨ d = 6 ∨ d = 7 ∨ d = 8 ∨ d = 9 ∨ d = 10 ∨ d = 11 := by
  obtain ⟨n, rfl⟩ := Int.eq_ofNat_of_zero_le h0
  have all : ∀ n : Fin 12, ((n.val : Nat) : Int) = 0 ∨ ((n.val : Nat) : Int) = 1 ∨ ((n.val : Nat) : Int) = 2 ∨ ((n.val : Nat) : Int) = 3 ∨ ((n.val : Nat) : Int) = 4 ∨ ((n.val : Nat) : Int) = 5 ∨ ((n.val : Nat) : Int) = 6 ∨ ((n.val : Nat) : Int) = 7 ∨ ((n.val : Nat) : Int) = 8 ∨ ((n.val : Nat) : Int) = 9 ∨ ((n.val : Nat) : Int) = 10 ∨ ((n.val : Nat) : Int) = 11 := by decide
  exact all ⟨n, by omega⟩
theorem rest_275 {hB h0 : AH} {most mem : Nat} {x n lcs i kk lc ar av : Int} {s : Value} {li : List Ins} {R : SExit → Fr → AH → Prop} {b16 bb : Nat}     (hx0 : 0 ≤ x) (hlc : lP lc) (har : ar = -1 ∨ ar = 0 ∨ ar = 1) (g16 : hB.get b16 = .cells [.int .i64 ar, .int .i64 av] false false) (hb16 : b16 < hB.next) (hm : mem < most) (hmost : most ≤ 1000000)     (x0 : Ext1 bb h0 hB) (hbb : bb < h0.next) (ss : SlG 9 hB h0.next li.length (li.flatMap Ins.c) s) (hli : li.length ≤ 1000)     (hR : ∀ (h1 : AH) (s' : Value) (li' : List Ins) (mem' : Nat), Ext1 bb h0 h1 → (∀ y, y < h0.next → h1.get y = hB.get y) → SlG 9 h1 h0.next li'.length (li'.flatMap Ins.c) s' → RoundOk li li' mem mem' →       R .normal [(1, .int .i64 most), (4, .pointer (some ⟨h.next + 1, 0, none⟩)), (5, .pointer (some ⟨h.next + 2, 0, none⟩)), (7, .func (.func 282) #[] #[.pointer (some ⟨h.next + 3, 0, none⟩), .pointer (some ⟨h.next, 0, none⟩)]), (8, .int .i64 n), (9, .int .i64 lcs), (10, .int .i64 mem'), (11, .int .i64 i), (12, s'), (13, .int .i64 kk)] h1) :
    WB G rest275 [(1, .int .i64 most), (4, .pointer (some ⟨h.next + 1, 0, none⟩)), (5, .pointer (some ⟨h.next + 2, 0, none⟩)), (7, .func (.func 282) #[] #[.pointer (some ⟨h.next + 3, 0, none⟩), .pointer (some ⟨h.next, 0, none⟩)]), (8, .int .i64 n), (9, .int .i64 lcs), (10, .int .i64 mem), (11, .int .i64 i), (12, s), (13, .int .i64 kk), (14, .int .i64 x), (15, .int .i64 lc), (16, .pointer (some ⟨b16, 0, none⟩))] hB R := by
  have hd : x.tmod 12 = 0 ∨ x.tmod 12 = 1 ∨ x.tmod 12 = 2 ∨ x.tmod 12 = 3 ∨ x.tmod 12 = 4 ∨ x.tmod 12 = 5 ∨ x.tmod 12 = 6 ∨ x.tmod 12 = 7 ∨ x.tmod 12 = 8 ∨ x.tmod 12 = 9 ∨ x.tmod 12 = 10 ∨ x.tmod 12 = 11 := by
    rw [Int.tmod_eq_emod_of_nonneg hx0]
    exact twelve (Int.emod_nonneg _ (by decide)) (Int.emod_lt_of_pos _ (by decide))
  rcases hd with e | e | e | e | e | e | e | e | e | e | e | e
  · exact rest_275_0 hx0 hlc har g16 hb16 hm hmost x0 hbb ss hli hR e
  · exact rest_275_1 hx0 hlc har g16 hb16 hm hmost x0 hbb ss hli hR e
  · exact rest_275_2 hx0 hlc har g16 hb16 hm hmost x0 hbb ss hli hR e
  · exact rest_275_3 hx0 hlc har g16 hb16 hm hmost x0 hbb ss hli hR e
  · exact rest_275_4 hx0 hlc har g16 hb16 hm hmost x0 hbb ss hli hR e
  · exact rest_275_5 hx0 hlc har g16 hb16 hm hmost x0 hbb ss hli hR e
  · exact rest_275_6 hx0 hlc har g16 hb16 hm hmost x0 hbb ss hli hR e
  · exact rest_275_7 hx0 hlc har g16 hb16 hm hmost x0 hbb ss hli hR e
  · exact rest_275_8 hx0 hlc har g16 hb16 hm hmost x0 hbb ss hli hR e
  · exact rest_275_9 hx0 hlc har g16 hb16 hm hmost x0 hbb ss hli hR e
  · exact rest_275_10 hx0 hlc har g16 hb16 hm hmost x0 hbb ss hli hR e
  · exact rest_275_11 hx0 hlc har g16 hb16 hm hmost x0 hbb ss hli hR e
set_option maxHeartbeats 2000000 in
theorem round275 (g : SmallG G) {hh h0 : AH} {most a mem : Nat} {n lcs i kk : Int} {s lv : Value} {li : List Ins} {l : List Int} {R : SExit → Fr → AH → Prop}
    (hl1 : lcs = 2 ∨ lcs = 3) (ha : hh.get (h.next + 3) = .cells [.int .i64 a] false false) (hl : hh.get h.next = .cells [lv] false false) (hnx : h.next + 4 ≤ hh.next)
    (sl : ∀ o, SlV 1 (hh.put (h.next + 3) o) l.length (l.flatMap intC) lv) (hlen : l.length ≤ 9223372036854775807) (hab : a ≤ 1000000) (hk1 : 1 ≤ kk ∧ kk ≤ 3) (hm : mem < most) (hmost : most ≤ 1000000)
    (x0 : Ext1 (h.next + 3) h0 hh) (hlo : h.next + 4 ≤ h0.next) (ss : SlG 9 hh h0.next li.length (li.flatMap Ins.c) s) (hli : li.length ≤ 1000)
    (hR : ∀ (h1 : AH) (s' : Value) (li' : List Ins) (mem' : Nat), Ext1 (h.next + 3) h0 h1 → h1.get (h.next + 3) = .cells [.int .i64 ((a + 1 : Nat) : Int)] false false → SlG 9 h1 h0.next li'.length (li'.flatMap Ins.c) s' → RoundOk li li' mem mem' →
      R .normal (fr275 most h n lcs mem' i s' (kk - 1)) h1) :
    W G c275_43 (fr275 most h n lcs mem i s kk) hh R := by
  have b1 : (0 : Int) < kk := by omega
  have b2 : (mem : Int) < most := by omega
  have bk : IntKind.i64.wrap (kk - 1) = kk - 1 := wrap64 (by omega)
  have bm : IntKind.i64.wrap ((mem : Int) + 1) = ((mem + 1 : Nat) : Int) := by rw [wrap64 (by omega)]; rfl
  unfold c275_43 fr275 c275_13 c275_14
  simp -implicitDefEqProofs [b1, b2]
  refine num_spec g (by omega) ha hl sl hlen hab fun x hx0 hx1 => ?_
  have xA : Ext1 (h.next + 3) h0 (hh.put (h.next + 3) (.cells [.int .i64 ((a + 1 : Nat) : Int)] false false)) := x0.put
  have sA : SlG 9 (hh.put (h.next + 3) (.cells [.int .i64 ((a + 1 : Nat) : Int)] false false)) h0.next li.length (li.flatMap Ins.c) s := ss.ext1 (b := h.next + 3) ((Ext1.refl hh).put) (by omega)
  have hA : (hh.put (h.next + 3) (.cells [.int .i64 ((a + 1 : Nat) : Int)] false false)).get (h.next + 3) = .cells [.int .i64 ((a + 1 : Nat) : Int)] false false := by simp
  have nA : h.next + 4 ≤ (hh.put (h.next + 3) (.cells [.int .i64 ((a + 1 : Nat) : Int)] false false)).next := by simpa using hnx
  revert xA sA hA nA
  generalize hh.put (h.next + 3) (.cells [.int .i64 ((a + 1 : Nat) : Int)] false false) = hA
  intro xA sA gA nA
  clear ha hl sl ss x0
  obtain ⟨lc, elc, hlc⟩ : ∃ lc : Int, IntKind.i64.wrap (120 + (x.fdiv (2 ^ min 4 IntKind.i64.bits)).tmod lcs) = lc ∧ lP lc := by
    refine ⟨_, rfl, ?_⟩
    have e : x.fdiv (2 ^ min 4 IntKind.i64.bits) = x / 16 := shr_of (n := 4) hx0
    rw [e, Int.tmod_eq_emod_of_nonneg (by omega)]
    have : 0 ≤ x / 16 % lcs ∧ x / 16 % lcs < 3 := by rcases hl1 with rfl | rfl <;> omega
    generalize x / 16 % lcs = y at *
    rw [wrap64 (by omega)]
    unfold lP; omega
  have hz : ¬ lcs = 0 := by omega
  have hb := iand_bound (a := x.fdiv (2 ^ min 10 IntKind.i64.bits)) (m := 1) (by omega) (by omega)
  have tail : ∀ (hB : AH) (ar av : Int) (b16 : Nat), (ar = -1 ∨ ar = 0 ∨ ar = 1) → hB.get b16 = .cells [.int .i64 ar, .int .i64 av] false false → b16 < hB.next → Ext hA hB →
      W G rest275 [(1, .int .i64 most), (4, .pointer (some ⟨h.next + 1, 0, none⟩)), (5, .pointer (some ⟨h.next + 2, 0, none⟩)), (7, .func (.func 282) #[] #[.pointer (some ⟨h.next + 3, 0, none⟩), .pointer (some ⟨h.next, 0, none⟩)]), (8, .int .i64 n), (9, .int .i64 lcs), (10, .int .i64 mem), (11, .int .i64 i), (12, s), (13, .int .i64 kk), (14, .int .i64 x), (15, .int .i64 lc), (16, .pointer (some ⟨b16, 0, none⟩))] hB (blockK 3 (thenK (W G (.reg [1, 4, 5, 7, 8, 9, 10, 11, 12, 13] c275_42)) R)) := by
    intro hB ar av b16 har g16 hb16 xB
    have xB1 : Ext1 (h.next + 3) h0 hB := xA.trans xB.one
    refine WB.w (rest_275 hx0 hlc har g16 hb16 hm hmost xB1 (by omega) (sA.ext1 (b := h.next + 3) xB.one (by omega)) hli fun h1 s' li' mem' x1 g1 s1 ro => ?_)
    simp -implicitDefEqProofs [c275_42, bk]
    refine hR h1 s' li' mem' x1 ?_ s1 ro
    rw [g1 _ (by omega), xB.get _ (by omega)]
    exact gA
  simp -implicitDefEqProofs only [rest275, c275_43, W_seq, W_reg] at tail
  simp -implicitDefEqProofs [c275_15, c275_16, c275_17, hz, elc]
  by_cases h8 : (x.fdiv (2 ^ min 8 IntKind.i64.bits)).tmod 3 = 0
  · simp -implicitDefEqProofs [h8, c275_18]
    exact tail _ (iand .i64 (x.fdiv (2 ^ min 10 IntKind.i64.bits)) 1) 0 hA.next (by omega) (by simp) (by simp) ((((Ext.refl hA).alloc _).put (Nat.le_refl _) _).put (Nat.le_refl _) _)
  · simp -implicitDefEqProofs [h8]
    exact tail _ (-1) ((x.fdiv (2 ^ min 6 IntKind.i64.bits)).tmod 3) hA.next (.inl rfl) (by simp) (by simp) (((Ext.refl hA).alloc _).put (Nat.le_refl _) _)
end Go.Jq
namespace Go.Jq
variable {G : Nat → SFunc} {h : AH} {R : Value → AH → Prop}
theorem loop275i (g : SmallG G) {hh h0 : AH} {most a mem : Nat} {n lcs i kk : Int} {s lv : Value} {li : List Ins} {l : List Int} {R : SExit → Fr → AH → Prop}
    (hl1 : lcs = 2 ∨ lcs = 3) (hnx : h.next + 4 ≤ h0.next) (hlen : l.length ≤ 9223372036854775807) (hab : a + 3 ≤ 1000000) (hk1 : 0 ≤ kk ∧ kk ≤ 3) (hm : mem ≤ most) (hmost : most ≤ 1000000)
    (ha : hh.get (h.next + 3) = .cells [.int .i64 a] false false) (hl : h0.get h.next = .cells [lv] false false)
    (sl : ∀ (h1 : AH), Ext1 (h.next + 3) h0 h1 → SlV 1 h1 l.length (l.flatMap intC) lv)
    (x0 : Ext1 (h.next + 3) h0 hh) (ss : SlG 9 hh h0.next li.length (li.flatMap Ins.c) s) (hli : li.length + 2 * kk.toNat ≤ 6) (hok : TOk lP li) (hne : li = [] → s = .slice none 0 0)
    (hR : ∀ (h1 : AH) (s' : Value) (li' : List Ins) (mem' a' : Nat) (kk' : Int) (t : Bool), Ext1 (h.next + 3) h0 h1 → h1.get (h.next + 3) = .cells [.int .i64 a'] false false → a' ≤ a + 3 → SlG 9 h1 h0.next li'.length (li'.flatMap Ins.c) s' → li'.length ≤ 6 → TOk lP li' → (li' = [] → s' = .slice none 0 0) →
      mem' + memN li = mem + memN li' → mem' ≤ most →
      R (.exit 2) [(1, .int .i64 most), (4, .pointer (some ⟨h.next + 1, 0, none⟩)), (5, .pointer (some ⟨h.next + 2, 0, none⟩)), (7, .func (.func 282) #[] #[.pointer (some ⟨h.next + 3, 0, none⟩), .pointer (some ⟨h.next, 0, none⟩)]), (8, .int .i64 n), (9, .int .i64 lcs), (10, .int .i64 mem'), (11, .int .i64 i), (12, s'), (13, .int .i64 kk'), (57, .bool false)] h1) :
    W G (.loop [1, 4, 5, 7, 8, 9, 10, 11, 12, 13] c275_43) (fr275 most h n lcs mem i s kk) hh R := by
  refine W_loop (fun mm F hh => ∃ (kk : Int) (a1 mem1 : Nat) (s : Value) (li1 : List Ins), mm = kk.toNat ∧ (0 ≤ kk ∧ kk ≤ 3) ∧ mem1 ≤ most ∧ hh.get (h.next + 3) = .cells [.int .i64 a1] false false ∧ a1 + kk.toNat ≤ a + 3 ∧ Ext1 (h.next + 3) h0 hh ∧ SlG 9 hh h0.next li1.length (li1.flatMap Ins.c) s ∧ li1.length + 2 * kk.toNat ≤ 6 ∧ TOk lP li1 ∧ (li1 = [] → s = .slice none 0 0) ∧ mem1 + memN li = mem + memN li1 ∧
    F = fr275 most h n lcs mem1 i s kk) kk.toNat ⟨kk, a, mem, s, li, rfl, hk1, hm, ha, by omega, x0, ss, hli, hok, hne, rfl, rfl⟩ ?_
  rintro mm F hh ⟨kk, a1, mem1, s, li1, rfl, hk, hm1, ha1, hle, x, ss, hli1, hok1, hne1, hmm, rfl⟩
  by_cases h1 : 0 < kk
  · by_cases h2 : mem1 < most
    · refine round275 g (lv := lv) (l := l) hl1 ha1 ?_ (by have := x.next; omega) (fun o => sl _ x.put) hlen (by omega) (by omega) h2 hmost x hnx ss (by omega) fun h2 s' li' mem' x2 g2 s2 ro => ?_
      · rw [x.get _ (by omega) (by omega)]; exact hl
      · have e1 : (kk - 1).toNat < kk.toNat := by omega
        have hmem := ro.mem
        have hmono := ro.mono
        refine ⟨(kk - 1).toNat, e1, kk - 1, a1 + 1, mem', s', li', rfl, by omega, by have := ro.le; omega, g2, by omega, x2, s2, by have := ro.len; omega, ro.ok hok1, fun e => absurd e ro.ne, by omega, rfl⟩
    · have b1 : (0 : Int) < kk := h1
      have b2 : ¬ (mem1 : Int) < most := by omega
      unfold c275_43 c275_13 fr275
      simp -implicitDefEqProofs [b1, b2]
      exact hR hh s li1 mem1 a1 kk false x ha1 (by omega) ss (by omega) hok1 hne1 hmm hm1
  · have b1 : ¬ (0 : Int) < kk := h1
    unfold c275_43 c275_13 fr275
    simp -implicitDefEqProofs [b1]
    exact hR hh s li1 mem1 a1 kk false x ha1 (by omega) ss (by omega) hok1 hne1 hmm hm1
def zt : List Value := [.string ⟨#[]⟩, .slice none 0 0, .slice none 0 0, .int .i64 0, .slice none 0 0]
def InsG (hh : AH) (lo : Nat) (l : List Ins) (u : Value) : Prop := SlG 9 hh lo l.length (l.flatMap Ins.c) u ∧ (l = [] → u = .slice none 0 0)
structure SmM (h hh : AH) (lv : Value) (a : Nat) (inits : List (Int × Int)) (ths : List (List Ins)) : Prop where
  next : h.next + 4 ≤ hh.next
  old : ∀ y, y < h.next → hh.get y = h.get y
  l : hh.get h.next = .cells [lv] false false
  out : hh.get (h.next + 1) = .cells zt false false
  at' : hh.get (h.next + 3) = .cells [.int .i64 a] false false
  t : ∃ iv tv tvs, hh.get (h.next + 2) = .cells [.string ⟨#[116]⟩, iv, tv, .int .i64 0, .slice none 0 0] false false ∧ SlG 2 hh (h.next + 4) inits.length (inits.flatMap i2c) iv ∧ (inits = [] → iv = .slice none 0 0) ∧
    SlG 1 hh (h.next + 4) ths.length tvs tv ∧ All2 (InsG hh (h.next + 4)) ths tvs ∧ (ths = [] → tv = .slice none 0 0)
theorem SmM.ext1 {hh h1 : AH} {lv : Value} {a a' : Nat} {inits : List (Int × Int)} {ths : List (List Ins)} (M : SmM h hh lv a inits ths) (x : Ext1 (h.next + 3) hh h1) (g : h1.get (h.next + 3) = .cells [.int .i64 a'] false false) : SmM h h1 lv a' inits ths := by
  have n := M.next
  obtain ⟨iv, tv, tvs, t1, t2, t3, t4, t5, t6⟩ := M.t
  refine ⟨by have := x.next; omega, fun y hy => by rw [x.get y (by omega) (by omega)]; exact M.old y hy, by rw [x.get _ (by omega) (by omega)]; exact M.l, by rw [x.get _ (by omega) (by omega)]; exact M.out, g,
    iv, tv, tvs, by rw [x.get _ (by omega) (by omega)]; exact t1, t2.ext1 x (by omega), t3, t4.ext1 x (by omega), t5.imp fun l u _ _ hp => ⟨hp.1.ext1 x (by omega), hp.2⟩, t6⟩
theorem SlG.is_slice {k : Nat} {h : AH} {lo n : Nat} {cs : List Value} {v : Value} (s : SlG k h lo n cs v) : ∃ a n c, v = .slice a n c := by
  obtain ⟨a, c, e⟩ := s.len; exact ⟨a, _, c, e⟩
theorem All2.mem {α β : Type} {p : α → β → Prop} {l : List α} {m : List β} (h : All2 p l m) {b : β} (hb : b ∈ m) : ∃ a ∈ l, p a b := by
  induction h with
  | nil => simp at hb
  | cons h1 _ ih =>
    rcases List.mem_cons.1 hb with rfl | hb
    · exact ⟨_, List.mem_cons_self, h1⟩
    · obtain ⟨a, ha, hp⟩ := ih hb; exact ⟨a, List.mem_cons_of_mem _ ha, hp⟩
theorem ins_int {l : List Ins} (h : l ≠ []) : ∃ n : Int, Value.int .i64 n ∈ l.flatMap Ins.c := by
  cases l with
  | nil => exact absurd rfl h
  | cons i l => exact ⟨i.kind, by simp [Ins.c]⟩
theorem i2c_int {l : List (Int × Int)} (h : l ≠ []) : ∃ n : Int, Value.int .i64 n ∈ l.flatMap i2c := by
  cases l with
  | nil => exact absurd rfl h
  | cons i l => exact ⟨i.1, by simp [i2c]⟩
theorem SmM.thread {hh : AH} {lv : Value} {a : Nat} {inits : List (Int × Int)} {ths : List (List Ins)} {li : List Ins} {s : Value} {K : Value → AH → Prop} (M : SmM h hh lv a inits ths) (hs : InsG hh (h.next + 4) li s) (hlen : ths.length ≤ 1000)
    {tv : Value} {iv : Value} (ht : hh.get (h.next + 2) = .cells [.string ⟨#[116]⟩, iv, tv, .int .i64 0, .slice none 0 0] false false)
    (hK : ∀ v' h', h'.get (h.next + 2) = hh.get (h.next + 2) → h.next + 4 ≤ h'.next → SmM h (h'.put (h.next + 2) (.cells [.string ⟨#[116]⟩, iv, v', .int .i64 0, .slice none 0 0] false false)) lv a inits (ths ++ [li]) → (∃ a n c, v' = .slice a n c) → K v' h') :
    getvh (sappend (hh.alloc (.cells [s] false false)) 1 24 tv (.slice (some ⟨hh.next, 0, none⟩) 1 1)) K := by
  obtain ⟨iv', tv', tvs, t1, t2, t3, t4, t5, _⟩ := M.t
  rw [ht] at t1
  simp only [ABlk.cells.injEq, List.cons.injEq, and_true, true_and] at t1
  obtain ⟨rfl, rfl⟩ := t1
  have n := M.next
  have notin : ∀ n : Int, Value.int .i64 n ∉ tvs := fun n hn => by
    obtain ⟨l, _, hp⟩ := t5.mem hn
    obtain ⟨_, _, _, e⟩ := hp.1.is_slice
    simp at e
  refine t4.app3 (j := 1) (ec := [s]) rfl (by omega) (by omega) n fun v' h' s' n' g' _ keep => ?_
  have kins : ∀ (l : List Ins) u, InsG hh (h.next + 4) l u → InsG h' (h.next + 4) l u := fun l u hp => by
    refine ⟨keep _ _ _ _ _ hp.1 ?_, hp.2⟩
    by_cases hl : l = []
    · exact .inl (hp.2 hl)
    · obtain ⟨n, hn⟩ := ins_int hl
      exact .inr ⟨_, hn, notin n⟩
  have kini : SlG 2 h' (h.next + 4) inits.length (inits.flatMap i2c) iv := by
    refine keep _ _ _ _ _ t2 ?_
    by_cases hl : inits = []
    · exact .inl (t3 hl)
    · obtain ⟨n, hn⟩ := i2c_int hl
      exact .inr ⟨_, hn, notin n⟩
  have xp : ∀ o, Ext1 (h.next + 2) h' (h'.put (h.next + 2) o) := fun o => (Ext1.refl h').put
  refine hK v' h' (g' _ (by omega)) (by omega) ?_ s'.is_slice
  refine ⟨by simp; omega, fun y hy => by simp [show y ≠ h.next + 2 by omega, g' y (by omega), M.old y hy], by simp [g' h.next (by omega), M.l], by simp [g' (h.next + 1) (by omega), M.out], by simp [g' (h.next + 3) (by omega), M.at'],
    iv, v', tvs ++ [s], by simp, kini.ext1 (xp _) (by omega), t3, ?_, ?_, fun e => by simp at e⟩
  · rw [List.length_append]
    exact s'.ext1 (xp _) (by omega)
  · exact (t5.imp fun l u _ _ hp => (⟨(kins l u hp).1.ext1 (xp _) (by omega), hp.2⟩ : InsG _ _ l u)).snoc ⟨(kins li s hs).1.ext1 (xp _) (by omega), hs.2⟩
end Go.Jq
namespace Go.Jq
variable {G : Nat → SFunc} {h : AH} {R : Value → AH → Prop}
structure Atm where
  t : Int
  reg : Int
  loc : Int
  v : Int
def Atm.c (a : Atm) : List Value := [.int .i64 a.t, .int .i64 a.reg, .int .i64 a.loc, .int .i64 a.v]
theorem Atm.c_length (a : Atm) : a.c.length = 4 := rfl
structure Tst where
  inits : List (Int × Int)
  ths : List (List Ins)
  rows : List (List Atm)
structure TstV (h : AH) (t : Tst) (iv tv av : Value) : Prop where
  init : SlV 2 h t.inits.length (t.inits.flatMap i2c) iv
  ths : ∃ tvs, SlV 1 h t.ths.length tvs tv ∧ All2 (fun (l : List Ins) u => SlV 9 h l.length (l.flatMap Ins.c) u) t.ths tvs
  rows : ∃ rvs, SlV 1 h t.rows.length rvs av ∧ All2 (fun (l : List Atm) u => SlV 4 h l.length (l.flatMap Atm.c) u) t.rows rvs
structure TstOk (most : Nat) (t : Tst) : Prop where
  ths : t.ths.length = 2 ∨ t.ths.length = 3
  ok : ∀ l ∈ t.ths, TOk lP l ∧ l.length ≤ 6
  mem : (t.ths.map memN).sum ≤ most
  inits : t.inits.length ≤ 1
  init : ∀ x ∈ t.inits, x.1 = 120
  rows : t.rows.length ≤ 2
  row : ∀ l ∈ t.rows, l.length ≤ 2 ∧ ∀ x ∈ l, x.loc = 0 ∨ x.loc = 120
theorem SmM.num (g : SmallG G) {hh : AH} {lv : Value} {a : Nat} {inits : List (Int × Int)} {ths : List (List Ins)} {l : List Int} (M : SmM h hh lv a inits ths) (s : SlV 1 h l.length (l.flatMap intC) lv) (hlen : l.length ≤ 9223372036854775807) (ha : a ≤ 1000000)
    (k : ∀ (x : Int) (h1 : AH), 0 ≤ x → x ≤ 65535 → SmM h h1 lv (a + 1) inits ths → (∀ y, y ≠ h.next + 3 → h1.get y = hh.get y) → R (.int .i64 x) h1) : WC G 282 [.pointer (some ⟨h.next + 3, 0, none⟩), .pointer (some ⟨h.next, 0, none⟩)] hh R := by
  have n := M.next
  refine num_spec g (by omega) M.at' M.l (fun o => ?_) hlen ha fun x h0 h1 => k x _ h0 h1 (M.ext1 ((Ext1.refl hh).put) (by simp)) (fun y hy => by simp [hy])
  exact s.ext ⟨by simp; omega, fun y hy => by simp [show y ≠ h.next + 3 by omega, M.old y hy]⟩
def fr275o (most : Nat) (h : AH) (n lcs mem i : Int) : Fr :=
  [(1, .int .i64 most), (4, .pointer (some ⟨h.next + 1, 0, none⟩)), (5, .pointer (some ⟨h.next + 2, 0, none⟩)), (7, .func (.func 282) #[] #[.pointer (some ⟨h.next + 3, 0, none⟩), .pointer (some ⟨h.next, 0, none⟩)]), (8, .int .i64 n), (9, .int .i64 lcs), (10, .int .i64 mem), (11, .int .i64 i)]
def inv275o (h : AH) (most : Nat) (n lcs : Int) (lv : Value) (inits : List (Int × Int)) (mm : Nat) (F : Fr) (hh : AH) : Prop :=
  ∃ (i a1 mem : Nat) (ths : List (List Ins)), mm = (n - i).toNat ∧ (i : Int) ≤ n ∧ ths.length = i ∧ a1 ≤ 10 + 4 * i ∧ SmM h hh lv a1 inits ths ∧ (∀ l ∈ ths, TOk lP l ∧ l.length ≤ 6) ∧ (ths.map memN).sum = mem ∧ mem ≤ most ∧ F = fr275o most h n lcs mem i
theorem loop275o (g : SmallG G) {hh : AH} {most a : Nat} {n lcs : Int} {lv : Value} {inits : List (Int × Int)} {l : List Int} {R : SExit → Fr → AH → Prop} (hl1 : lcs = 2 ∨ lcs = 3) (hn : n = 2 ∨ n = 3) (hmost : most ≤ 1000000)
    (s : SlV 1 h l.length (l.flatMap intC) lv) (hlen : l.length ≤ 9223372036854775807) (ha : a ≤ 10) (M : SmM h hh lv a inits [])
    (hR : ∀ (h1 : AH) (a' : Nat) (ths : List (List Ins)) (mem i : Int), SmM h h1 lv a' inits ths → a' ≤ 100 → (ths.length : Int) = n → (∀ l ∈ ths, TOk lP l ∧ l.length ≤ 6) → (ths.map memN).sum ≤ most →
      R (.exit 0) [(1, .int .i64 most), (4, .pointer (some ⟨h.next + 1, 0, none⟩)), (5, .pointer (some ⟨h.next + 2, 0, none⟩)), (7, .func (.func 282) #[] #[.pointer (some ⟨h.next + 3, 0, none⟩), .pointer (some ⟨h.next, 0, none⟩)]), (8, .int .i64 n), (9, .int .i64 lcs), (10, .int .i64 mem), (11, .int .i64 i), (44, .bool false)] h1) :
    W G (.loop [1, 4, 5, 7, 8, 9, 10, 11] c275_46) (fr275o most h n lcs 0 0) hh R := by
  refine W_loop (inv275o h most n lcs lv inits) (n - 0).toNat
    ⟨0, a, 0, [], rfl, by omega, rfl, by omega, M, by simp, by simp, by omega, rfl⟩ ?_
  rintro mm F hh ⟨i, a1, mem, ths, rfl, hi, hti, ha1, M, hok, hsum, hmm, rfl⟩
  unfold c275_46 c275_10 fr275o
  by_cases h1 : (i : Int) < n
  · simp -implicitDefEqProofs [h1, c275_11, c275_12]
    refine M.num g s hlen (by omega) fun x h2 hx0 hx1 M2 _ => ?_
    obtain ⟨kk, ekk, hk0, hk1⟩ : ∃ kk : Int, IntKind.i64.wrap (x.tmod 3 + 1) = kk ∧ 1 ≤ kk ∧ kk ≤ 3 := by
      rw [Int.tmod_eq_emod_of_nonneg hx0, wrap64 (by omega)]
      exact ⟨_, rfl, by omega, by omega⟩
    have n2 := M2.next
    simp -implicitDefEqProofs [ekk]
    have sl : ∀ (h1 : AH), Ext1 (h.next + 3) h2 h1 → SlV 1 h1 l.length (l.flatMap intC) lv := fun h1 x1 => s.ext ⟨by have := x1.next; omega, fun y hy => by rw [x1.get y (by omega) (by omega)]; exact M2.old y hy⟩
    refine loop275i g (h := h) (h0 := h2) (a := a1 + 1) (mem := mem) (li := []) (s := .slice none 0 0) (lv := lv) (l := l) hl1 n2 hlen (by omega) (by omega) hmm hmost M2.at' M2.l sl (Ext1.refl h2) SlG.nil (by simp; omega) TOk.nil (fun _ => rfl) ?_
    intro h3 s' li' mem' a' kk' t x3 g3 ha' s3 hl3 hok3 hne3 hmem3 hmost3
    have M3 := M2.ext1 x3 g3
    simp -implicitDefEqProofs
    have hw : IntKind.i64.wrap ((i : Int) + 1) = ((i + 1 : Nat) : Int) := by rw [wrap64 (by omega)]; rfl
    obtain ⟨iv, tv, tvs, t1, _⟩ := M3.t
    obtain ⟨sa, sc, rfl⟩ := s3.len
    have sI : InsG h3 (h.next + 4) li' (.slice sa li'.length sc) := ⟨s3.low n2, hne3⟩
    simp -implicitDefEqProofs [c275_44, t1]
    refine M3.thread sI (by omega) t1 fun v' h4 e4 n4 M4 ⟨va, vn, vc, ev⟩ => ?_
    subst ev
    rw [t1] at e4
    simp -implicitDefEqProofs [e4, c275_45, hw]
    refine ⟨(n - ((i + 1 : Nat) : Int)).toNat, by omega, i + 1, a', mem', ths ++ [li'], rfl, by omega, by simp [hti], by omega, M4, ?_, ?_, hmost3, rfl⟩
    · intro l' hl'
      rcases List.mem_append.1 hl' with hl' | hl'
      · exact hok l' hl'
      · simp at hl'; subst hl'; exact ⟨hok3, hl3⟩
    · have : memN [] = 0 := rfl
      rw [List.map_append, List.sum_append, hsum]; simp; omega
  · simp -implicitDefEqProofs [h1]
    refine hR hh a1 ths mem i M (by omega) (by omega) hok (by omega)
theorem SlV.of {k n b : Nat} {h : AH} {cs : List Value} {g ro : Bool} (hb : b < h.next) (hg : h.get b = .cells cs g ro) (hl : cs.length = n * k) : SlV k h n cs (.slice (some ⟨b, 0, none⟩) n n) :=
  ⟨hl, .inr ⟨b, 0, none, n, cs, g, ro, rfl, hb, hg, by omega, by rw [List.drop_zero, List.take_of_length_le (by omega)]⟩⟩
theorem Small_spec (g : SmallG G) {most : Nat} {lv : Value} {l : List Int} (hmost : most ≤ 1000000) (s : SlV 1 h l.length (l.flatMap intC) lv) (hlen : l.length ≤ 9223372036854775807)
    (k : ∀ h1 t iv tv ck av name, Ext h h1 → TstV h1 t iv tv av → TstOk most t → R (.agg #[name, iv, tv, .int .i64 ck, av]) h1) : WC G 275 [lv, .int .i64 most] h R := by
  refine WC_enter g.g275 rfl ?_
  show W G c275_body _ _ (retK [.cellN 4 5] R)
  unfold c275_body c275_0 c275_1 c275_2 c275_3 c275_4
  obtain ⟨la, lc, elv⟩ := s.len
  have e12 : h.next + 1 + 2 = h.next + 3 := by omega
  have M0 : SmM h ((((((h.alloc (.cells [lv] false false)).alloc (.cells zt false false)).alloc (.cells zt false false)).put (h.next + 2) (.cells [.string ⟨#[116]⟩, .slice none 0 0, .slice none 0 0, .int .i64 0, .slice none 0 0] false false)).alloc (.cells [.int .i64 0] false false)).put (h.next + 3) (.cells [.int .i64 0] false false)) lv 0 [] [] := by
    refine ⟨by simp [e12], fun y hy => ?_, by simp; intro e; omega, by simp, by simp, .slice none 0 0, .slice none 0 0, [], by simp, SlG.nil, fun _ => rfl, SlG.nil, .nil, fun _ => rfl⟩
    simp [show y ≠ h.next + 3 by omega, show y ≠ h.next + 2 by omega, show y ≠ h.next + 1 by omega, show y ≠ h.next by omega, show y ≠ h.next + 1 + 2 by omega]
  revert M0
  rw [elv]
  simp -implicitDefEqProofs [e12, zt]
  generalize (((((h.alloc (.cells [.slice la l.length lc] false false)).alloc (.cells [.string ⟨#[]⟩, .slice none 0 0, .slice none 0 0, .int .i64 0, .slice none 0 0] false false)).alloc (.cells [.string ⟨#[]⟩, .slice none 0 0, .slice none 0 0, .int .i64 0, .slice none 0 0] false false)).put (h.next + 2) (.cells [.string ⟨#[116]⟩, .slice none 0 0, .slice none 0 0, .int .i64 0, .slice none 0 0] false false)).alloc (.cells [.int .i64 0] false false)).put (h.next + 3) (.cells [.int .i64 0] false false) = hh
  rw [← elv]
  intro M0
  refine M0.num g s hlen (by omega) fun x1 h1 a1 b1 M1 _ => ?_
  obtain ⟨n, en, hn⟩ : ∃ n : Int, IntKind.i64.wrap (x1.tmod 2 + 2) = n ∧ (n = 2 ∨ n = 3) := by
    rw [Int.tmod_eq_emod_of_nonneg a1, wrap64 (by omega)]
    exact ⟨_, rfl, by omega⟩
  simp -implicitDefEqProofs [en, c275_5]
  refine M1.num g s hlen (by omega) fun x2 h2 a2 b2 M2 _ => ?_
  obtain ⟨lcs, elc, hlc⟩ : ∃ n : Int, IntKind.i64.wrap (x2.tmod 2 + 2) = n ∧ (n = 2 ∨ n = 3) := by
    rw [Int.tmod_eq_emod_of_nonneg a2, wrap64 (by omega)]
    exact ⟨_, rfl, by omega⟩
  simp -implicitDefEqProofs [elc, c275_6]
  refine M2.num g s hlen (by omega) fun x3 h3 a3 b3 M3 _ => ?_
  have rest : ∀ (h4 : AH) (a : Nat) (inits : List (Int × Int)), a ≤ 10 → SmM h h4 lv a inits [] → inits.length ≤ 1 → (∀ x ∈ inits, x.1 = 120) →
      W G (.seq (.reg [1, 4, 5, 7, 8, 9, 10] c275_8) (.seq (.seq (.reg [1, 4, 5, 7, 8, 9, 10, 11] c275_9) (.block 0 (.loop [1, 4, 5, 7, 8, 9, 10, 11] c275_46))) (.seq (.seq (.reg [4, 5, 18] c275_47) (.seq (.reg [4, 5, 18, 158] c275_48) (.cond (t_ 158) (.reg [4, 5] c275_49) .skip))) (.seq (.reg [4] c275_50) .ret))))
        [(1, .int .i64 most), (4, .pointer (some ⟨h.next + 1, 0, none⟩)), (5, .pointer (some ⟨h.next + 2, 0, none⟩)), (7, .func (.func 282) #[] #[.pointer (some ⟨h.next + 3, 0, none⟩), .pointer (some ⟨h.next, 0, none⟩)]), (8, .int .i64 n), (9, .int .i64 lcs)] h4 (retK [.cellN 4 5] R) := by
    intro h4 a inits ha M4 hi1 hi2
    simp -implicitDefEqProofs [c275_8, c275_9]
    refine loop275o g hlc hn hmost s hlen ha M4 fun h5 a5 ths mem i M5 ha5 hlen5 hok5 hsum5 => ?_
    simp -implicitDefEqProofs [c275_47]
    refine M5.num g s hlen (by omega) fun x6 h6 a6 b6 M6 _ => ?_
    have n6 := M6.next
    obtain ⟨iv, tv, tvs, t1, t2, t3, t4, t5, _⟩ := M6.t
    have fin : ∀ (ck : Int) (av : Value) (rows : List (List Atm)) (h7 : AH), (∀ y, y < h6.next → y ≠ h.next + 2 → y ≠ h.next + 1 → h7.get y = h6.get y) → h6.next ≤ h7.next → (∃ rvs, SlV 1 h7 rows.length rvs av ∧ All2 (fun (l : List Atm) u => SlV 4 h7 l.length (l.flatMap Atm.c) u) rows rvs) → rows.length ≤ 2 → (∀ l ∈ rows, l.length ≤ 2 ∧ ∀ x ∈ l, x.loc = 0 ∨ x.loc = 120) →
        R (.agg #[.string ⟨#[116]⟩, iv, tv, .int .i64 ck, av]) h7 := by
      intro ck av rows h7 hg hn7 hrv hr1 hr2
      have keep : ∀ {k n cs v}, SlG k h6 (h.next + 4) n cs v → SlV k h7 n cs v := fun {k n cs v} sg => by
        refine SlG.view (lo := h.next + 4) ?_
        obtain ⟨q1, q2⟩ := sg
        refine ⟨q1, ?_⟩
        rcases q2 with q2 | ⟨b, f1, f2, f3, f4⟩
        · exact .inl q2
        · exact .inr ⟨b, f1, by omega, by rw [hg b f2 (by omega) (by omega)]; exact f3, f4⟩
      refine k h7 ⟨inits, ths, rows⟩ iv tv ck av _ ⟨by omega, fun y hy => by rw [hg y (by omega) (by omega) (by omega)]; exact M6.old y hy⟩ ⟨keep t2, ⟨tvs, keep t4, t5.imp fun l u _ _ hp => keep hp.1⟩, hrv⟩ ⟨by show ths.length = 2 ∨ ths.length = 3; omega, hok5, hsum5, hi1, hi2, hr1, hr2⟩
    have b1 : h.next + 1 < h6.next := by omega
    have b2 : h.next + 2 < h6.next := by omega
    have hzt := M6.out
    unfold zt at hzt
    simp -implicitDefEqProofs [c275_48]
    by_cases h8 : x6.tmod 3 = 0
    · have q0 : ¬ h.next = h6.next := by omega
      have q1 : ¬ h.next + 1 = h6.next := by omega
      have q2 : ¬ h.next + 2 = h6.next := by omega
      have q3 : ¬ h.next = h6.next + 1 := by omega
      generalize e1 : iand .i64 (x6.fdiv (2 ^ min 3 IntKind.i64.bits)) 1 = y1
      generalize e2 : iand .i64 (x6.fdiv (2 ^ min 4 IntKind.i64.bits)) 1 = y2
      generalize e3 : (x6.fdiv (2 ^ min 5 IntKind.i64.bits)).tmod 3 = y3
      generalize e4 : iand .i64 (x6.fdiv (2 ^ min 7 IntKind.i64.bits)) 1 = y4
      generalize e5 : IntKind.i64.wrap ((IntKind.i64.wrap (x6.tdiv 3)).tmod 2 + 1) = y5
      simp -implicitDefEqProofs [h8, c275_49, c275_50, t1, hzt, q0, q1, q2, q3, e1, e2, e3, e4, e5, splice, show zi 4 = [.int .i64 0, .int .i64 0, .int .i64 0, .int .i64 0] from rfl, show zi 8 = [.int .i64 0, .int .i64 0, .int .i64 0, .int .i64 0, .int .i64 0, .int .i64 0, .int .i64 0, .int .i64 0] from rfl]
      refine fin y5 (.slice (some ⟨h6.next + 2, 0, none⟩) 2 2) [[⟨0, y1, 0, y2⟩], [⟨-1, 0, 120, y3⟩, ⟨1, 0, 0, y4⟩]] _ (fun y hy p1 p2 => ?_) ?_ ⟨[.slice (some ⟨h6.next, 0, none⟩) 1 1, .slice (some ⟨h6.next + 1, 0, none⟩) 2 2], ?_, .cons ?_ (.cons ?_ .nil)⟩ (by simp) ?_
      · simp [p1, p2, show y ≠ h6.next by omega, show y ≠ h6.next + 1 by omega, show y ≠ h6.next + 2 by omega, show y ≠ h6.next + 1 + 1 by omega]
      · simp; omega
      · exact SlV.of (g := false) (ro := false) (by simp) (by simp [show ¬ h6.next = h.next by omega, show h6.next + 2 ≠ h.next + 1 by omega, show h6.next + 2 ≠ h.next + 2 by omega]) rfl
      · exact SlV.of (n := 1) (g := false) (ro := false) (by simp; omega) (by simp [Atm.c, show ¬ h6.next = h.next by omega, show ¬ h6.next = h.next + 1 by omega, show ¬ h6.next = h.next + 2 by omega]) rfl
      · exact SlV.of (n := 2) (g := false) (ro := false) (by simp) (by simp [Atm.c, show ¬ h6.next = h.next by omega, show h6.next ≠ h.next + 1 by omega, show h6.next + 1 ≠ h.next + 2 by omega]) rfl
      · intro l' hl'
        simp at hl'
        rcases hl' with rfl | rfl
        · exact ⟨by simp, fun x hx => by simp at hx; subst hx; exact .inl rfl⟩
        · exact ⟨by simp, fun x hx => by simp at hx; rcases hx with rfl | rfl <;> simp⟩
    · simp -implicitDefEqProofs [h8, c275_50, t1, hzt]
      refine fin 0 (.slice none 0 0) [] _ (fun y hy q1 q2 => by simp [q2]) (by simp) ⟨[], ⟨rfl, .inl ⟨rfl, none, 0, rfl⟩⟩, .nil⟩ (by decide) (fun l hl => by cases hl)
  simp -implicitDefEqProofs only [W_seq, W_reg, W_block] at rest
  by_cases h8 : x3.tmod 4 = 0
  · obtain ⟨iv, tv, tvs, t1, t2, t3, t4, t5, t6⟩ := M3.t
    simp -implicitDefEqProofs [h8, c275_7, c275_7b, t1]
    refine M3.num g s hlen (by omega) fun x4 h4 a4 b4 M4 g4 => ?_
    have t1' := (g4 (h.next + 2) (by omega)).trans t1
    have n4 := M4.next
    have q2 : ¬ h.next + 2 = h4.next := by omega
    obtain rfl := t3 rfl
    obtain rfl := t6 rfl
    simp -implicitDefEqProofs [t1', q2]
    refine (SlG.nil : SlG 2 h4 (h.next + 4) 0 [] (.slice none 0 0)).app3 (j := 1) (ec := [.int .i64 120, .int .i64 (x4.tmod 3)]) rfl (by omega) (by omega) n4 fun v' h5 s5 n5 g5 _ keep => ?_
    obtain ⟨va, vn, vc, rfl⟩ := s5.is_slice
    have t5' := (g5 (h.next + 2) (by omega)).trans t1'
    simp -implicitDefEqProofs [t5', q2]
    refine rest _ 4 [(120, x4.tmod 3)] (by omega) ⟨by simp; omega, fun y hy => ?_, ?_, ?_, ?_, .slice va vn vc, .slice none 0 0, [], by simp, ?_, (fun e => by cases e), SlG.nil, .nil, fun _ => rfl⟩ (by simp) (fun x hx => by simp at hx; subst hx; rfl)
    · simp [show y ≠ h.next + 2 by omega, g5 y (by omega), M4.old y hy]
    · simp [g5 h.next (by omega), M4.l]
    · simp [g5 (h.next + 1) (by omega), M4.out]
    · simp [g5 (h.next + 3) (by omega), M4.at']
    · exact SlG.ext1 (x := h5) (b := h.next + 2) (by simpa [i2c] using s5) ((Ext1.refl h5).put) (by omega)
  · simp -implicitDefEqProofs [h8]
    exact rest h3 _ [] (by omega) M3 (by simp) (fun x hx => by cases hx)
end Go.Jq
namespace Go.Jq
variable {G : Nat → SFunc} {h : AH} {R : Value → AH → Prop}
def Nest {α : Type} (f : α → List Value) (k : Nat) (h : AH) (ths : List (List α)) (v : Value) : Prop := ∃ tvs, SlV 1 h ths.length tvs v ∧ All2 (fun (l : List α) u => SlV k h l.length (l.flatMap f) u) ths tvs
theorem Nest.ext {α : Type} {f : α → List Value} {k : Nat} {h h1 : AH} {ths : List (List α)} {v : Value} (n : Nest f k h ths v) (x : Ext h h1) : Nest f k h1 ths v := by
  obtain ⟨tvs, h1, h2⟩ := n
  exact ⟨tvs, h1.ext x, h2.imp fun _ _ _ _ s => s.ext x⟩
theorem Nest.len {α : Type} {f : α → List Value} {k : Nat} {h : AH} {ths : List (List α)} {v : Value} (n : Nest f k h ths v) : ∃ a c, v = .slice a ths.length c := by
  obtain ⟨tvs, h1, h2⟩ := n; exact h1.len
theorem Nest.at {α : Type} {f : α → List Value} {k : Nat} {h : AH} {ths : List (List α)} {v : Value} (n : Nest f k h ths v) {i : Nat} (hi : i < ths.length) :
    ∃ b o sp c c0 g ro u, v = .slice (some ⟨b, o, sp⟩) ths.length c ∧ b < h.next ∧ h.get b = .cells c0 g ro ∧ c0[o + i]? = some u ∧ SlV k h ths[i].length (ths[i].flatMap f) u := by
  obtain ⟨tvs, h1, h2⟩ := n
  obtain ⟨hm, hs⟩ := h2.at hi
  have h1' : SlV 1 h tvs.length (tvs.flatMap oneC) v := by rw [oneC_fm, ← h2.len]; exact h1
  obtain ⟨b, o, sp, c, c0, g, ro, e1, e2, e3, e4, e5, e6⟩ := h1'.row oneC_length hm
  refine ⟨b, o, sp, c, c0, g, ro, tvs[i], by rw [h2.len]; exact e1, e2, e3, ?_, hs⟩
  have := e6 0 (by omega)
  simpa [oneC] using this
def bolC (f : Nat → Bool) : List Value := (List.range 256).map fun i => .bool (f i)
@[simp] theorem bolC_length {f : Nat → Bool} : (bolC f).length = 256 := by simp [bolC]
theorem bolC_get {f : Nat → Bool} {i : Nat} (h : i < 256) : (bolC f)[i]? = some (.bool (f i)) := by simp [bolC, h]
def updB (f : Nat → Bool) (i : Nat) : Nat → Bool := fun j => if j = i then true else f j
theorem bolC_set {f : Nat → Bool} {i : Nat} : (bolC f).set i (.bool true) = bolC (updB f i) := by
  apply List.ext_getElem?
  intro j
  rw [List.getElem?_set, bolC_length]
  by_cases hj : j < 256
  · rw [bolC_get hj, bolC_get hj]
    by_cases h : i = j
    · subst h; simp [updB, hj]
    · have : ¬ j = i := fun e => h e.symm
      simp [h, updB, this]
  · by_cases h : i = j
    · subst h
      rw [if_pos rfl, if_neg hj, List.getElem?_eq_none (by rw [bolC_length]; omega)]
    · rw [if_neg h, List.getElem?_eq_none (by rw [bolC_length]; omega), List.getElem?_eq_none (by rw [bolC_length]; omega)]
theorem bolC_zero : (List.replicate 256 [Value.bool false]).flatten = bolC fun _ => false := by
  rw [List.flatten_replicate_singleton, bolC, List.map_const', List.length_range]
def l0P (x : Int) : Prop := x = 0 ∨ lP x
theorem l0P.and {x : Int} (h : l0P x) : iand .i64 x 255 = x ∧ 0 ≤ x ∧ x < 256 := by
  rcases h with rfl | rfl | rfl | rfl <;> exact ⟨by decide, by decide, by decide⟩
structure SeenOk (f : Nat → Bool) : Prop where
  only : ∀ i, f i = true → l0P (i : Int)
theorem SeenOk.upd {f : Nat → Bool} (s : SeenOk f) {x : Int} (h : l0P x) : SeenOk (updB f x.toNat) := by
  refine ⟨fun i hi => ?_⟩
  unfold updB at hi
  split at hi
  · rename_i e
    have := h.and
    rw [e, show ((x.toNat : Nat) : Int) = x by omega]; exact h
  · exact s.only i hi
structure LocM (h hh : AH) (c5 : List Value) (f : Nat → Bool) : Prop where
  ext : Ext h hh
  next : hh.next = h.next + 2
  t : hh.get h.next = .cells c5 false false
  seen : hh.get (h.next + 1) = .cells (bolC f) false false
theorem LocM.put {h hh : AH} {c5 : List Value} {f : Nat → Bool} {i : Nat} (M : LocM h hh c5 f) : LocM h (hh.put (h.next + 1) (.cells (bolC (updB f i)) false false)) c5 (updB f i) :=
  ⟨M.ext.put (by omega) _, M.next, by simp [M.t], by simp⟩
structure LocsG (G : Nat → SFunc) : Prop where
  g280 : G 280 = c280
def inv280a (h : AH) (n : Nat) (f : Nat → Bool) (c5 : List Value) (mm : Nat) (F : Fr) (hh : AH) : Prop :=
  ∃ (i : Nat) (f1 : Nat → Bool), mm = n - i ∧ i ≤ n ∧ SeenOk f1 ∧ (∀ i, f i = true → f1 i = true) ∧ LocM h hh c5 f1 ∧ F = [(1, .pointer (some ⟨h.next, 0, none⟩)), (3, .pointer (some ⟨h.next + 1, 0, none⟩)), (4, .int .i64 i)]
section
variable {iv tv av name : Value} {ck : Int} {t : Tst} {R : SExit → Fr → AH → Prop}
theorem loop280a (V : TstV h t iv tv av) (hi : ∀ x ∈ t.inits, l0P x.1) {hh : AH} {f : Nat → Bool} (hf : SeenOk f) (hl : t.inits.length ≤ 1000) (M : LocM h hh [name, iv, tv, .int .i64 ck, av] f)
    (hR : ∀ h1 f1 (n : Int), SeenOk f1 → (∀ i, f i = true → f1 i = true) → LocM h h1 [name, iv, tv, .int .i64 ck, av] f1 → R (.exit 0) [(1, .pointer (some ⟨h.next, 0, none⟩)), (3, .pointer (some ⟨h.next + 1, 0, none⟩)), (4, .int .i64 n), (15, .bool false)] h1) :
    W G (.loop [1, 3, 4] c280_6) [(1, .pointer (some ⟨h.next, 0, none⟩)), (3, .pointer (some ⟨h.next + 1, 0, none⟩)), (4, .int .i64 0)] hh R := by
  refine W_loop (inv280a h t.inits.length f [name, iv, tv, .int .i64 ck, av]) t.inits.length
    ⟨0, f, rfl, Nat.zero_le _, hf, fun _ h => h, M, rfl⟩ ?_
  rintro mm F hh ⟨i, f1, rfl, hi1, hf1, hle, M, rfl⟩
  unfold c280_6 c280_3 c280_4 c280_5
  obtain ⟨ia, ic, eiv⟩ := V.init.len
  have hb : ∀ b, b < h.next → ¬ b = h.next + 1 := fun b hb => by omega
  by_cases h1 : i < t.inits.length
  · have hw : IntKind.i64.wrap ((i : Int) + 1) = ((i + 1 : Nat) : Int) := by rw [wrap64 (by omega)]; rfl
    obtain ⟨b, o, sp, c, c0, g', ro', hv, e2, e3, e4, e5, e6⟩ := V.init.row i2c_length h1
    have e3' : hh.get b = .cells c0 g' ro' := by rw [M.ext.get b e2]; exact e3
    have e60 := e6 0 (by omega)
    simp [i2c] at e60
    have hx := (hi t.inits[i] (List.getElem_mem h1)).and
    have hx0 := hi t.inits[i] (List.getElem_mem h1)
    have hlt : t.inits[i].1.toNat < 256 := by omega
    have gt := M.t
    have gs := M.seen
    rw [hv] at gt
    simp -implicitDefEqProofs [h1, gt, gs, e3', e60, hx.1, hx.2.1, hx.2.2, hw, hlt, bolC_set]
    exact ⟨t.inits.length - (i + 1), by omega, i + 1, _, rfl, h1, hf1.upd hx0, fun j hj => by unfold updB; split <;> simp [hle j hj], M.put, rfl⟩
  · have gt := M.t
    rw [eiv] at gt
    simp -implicitDefEqProofs [h1, gt]
    exact hR _ _ _ hf1 hle M
end
def inv280bi (h : AH) (l : List Ins) (i : Nat) (f : Nat → Bool) (c5 : List Value) (mm : Nat) (F : Fr) (hh : AH) : Prop :=
  ∃ (j : Nat) (f1 : Nat → Bool), mm = l.length - j ∧ j ≤ l.length ∧ SeenOk f1 ∧ (∀ i, f i = true → f1 i = true) ∧ (∀ y (hy : y < l.length), y < j → f1 l[y].loc.toNat = true) ∧ LocM h hh c5 f1 ∧ F = [(1, .pointer (some ⟨h.next, 0, none⟩)), (3, .pointer (some ⟨h.next + 1, 0, none⟩)), (5, .int .i64 i), (6, .int .i64 j)]
def inv280b (h : AH) (ths : List (List Ins)) (f : Nat → Bool) (c5 : List Value) (mm : Nat) (F : Fr) (hh : AH) : Prop :=
  ∃ (i : Nat) (f1 : Nat → Bool), mm = ths.length - i ∧ i ≤ ths.length ∧ SeenOk f1 ∧ (∀ i, f i = true → f1 i = true) ∧ (∀ y (hy : y < ths.length), y < i → ∀ x ∈ ths[y], f1 x.loc.toNat = true) ∧ LocM h hh c5 f1 ∧ F = [(1, .pointer (some ⟨h.next, 0, none⟩)), (3, .pointer (some ⟨h.next + 1, 0, none⟩)), (5, .int .i64 i)]
theorem loop280b {iv tv av name : Value} {ck : Int} {ths : List (List Ins)} {R : SExit → Fr → AH → Prop} (V : Nest Ins.c 9 h ths tv) (hi : ∀ l ∈ ths, l.length ≤ 1000 ∧ ∀ x ∈ l, l0P x.loc) {hh : AH} {f : Nat → Bool} (hf : SeenOk f) (hl : ths.length ≤ 1000) (M : LocM h hh [name, iv, tv, .int .i64 ck, av] f)
    (hR : ∀ h1 f1 (n : Int), SeenOk f1 → (∀ i, f i = true → f1 i = true) → (∀ l ∈ ths, ∀ x ∈ l, f1 x.loc.toNat = true) → LocM h h1 [name, iv, tv, .int .i64 ck, av] f1 → R (.exit 2) [(1, .pointer (some ⟨h.next, 0, none⟩)), (3, .pointer (some ⟨h.next + 1, 0, none⟩)), (5, .int .i64 n), (30, .bool false)] h1) :
    W G (.loop [1, 3, 5] c280_15) [(1, .pointer (some ⟨h.next, 0, none⟩)), (3, .pointer (some ⟨h.next + 1, 0, none⟩)), (5, .int .i64 0)] hh R := by
  refine W_loop (inv280b h ths f [name, iv, tv, .int .i64 ck, av]) ths.length ⟨0, f, rfl, Nat.zero_le _, hf, fun _ h => h, by omega, M, rfl⟩ ?_
  rintro mm F hh ⟨i, f1, rfl, hi1, hf1, hle, hall, M, rfl⟩
  unfold c280_15 c280_8 c280_9 c280_14
  obtain ⟨ta, tc, etv⟩ := V.len
  by_cases h1 : i < ths.length
  · have hw : IntKind.i64.wrap ((i : Int) + 1) = ((i + 1 : Nat) : Int) := by rw [wrap64 (by omega)]; rfl
    have gt := M.t
    rw [etv] at gt
    simp -implicitDefEqProofs [h1, gt]
    have hil := (hi ths[i] (List.getElem_mem h1)).1
    have hix := (hi ths[i] (List.getElem_mem h1)).2
    obtain ⟨b, o, sp, c, c0, g', ro', u, hv, e2, e3, e4, su⟩ := V.at h1
    rw [etv] at hv
    simp only [Value.slice.injEq, true_and] at hv
    obtain ⟨rfl, rfl⟩ := hv
    refine W_loop (inv280bi h ths[i] i f1 [name, iv, tv, .int .i64 ck, av]) ths[i].length ⟨0, f1, rfl, Nat.zero_le _, hf1, fun _ h => h, by omega, M, rfl⟩ ?_
    rintro mm F hh ⟨j, f2, rfl, hj1, hf2, hle2, hall2, M2, rfl⟩
    unfold c280_13 c280_10 c280_11 c280_12
    have e3' : hh.get b = .cells c0 g' ro' := by rw [M2.ext.get b e2]; exact e3
    have gt2 := M2.t
    rw [etv] at gt2
    have gs2 := M2.seen
    obtain ⟨ua, uc, eu⟩ := su.len
    by_cases h2 : j < ths[i].length
    · have hw2 : IntKind.i64.wrap ((j : Int) + 1) = ((j + 1 : Nat) : Int) := by rw [wrap64 (by omega)]; rfl
      obtain ⟨b2, o2, sp2, c2, c20, g2', ro2', hv2, d2, d3, d4, d5, d6⟩ := su.row Ins.c_length h2
      have d3' : hh.get b2 = .cells c20 g2' ro2' := by rw [M2.ext.get b2 d2]; exact d3
      have d62 := d6 2 (by omega)
      have d62' : ((Ins.c ths[i][j]))[2]? = some (.int .i64 ths[i][j].loc) := rfl
      rw [d62'] at d62
      have hx0 := hix ths[i][j] (List.getElem_mem h2)
      have hx := hx0.and
      have hlt : ths[i][j].loc.toNat < 256 := by omega
      rw [hv2] at e4
      simp -implicitDefEqProofs [h1, h2, gt2, gs2, e3', e4, d3', d62, hx.1, hx.2.1, hx.2.2, hw2, hlt, bolC_set]
      refine ⟨ths[i].length - (j + 1), by omega, j + 1, _, rfl, h2, hf2.upd hx0, fun y hy => by unfold updB; split <;> simp [hle2 y hy], fun y hy hyj => ?_, M2.put, rfl⟩
      unfold updB
      by_cases e : y = j
      · subst e; simp
      · split <;> simp [hall2 y hy (by omega)]
    · rw [eu] at e4
      simp -implicitDefEqProofs [h1, h2, gt2, e3', e4, hw]
      refine ⟨ths.length - (i + 1), by omega, i + 1, f2, rfl, h1, hf2, fun y hy => hle2 y (hle y hy), fun y hy hyi x hx => ?_, M2, rfl⟩
      by_cases e : y = i
      · subst e
        obtain ⟨z, hz, rfl⟩ := List.getElem_of_mem hx
        exact hall2 z hz (by omega)
      · exact hle2 _ (hall y hy (by omega) x hx)
  · have gt := M.t
    rw [etv] at gt
    simp -implicitDefEqProofs [h1, gt]
    refine hR _ _ _ hf1 hle (fun l hl x hx => ?_) M
    obtain ⟨z, hz, rfl⟩ := List.getElem_of_mem hl
    exact hall z hz (by omega) x hx
def inv280ci (h : AH) (l : List Atm) (i : Nat) (f : Nat → Bool) (c5 : List Value) (mm : Nat) (F : Fr) (hh : AH) : Prop :=
  ∃ (j : Nat) (f1 : Nat → Bool), mm = l.length - j ∧ j ≤ l.length ∧ SeenOk f1 ∧ (∀ i, f i = true → f1 i = true) ∧ (∀ y (hy : y < l.length), y < j → f1 l[y].loc.toNat = true) ∧ LocM h hh c5 f1 ∧ F = [(1, .pointer (some ⟨h.next, 0, none⟩)), (3, .pointer (some ⟨h.next + 1, 0, none⟩)), (7, .int .i64 i), (8, .int .i64 j)]
def inv280c (h : AH) (ths : List (List Atm)) (f : Nat → Bool) (c5 : List Value) (mm : Nat) (F : Fr) (hh : AH) : Prop :=
  ∃ (i : Nat) (f1 : Nat → Bool), mm = ths.length - i ∧ i ≤ ths.length ∧ SeenOk f1 ∧ (∀ i, f i = true → f1 i = true) ∧ (∀ y (hy : y < ths.length), y < i → ∀ x ∈ ths[y], f1 x.loc.toNat = true) ∧ LocM h hh c5 f1 ∧ F = [(1, .pointer (some ⟨h.next, 0, none⟩)), (3, .pointer (some ⟨h.next + 1, 0, none⟩)), (7, .int .i64 i)]
theorem loop280c {iv tv av name : Value} {ck : Int} {ths : List (List Atm)} {R : SExit → Fr → AH → Prop} (V : Nest Atm.c 4 h ths av) (hi : ∀ l ∈ ths, l.length ≤ 1000 ∧ ∀ x ∈ l, l0P x.loc) {hh : AH} {f : Nat → Bool} (hf : SeenOk f) (hl : ths.length ≤ 1000) (M : LocM h hh [name, iv, tv, .int .i64 ck, av] f)
    (hR : ∀ h1 f1 (n : Int), SeenOk f1 → (∀ i, f i = true → f1 i = true) → (∀ l ∈ ths, ∀ x ∈ l, f1 x.loc.toNat = true) → LocM h h1 [name, iv, tv, .int .i64 ck, av] f1 → R (.exit 6) [(1, .pointer (some ⟨h.next, 0, none⟩)), (3, .pointer (some ⟨h.next + 1, 0, none⟩)), (7, .int .i64 n), (59, .bool false)] h1) :
    W G (.loop [1, 3, 7] c280_24) [(1, .pointer (some ⟨h.next, 0, none⟩)), (3, .pointer (some ⟨h.next + 1, 0, none⟩)), (7, .int .i64 0)] hh R := by
  refine W_loop (inv280c h ths f [name, iv, tv, .int .i64 ck, av]) ths.length ⟨0, f, rfl, Nat.zero_le _, hf, fun _ h => h, by omega, M, rfl⟩ ?_
  rintro mm F hh ⟨i, f1, rfl, hi1, hf1, hle, hall, M, rfl⟩
  unfold c280_24 c280_17 c280_18 c280_23
  obtain ⟨ta, tc, etv⟩ := V.len
  by_cases h1 : i < ths.length
  · have hw : IntKind.i64.wrap ((i : Int) + 1) = ((i + 1 : Nat) : Int) := by rw [wrap64 (by omega)]; rfl
    have gt := M.t
    rw [etv] at gt
    simp -implicitDefEqProofs [h1, gt]
    have hil := (hi ths[i] (List.getElem_mem h1)).1
    have hix := (hi ths[i] (List.getElem_mem h1)).2
    obtain ⟨b, o, sp, c, c0, g', ro', u, hv, e2, e3, e4, su⟩ := V.at h1
    rw [etv] at hv
    simp only [Value.slice.injEq, true_and] at hv
    obtain ⟨rfl, rfl⟩ := hv
    refine W_loop (inv280ci h ths[i] i f1 [name, iv, tv, .int .i64 ck, av]) ths[i].length ⟨0, f1, rfl, Nat.zero_le _, hf1, fun _ h => h, by omega, M, rfl⟩ ?_
    rintro mm F hh ⟨j, f2, rfl, hj1, hf2, hle2, hall2, M2, rfl⟩
    unfold c280_22 c280_19 c280_20 c280_21
    have e3' : hh.get b = .cells c0 g' ro' := by rw [M2.ext.get b e2]; exact e3
    have gt2 := M2.t
    rw [etv] at gt2
    have gs2 := M2.seen
    obtain ⟨ua, uc, eu⟩ := su.len
    by_cases h2 : j < ths[i].length
    · have hw2 : IntKind.i64.wrap ((j : Int) + 1) = ((j + 1 : Nat) : Int) := by rw [wrap64 (by omega)]; rfl
      obtain ⟨b2, o2, sp2, c2, c20, g2', ro2', hv2, d2, d3, d4, d5, d6⟩ := su.row Atm.c_length h2
      have d3' : hh.get b2 = .cells c20 g2' ro2' := by rw [M2.ext.get b2 d2]; exact d3
      have d62 := d6 2 (by omega)
      have d62' : ((Atm.c ths[i][j]))[2]? = some (.int .i64 ths[i][j].loc) := rfl
      rw [d62'] at d62
      have hx0 := hix ths[i][j] (List.getElem_mem h2)
      have hx := hx0.and
      have hlt : ths[i][j].loc.toNat < 256 := by omega
      rw [hv2] at e4
      simp -implicitDefEqProofs [h1, h2, gt2, gs2, e3', e4, d3', d62, hx.1, hx.2.1, hx.2.2, hw2, hlt, bolC_set]
      refine ⟨ths[i].length - (j + 1), by omega, j + 1, _, rfl, h2, hf2.upd hx0, fun y hy => by unfold updB; split <;> simp [hle2 y hy], fun y hy hyj => ?_, M2.put, rfl⟩
      unfold updB
      by_cases e : y = j
      · subst e; simp
      · split <;> simp [hall2 y hy (by omega)]
    · rw [eu] at e4
      simp -implicitDefEqProofs [h1, h2, gt2, e3', e4, hw]
      refine ⟨ths.length - (i + 1), by omega, i + 1, f2, rfl, h1, hf2, fun y hy => hle2 y (hle y hy), fun y hy hyi x hx => ?_, M2, rfl⟩
      by_cases e : y = i
      · subst e
        obtain ⟨z, hz, rfl⟩ := List.getElem_of_mem hx
        exact hall2 z hz (by omega)
      · exact hle2 _ (hall y hy (by omega) x hx)
  · have gt := M.t
    rw [etv] at gt
    simp -implicitDefEqProofs [h1, gt]
    refine hR _ _ _ hf1 hle (fun l hl x hx => ?_) M
    obtain ⟨z, hz, rfl⟩ := List.getElem_of_mem hl
    exact hall z hz (by omega) x hx
def lettersN (f : Nat → Bool) : List Nat := [120, 121, 122].filter f
def letters (f : Nat → Bool) : List Int := (lettersN f).map fun (i : Nat) => (i : Int)
theorem letters_eq {f : Nat → Bool} (s : SeenOk f) : (List.range' 97 26).filter f = lettersN f := by
  have e : List.range' 97 26 = List.range' 97 23 ++ [120, 121, 122] := by decide
  have e2 : (List.range' 97 23).filter f = [] := by
    rw [List.filter_eq_nil_iff]
    intro i hi hf
    rw [List.mem_range'_1] at hi
    have := s.only i hf
    unfold l0P lP at this; omega
  rw [e, List.filter_append, e2]; rfl
theorem wrap_u8 {n : Int} (h : 0 ≤ n ∧ n < 256) : IntKind.u8.wrap n = n := by
  simp only [IntKind.wrap, IntKind.bits, IntKind.signed]
  simp; omega
theorem wrap_i32 {n : Int} (h : 0 ≤ n ∧ n < 1000) : IntKind.i32.wrap n = n := by
  simp only [IntKind.wrap, IntKind.bits, IntKind.signed]
  simp; omega
def inv280d (h : AH) (f : Nat → Bool) (c5 : List Value) (mm : Nat) (F : Fr) (hh : AH) : Prop :=
  ∃ (k : Nat) (v : Value), mm = 26 - k ∧ k ≤ 26 ∧ (∃ h0, LocM h h0 c5 f ∧ Ext h0 hh) ∧ SlG 1 hh (h.next + 2) ((List.range' 97 k).filter f).length (((List.range' 97 k).filter f).flatMap fun (i : Nat) => bytC i) v ∧
    F = [(3, .pointer (some ⟨h.next + 1, 0, none⟩)), (9, v), (10, .int .i32 ((97 + k : Nat) : Int))]
theorem Locs_spec (g : LocsG G) {iv tv av name : Value} {ck : Int} {t : Tst} {most : Nat} (V : TstV h t iv tv av) (O : TstOk most t)
    (k : ∀ h1 f v, Ext h h1 → SeenOk f → (∀ l ∈ t.ths, ∀ x ∈ l, f x.loc.toNat = true) → SlG 1 h1 h.next (letters f).length ((letters f).flatMap bytC) v → R v h1) :
    WC G 280 [.agg #[name, iv, tv, .int .i64 ck, av]] h R := by
  refine WC_enter g.g280 rfl ?_
  show W G c280_body _ _ (retK [.tmp 2] R)
  have ec : c280_1 = [o_ 3 (.alloc (bolC fun _ => false))] := by unfold c280_1; rw [bolC_zero]
  unfold c280_body
  rw [ec]
  unfold c280_0 c280_2
  have hn : ∀ l ∈ t.ths, l.length ≤ 1000 ∧ ∀ x ∈ l, l0P x.loc := fun l hl => by
    refine ⟨by have := (O.ok l hl).2; omega, fun x hx => ?_⟩
    have := (O.ok l hl).1.ok x hx
    unfold iOk at this
    unfold l0P
    rcases this with h | h | h | h | h | h
    · exact .inr h.2.1
    · exact .inr h.2.1
    · exact .inl h.2
    · exact .inr h.2.1
    · exact .inl h.2.1
    · exact .inl h.2.1
  have M0 : LocM h ((h.alloc (.cells [name, iv, tv, .int .i64 ck, av] false false)).alloc (.cells (bolC fun _ => false) false false)) [name, iv, tv, .int .i64 ck, av] fun _ => false :=
    ⟨((Ext.refl h).alloc _).alloc _, rfl, by simp, by simp⟩
  simp -implicitDefEqProofs
  refine loop280a V (fun x hx => .inr (.inl (O.init x hx))) ⟨fun i hi => by cases hi⟩ (by have := O.inits; omega) M0 fun h1 f1 n1 s1 _ M1 => ?_
  simp -implicitDefEqProofs [c280_7]
  refine loop280b V.ths hn s1 (by rcases O.ths with h | h <;> omega) M1 fun h2 f2 n2 s2 _ a2 M2 => ?_
  simp -implicitDefEqProofs [c280_16]
  refine loop280c V.rows (fun l hl => ⟨by have := (O.row l hl).1; omega, fun x hx => ?_⟩) s2 (by have := O.rows; omega) M2 fun h3 f3 n3 s3 le3 _ M3 => ?_
  · rcases (O.row l hl).2 x hx with h | h
    · exact .inl h
    · exact .inr (.inl h)
  have a3 : ∀ l ∈ t.ths, ∀ x ∈ l, f3 x.loc.toNat = true := fun l hl x hx => le3 _ (a2 l hl x hx)
  have n3' := M3.next
  simp -implicitDefEqProofs [c280_25, c280_26]
  refine W_loop (inv280d h f3 [name, iv, tv, .int .i64 ck, av]) 26 ⟨0, _, rfl, by omega, ⟨h3, M3, Ext.refl _⟩, SlG.nil, rfl⟩ ?_
  rintro mm F hh ⟨j, v, rfl, hj, ⟨h0, M, x⟩, sv, rfl⟩
  unfold c280_31 c280_27 c280_28 c280_29 c280_30 c280_32
  have gs : hh.get (h.next + 1) = .cells (bolC f3) false false := by rw [x.get _ (by have := M.next; omega)]; exact M.seen
  by_cases h1 : j < 26
  · have e1 : (97 : Int) + j ≤ 122 := by omega
    have e2 : (97 : Int) + j < 256 := by omega
    have e3 : (0 : Int) ≤ 97 + j := by omega
    have hw : IntKind.i32.wrap ((97 : Int) + j + 1) = ((97 + (j + 1) : Nat) : Int) := by rw [wrap_i32 (by omega)]; omega
    have hw8 : IntKind.u8.wrap ((97 : Int) + j) = (97 : Int) + j := wrap_u8 (by omega)
    have et : ((97 : Int) + j).toNat = 97 + j := by omega
    have hr : (List.range' 97 (j + 1)).filter f3 = (List.range' 97 j).filter f3 ++ (if f3 (97 + j) = true then [97 + j] else []) := by
      rw [List.range'_concat, List.filter_append]
      simp [List.filter_cons]
    cases hf : f3 (97 + j) with
    | true =>
      rw [hf, if_pos rfl] at hr
      simp -implicitDefEqProofs [e1, e2, e3, gs, et, bolC_get (show 97 + j < 256 by omega), hf, hw8]
      have hlen : ((List.range' 97 j).filter f3).length ≤ 26 := Nat.le_trans (List.length_filter_le _ _) (by simp; omega)
      refine sv.app1 (h0 := h0) (ec := [.int .u8 (97 + j)]) rfl (by omega) x (by rw [M.next]; exact Nat.le_refl _) (by have := x.next; rw [M.next] at this; exact this) fun v' h' s' x' => ?_
      simp -implicitDefEqProofs [hw]
      refine ⟨26 - (j + 1), by omega, j + 1, v', rfl, h1, ⟨h0, M, x'⟩, ?_, by simp⟩
      rw [hr, List.length_append, List.flatMap_append]
      simpa [bytC] using s'
    | false =>
      rw [hf, if_neg (by simp), List.append_nil] at hr
      simp -implicitDefEqProofs [e1, e2, e3, gs, et, bolC_get (show 97 + j < 256 by omega), hf, hw]
      exact ⟨26 - (j + 1), by omega, j + 1, v, rfl, h1, ⟨h0, M, x⟩, by rw [hr]; exact sv, by simp⟩
  · have e1 : ¬ (97 : Int) + j ≤ 122 := by omega
    have hj26 : j = 26 := by omega
    subst hj26
    simp -implicitDefEqProofs [e1]
    refine k hh f3 v (M.ext.trans x) s3 a3 ?_
    rw [letters_eq s3] at sv
    have : (letters f3).flatMap bytC = (lettersN f3).flatMap fun (i : Nat) => bytC i := by simp [letters, List.flatMap_map]
    rw [this, letters, List.length_map]
    exact sv.low (by omega)
end Go.Jq
namespace Go.Jq
variable {G : Nat → SFunc} {h : AH} {R : Value → AH → Prop}
def placeI (ls : List Int) (x : Int) : Int := match ls.findIdx? (fun y => decide (y = x)) with
  | some i => i
  | none => -1
theorem placeI_hit {ls : List Int} {x : Int} {i : Nat} (hi : i < ls.length) (hno : ∀ y (hy : y < ls.length), y < i → ls[y] ≠ x) (hh : ls[i] = x) : placeI ls x = i := by
  have : ls.findIdx? (fun y => decide (y = x)) = some i := by
    rw [List.findIdx?_eq_some_iff_getElem]
    exact ⟨hi, by simpa using hh, fun j hj => by simpa using hno j (by omega) hj⟩
  rw [placeI, this]
theorem placeI_none {ls : List Int} {x : Int} (hno : ∀ y (hy : y < ls.length), ls[y] ≠ x) : placeI ls x = -1 := by
  have : ls.findIdx? (fun y => decide (y = x)) = none := by
    rw [List.findIdx?_eq_none_iff]
    intro y hy
    obtain ⟨i, hi, rfl⟩ := List.getElem_of_mem hy
    simpa using hno i hi
  rw [placeI, this]
theorem placeI_mem {ls : List Int} {x : Int} (h : x ∈ ls) : 0 ≤ placeI ls x ∧ placeI ls x < ls.length := by
  unfold placeI
  split
  · rename_i i e
    rw [List.findIdx?_eq_some_iff_getElem] at e
    have := e.1; omega
  · rename_i e
    rw [List.findIdx?_eq_none_iff] at e
    simpa using e x h
structure CompG (G : Nat → SFunc) : Prop extends LocsG G, SmallG G where
  g281 : G 281 = c281
  g274 : G 274 = c274
  g270 : G 270 = c270
def inv281 (h : AH) (ls : List Int) (x : Int) (c3 : List Value) (mm : Nat) (F : Fr) (hh : AH) : Prop :=
  ∃ i : Nat, mm = ls.length - i ∧ i ≤ ls.length ∧ (∀ y (hy : y < ls.length), y < i → ls[y] ≠ x) ∧ hh = h.alloc (.cells c3 false false) ∧ F = [(1, .int .i64 x), (2, .pointer (some ⟨h.next, 0, none⟩)), (5, .int .i64 i)]
theorem Place_spec (g : CompG G) {ls : List Int} {x : Int} {lv iv tv : Value} (s : SlV 1 h ls.length (ls.flatMap bytC) lv) (hls : ls.length ≤ 1000) (hb : ∀ y ∈ ls, 0 ≤ y ∧ y < 256) (k : ∀ h1, Ext h h1 → R (.int .i64 (placeI ls x)) h1) :
    WC G 281 [.agg #[lv, iv, tv], .int .i64 x] h R := by
  refine WC_enter g.g281 rfl ?_
  show W G c281_body _ _ (retK [.tmp 4] R)
  unfold c281_body c281_0 c281_1
  simp -implicitDefEqProofs
  refine W_loop (inv281 h ls x [lv, iv, tv]) ls.length ⟨0, rfl, Nat.zero_le _, by omega, rfl, rfl⟩ ?_
  rintro mm F hh ⟨i, rfl, hi, hno, rfl, rfl⟩
  have kk := k _ ((Ext.refl h).alloc (.cells [lv, iv, tv] false false))
  unfold c281_6 c281_2 c281_3 c281_4 c281_5 c281_7
  by_cases h1 : i < ls.length
  · have hw : IntKind.i64.wrap ((i : Int) + 1) = ((i + 1 : Nat) : Int) := by rw [wrap64 (by omega)]; rfl
    obtain ⟨b, o, sp, c, c0, g', ro', hv, e2, e3, e4, e5, e6⟩ := s.row bytC_length h1
    have e60 := e6 0 (by omega)
    simp [bytC] at e60
    have hbx := hb ls[i] (List.getElem_mem h1)
    have hw2 : IntKind.i64.wrap ls[i] = ls[i] := wrap64 (by omega)
    subst hv
    by_cases h2 : ls[i] = x
    · have hw3 : IntKind.i64.wrap x = x := by rw [← h2]; exact hw2
      simp -implicitDefEqProofs [h1, e3, e60, show b ≠ h.next by omega, hw3, h2]
      rw [placeI_hit h1 hno h2] at kk
      exact kk
    · simp -implicitDefEqProofs [h1, e3, e60, show b ≠ h.next by omega, hw2, h2, hw]
      refine ⟨ls.length - (i + 1), by omega, i + 1, rfl, h1, fun y hy hyi => ?_, rfl, rfl⟩
      by_cases e : y = i
      · subst e; exact h2
      · exact hno y hy (by omega)
  · obtain ⟨la, lc, rfl⟩ := s.len
    simp -implicitDefEqProofs [h1]
    rw [placeI_none fun y hy => hno y hy (by omega)] at kk
    exact kk
def nil3 : List Value := [.slice none 0 0, .slice none 0 0, .slice none 0 0]
structure CmM (hm hh : AH) (lv : Value) (init : List Int) (ths : List (List Ins)) : Prop where
  ext : Ext hm hh
  hi : hm.next < hh.next
  p : ∃ iv tv tvs, hh.get hm.next = .cells [lv, iv, tv] false false ∧ SlG 1 hh (hm.next + 1) init.length (init.flatMap intC) iv ∧ (init = [] → iv = .slice none 0 0) ∧
    SlG 1 hh (hm.next + 1) ths.length tvs tv ∧ All2 (InsG hh (hm.next + 1)) ths tvs ∧ (ths = [] → tv = .slice none 0 0)
theorem CmM.more {hm hh h1 : AH} {lv : Value} {init : List Int} {ths : List (List Ins)} (M : CmM hm hh lv init ths) (x : Ext hh h1) : CmM hm h1 lv init ths := by
  obtain ⟨iv, tv, tvs, t1, t2, t3, t4, t5, t6⟩ := M.p
  exact ⟨M.ext.trans x, Nat.lt_of_lt_of_le M.hi x.next, iv, tv, tvs, by rw [x.get _ M.hi]; exact t1, t2.ext x, t3, t4.ext x, t5.imp fun l u _ _ hp => ⟨hp.1.ext x, hp.2⟩, t6⟩
theorem intC_int {l : List Int} (h : l ≠ []) : ∃ n : Int, Value.int .i64 n ∈ l.flatMap intC := by
  cases l with
  | nil => exact absurd rfl h
  | cons i l => exact ⟨i, by simp [intC]⟩
theorem CmM.init {hm hh : AH} {lv iv tv : Value} {init : List Int} {n : Int} {K : Value → AH → Prop} (M : CmM hm hh lv init []) (hlen : init.length ≤ 1000) (ht : hh.get hm.next = .cells [lv, iv, tv] false false)
    (hK : ∀ v' h', h'.get hm.next = hh.get hm.next → CmM hm (h'.put hm.next (.cells [lv, v', tv] false false)) lv (init ++ [n]) [] → (∃ a n c, v' = .slice a n c) → K v' h') :
    getvh (sappend (hh.alloc (.cells [.int .i64 n] false false)) 1 8 iv (.slice (some ⟨hh.next, 0, none⟩) 1 1)) K := by
  obtain ⟨iv', tv', tvs, t1, t2, t3, t4, t5, t6⟩ := M.p
  rw [ht] at t1
  simp only [ABlk.cells.injEq, List.cons.injEq, and_true, true_and] at t1
  obtain ⟨rfl, rfl⟩ := t1
  obtain rfl := t6 rfl
  have hn := M.hi
  refine t2.app3 (j := 1) (ec := [.int .i64 n]) rfl (by omega) (by omega) (by omega) fun v' h' s' n' g' _ keep => ?_
  refine hK v' h' (g' _ (by omega)) ⟨⟨by have := M.ext.next; simp; omega, fun y hy => by simp [show y ≠ hm.next by omega, g' y (by omega), M.ext.get y hy]⟩, by simp; omega, v', .slice none 0 0, [], by simp, ?_, fun e => by simp at e, SlG.nil, .nil, fun _ => rfl⟩ s'.is_slice
  rw [List.length_append, List.flatMap_append]
  exact SlG.ext1 (x := h') (b := hm.next) s' ((Ext1.refl h').put) (by omega)
theorem CmM.thread {hm hh : AH} {lv iv tv s : Value} {init : List Int} {ths : List (List Ins)} {li : List Ins} {K : Value → AH → Prop} (M : CmM hm hh lv init ths) (hs : InsG hh (hm.next + 1) li s) (hlen : ths.length ≤ 1000) (ht : hh.get hm.next = .cells [lv, iv, tv] false false)
    (hK : ∀ v' h', h'.get hm.next = hh.get hm.next → CmM hm (h'.put hm.next (.cells [lv, iv, v'] false false)) lv init (ths ++ [li]) → (∃ a n c, v' = .slice a n c) → K v' h') :
    getvh (sappend (hh.alloc (.cells [s] false false)) 1 24 tv (.slice (some ⟨hh.next, 0, none⟩) 1 1)) K := by
  obtain ⟨iv', tv', tvs, t1, t2, t3, t4, t5, t6⟩ := M.p
  rw [ht] at t1
  simp only [ABlk.cells.injEq, List.cons.injEq, and_true, true_and] at t1
  obtain ⟨rfl, rfl⟩ := t1
  have hn := M.hi
  have notin : ∀ n : Int, Value.int .i64 n ∉ tvs := fun n hn => by
    obtain ⟨l, _, hp⟩ := t5.mem hn
    obtain ⟨_, _, _, e⟩ := hp.1.is_slice
    simp at e
  refine t4.app3 (j := 1) (ec := [s]) rfl (by omega) (by omega) (by omega) fun v' h' s' n' g' _ keep => ?_
  have kins : ∀ (l : List Ins) u, InsG hh (hm.next + 1) l u → InsG h' (hm.next + 1) l u := fun l u hp => by
    refine ⟨keep _ _ _ _ _ hp.1 ?_, hp.2⟩
    by_cases hl : l = []
    · exact .inl (hp.2 hl)
    · obtain ⟨n, hn⟩ := ins_int hl
      exact .inr ⟨_, hn, notin n⟩
  have kini : SlG 1 h' (hm.next + 1) init.length (init.flatMap intC) iv := by
    refine keep _ _ _ _ _ t2 ?_
    by_cases hl : init = []
    · exact .inl (t3 hl)
    · obtain ⟨n, hn⟩ := intC_int hl
      exact .inr ⟨_, hn, notin n⟩
  have xp : ∀ o, Ext1 hm.next h' (h'.put hm.next o) := fun o => (Ext1.refl h').put
  refine hK v' h' (g' _ (by omega)) ⟨⟨by have := M.ext.next; simp; omega, fun y hy => by simp [show y ≠ hm.next by omega, g' y (by omega), M.ext.get y hy]⟩, by simp; omega, iv, v', tvs ++ [s], by simp, kini.ext1 (xp _) (by omega), t3, ?_, ?_, fun e => by simp at e⟩ s'.is_slice
  · rw [List.length_append]
    exact s'.ext1 (xp _) (by omega)
  · exact (t5.imp fun l u _ _ hp => (⟨(kins l u hp).1.ext1 (xp _) (by omega), hp.2⟩ : InsG _ _ l u)).snoc ⟨(kins li s hs).1.ext1 (xp _) (by omega), hs.2⟩
end Go.Jq
namespace Go.Jq
variable {G : Nat → SFunc} {h : AH} {R : Value → AH → Prop}
def cmpI (ls : List Int) (x : Ins) : Ins := if x.loc = 0 then x else { x with loc := placeI ls x.loc }
theorem letters_mem {f : Nat → Bool} {x : Int} (h : lP x) (hf : f x.toNat = true) : x ∈ letters f := by
  unfold letters lettersN
  refine List.mem_map.2 ⟨x.toNat, List.mem_filter.2 ⟨?_, hf⟩, ?_⟩
  · rcases h with rfl | rfl | rfl <;> decide
  · rcases h with rfl | rfl | rfl <;> rfl
theorem letters_len {f : Nat → Bool} : (letters f).length ≤ 3 := by
  unfold letters lettersN
  rw [List.length_map]
  exact List.length_filter_le _ _
theorem letters_byte {f : Nat → Bool} : ∀ y ∈ letters f, 0 ≤ y ∧ y < 256 := by
  intro y hy
  unfold letters lettersN at hy
  rw [List.mem_map] at hy
  obtain ⟨i, hi, rfl⟩ := hy
  have := (List.mem_filter.1 hi).1
  simp at this
  omega
def plP (n : Nat) (x : Int) : Prop := 0 ≤ x ∧ x < n
theorem iOk.cmp {ls : List Int} {x : Ins} (h : iOk lP x) (hm : lP x.loc → x.loc ∈ ls) : iOk (plP ls.length) (cmpI ls x) := by
  have n0 : lP x.loc → x.loc ≠ 0 := fun h => by unfold lP at h; omega
  have pm : ∀ h : lP x.loc, plP ls.length (placeI ls x.loc) := fun h => placeI_mem (hm h)
  unfold iOk at h ⊢
  rcases h with h | h | h | h | h | h
  · have e : cmpI ls x = { x with loc := placeI ls x.loc } := if_neg (n0 h.2.1)
    rw [e]; exact .inl ⟨h.1, pm h.2.1, h.2.2⟩
  · have e : cmpI ls x = { x with loc := placeI ls x.loc } := if_neg (n0 h.2.1)
    rw [e]; exact .inr (.inl ⟨h.1, pm h.2.1, h.2.2⟩)
  · have e : cmpI ls x = x := if_pos h.2
    rw [e]; exact .inr (.inr (.inl h))
  · have e : cmpI ls x = { x with loc := placeI ls x.loc } := if_neg (n0 h.2.1)
    rw [e]; exact .inr (.inr (.inr (.inl ⟨h.1, pm h.2.1, h.2.2⟩)))
  · have e : cmpI ls x = x := if_pos h.2.1
    rw [e]; exact .inr (.inr (.inr (.inr (.inl h))))
  · have e : cmpI ls x = x := if_pos h.2.1
    rw [e]; exact .inr (.inr (.inr (.inr (.inr h))))
theorem cmpI_kind {ls : List Int} {x : Ins} : (cmpI ls x).kind = x.kind := by unfold cmpI; split <;> rfl
theorem TOk.cmp {ls : List Int} {l : List Ins} (h : TOk lP l) (hm : ∀ x ∈ l, lP x.loc → x.loc ∈ ls) : TOk (plP ls.length) (l.map (cmpI ls)) := by
  refine ⟨fun i hi => ?_, fun k hk e => ?_⟩
  · obtain ⟨x, hx, rfl⟩ := List.mem_map.1 hi
    exact (h.ok x hx).cmp (hm x hx)
  · rw [List.length_map] at hk ⊢
    rw [List.getElem_map, cmpI_kind] at e
    exact h.skip k hk e
theorem memN_cmp {ls : List Int} {l : List Ins} : memN (l.map (cmpI ls)) = memN l := by
  unfold memN
  rw [List.filter_map, List.length_map]
  congr 1
  refine List.filter_congr fun x _ => ?_
  simp [Function.comp, isMem, cmpI_kind]
structure Prg where
  locs : List Int
  init : List Int
  ths : List (List Ins)
structure PrgV (h : AH) (p : Prg) (lv iv tv : Value) : Prop where
  locs : SlV 1 h p.locs.length (p.locs.flatMap bytC) lv
  init : SlV 1 h p.init.length (p.init.flatMap intC) iv
  ths : Nest Ins.c 9 h p.ths tv
theorem PrgV.ext {h1 : AH} {p : Prg} {lv iv tv : Value} (v : PrgV h p lv iv tv) (x : Ext h h1) : PrgV h1 p lv iv tv := ⟨v.locs.ext x, v.init.ext x, v.ths.ext x⟩
structure PrgOk (most : Nat) (p : Prg) : Prop where
  locs : ∃ f, SeenOk f ∧ p.locs = letters f
  init : p.init.length = p.locs.length
  ths : p.ths.length = 2 ∨ p.ths.length = 3
  ok : ∀ l ∈ p.ths, TOk (plP p.locs.length) l ∧ l.length ≤ 6
  mem : (p.ths.map memN).sum ≤ most
theorem PrgOk.locs_len {most : Nat} {p : Prg} (o : PrgOk most p) : p.locs.length ≤ 3 := by
  obtain ⟨f, _, e⟩ := o.locs
  rw [e]; exact letters_len
def fr274 (h hm : AH) (r : Fr) : Fr := (1, .pointer (some ⟨h.next, 0, none⟩)) :: (2, .pointer (some ⟨h.next + 1, 0, none⟩)) :: (3, .pointer (some ⟨hm.next, 0, none⟩)) :: r
def inv274a (h hm hh : AH) (i : Int) (n : Nat) (mm : Nat) (F : Fr) (h' : AH) : Prop :=
  ∃ (k : Nat) (z : Int), mm = n - k ∧ k ≤ n ∧ h' = hh ∧ F = fr274 h hm [(4, .int .i64 i), (5, .int .i64 z), (6, .int .i64 k)]
theorem loop274a {hm hh : AH} {name lv iv tv ck av iv2 tv2 : Value} {inits : List (Int × Int)} {ls : List Int} {i : Nat} {R : SExit → Fr → AH → Prop}
    (g1 : hh.get h.next = .cells [name, iv, tv, ck, av] false false) (g3 : hh.get hm.next = .cells [lv, iv2, tv2] false false) (s : SlV 2 hh inits.length (inits.flatMap i2c) iv) (sl : SlV 1 hh ls.length (ls.flatMap bytC) lv)
    (hi : i < ls.length) (hn : inits.length ≤ 1000) (hb : ∀ y ∈ ls, 0 ≤ y ∧ y < 256) (hls : ls.length ≤ 1000)
    (hR : ∀ (z k : Int), R (.exit 2) (fr274 h hm [(4, .int .i64 i), (5, .int .i64 z), (6, .int .i64 k), (25, .bool false)]) hh) :
    W G (.loop [1, 2, 3, 4, 5, 6] c274_10) (fr274 h hm [(4, .int .i64 i), (5, .int .i64 0), (6, .int .i64 0)]) hh R := by
  refine W_loop (inv274a h hm hh i inits.length) inits.length ⟨0, 0, rfl, by omega, rfl, rfl⟩ ?_
  rintro mm F h' ⟨k, z, rfl, hk, rfl, rfl⟩
  unfold c274_10 c274_6 c274_7 c274_8 c274_9 fr274
  by_cases h1 : k < inits.length
  · obtain ⟨b, o, sp, c, c0, g, ro, rfl, e2, e3, e4, e5, e6⟩ := s.row i2c_length h1
    obtain ⟨b', o', sp', c', c0', g', ro', rfl, f2, f3, f4, f5, f6⟩ := sl.row bytC_length hi
    have a0 := e6 0 (by omega)
    have a1 := e6 1 (by omega)
    have b0 := f6 0 (by omega)
    simp [i2c] at a0 a1
    simp [bytC] at b0
    have hw : IntKind.i64.wrap ((k : Int) + 1) = ((k + 1 : Nat) : Int) := by rw [wrap64 (by omega)]; rfl
    have hbx := hb ls[i] (List.getElem_mem hi)
    have hw2 : IntKind.i64.wrap ls[i] = ls[i] := wrap64 (by omega)
    by_cases h2 : inits[k].1 = ls[i]
    · simp -implicitDefEqProofs [g1, g3, h1, hi, e3, f3, a0, a1, b0, hw, hw2, h2]
      exact ⟨inits.length - (k + 1), by omega, k + 1, inits[k].2, rfl, h1, rfl, rfl⟩
    · simp -implicitDefEqProofs [g1, g3, h1, hi, e3, f3, a0, a1, b0, hw, hw2, h2]
      exact ⟨inits.length - (k + 1), by omega, k + 1, z, rfl, h1, rfl, rfl⟩
  · obtain ⟨sa, sc, rfl⟩ := s.len
    simp -implicitDefEqProofs [g1, h1]
    exact hR z k
def inv274b (h hm : AH) (lv : Value) (n : Nat) (mm : Nat) (F : Fr) (hh : AH) : Prop :=
  ∃ (i : Nat) (init : List Int), mm = n - i ∧ i ≤ n ∧ init.length = i ∧ CmM hm hh lv init [] ∧ F = fr274 h hm [(4, .int .i64 i)]
theorem loop274b {hm hh : AH} {name lv iv tv ck av : Value} {inits : List (Int × Int)} {ls : List Int} {R : SExit → Fr → AH → Prop} (hh1 : h.next + 2 ≤ hm.next)
    (g1 : hm.get h.next = .cells [name, iv, tv, ck, av] false false) (s : SlV 2 hm inits.length (inits.flatMap i2c) iv) (sl : SlV 1 hm ls.length (ls.flatMap bytC) lv)
    (hn : inits.length ≤ 1000) (hb : ∀ y ∈ ls, 0 ≤ y ∧ y < 256) (hls : ls.length ≤ 1000) (M : CmM hm hh lv [] [])
    (hR : ∀ (i : Int) (h1 : AH) (init : List Int), init.length = ls.length → CmM hm h1 lv init [] → R (.exit 0) (fr274 h hm [(4, .int .i64 i), (18, .bool false)]) h1) :
    W G (.loop [1, 2, 3, 4] c274_13) (fr274 h hm [(4, .int .i64 0)]) hh R := by
  refine W_loop (inv274b h hm lv ls.length) ls.length ⟨0, [], rfl, by omega, rfl, M, rfl⟩ ?_
  rintro mm F hh ⟨i, init, rfl, hi, hl, M, rfl⟩
  obtain ⟨iv2, tv2, tvs, t1, t2, t3, t4, t5, t6⟩ := M.p
  obtain ⟨la, lc, elv⟩ := sl.len
  unfold c274_13 c274_3 c274_4 c274_5 fr274
  have hlen : lv = .slice la ls.length lc := elv
  have t1' : hh.get hm.next = .cells [.slice la ls.length lc, iv2, tv2] false false := by rw [t1, hlen]
  by_cases h1 : i < ls.length
  · simp -implicitDefEqProofs [t1', h1]
    have hw : IntKind.i64.wrap ((i : Int) + 1) = ((i + 1 : Nat) : Int) := by rw [wrap64 (by omega)]; rfl
    refine loop274a (hh := hh) (lv := lv) (iv2 := iv2) (tv2 := tv2) (by rw [M.ext.get _ (by omega)]; exact g1) t1 (s.ext M.ext) (sl.ext M.ext) h1 hn hb hls fun z k => ?_
    simp -implicitDefEqProofs [fr274, c274_11, t1']
    refine M.init (by omega) t1 fun v' h' e' M' hv' => ?_
    obtain ⟨va, vn, vc, rfl⟩ := hv'
    rw [t1] at e'
    simp -implicitDefEqProofs [e', c274_12, hw]
    exact ⟨ls.length - (i + 1), by omega, i + 1, init ++ [z], rfl, h1, by simp [hl], M', rfl⟩
  · simp -implicitDefEqProofs [t1', h1]
    exact hR i hh init (by omega) M
theorem InsG.ext {hh h1 : AH} {lo : Nat} {l : List Ins} {u : Value} (g : InsG hh lo l u) (x : Ext hh h1) : InsG h1 lo l u := ⟨g.1.ext x, g.2⟩
def inv274c (h hm h0 : AH) (lv : Value) (ls : List Int) (i : Int) (l : List Ins) (mm : Nat) (F : Fr) (hh : AH) : Prop :=
  ∃ (k : Nat) (s : Value), mm = l.length - k ∧ k ≤ l.length ∧ Ext h0 hh ∧ InsG hh h0.next ((l.take k).map (cmpI ls)) s ∧ F = fr274 h hm [(7, .int .i64 i), (8, s), (9, .int .i64 k)]
theorem Ins.c_loc {x : Ins} {y : Int} : x.c.set 2 (.int .i64 y) = ({ x with loc := y } : Ins).c := rfl
set_option maxHeartbeats 2000000 in
theorem loop274c (g : CompG G) {hm h0 : AH} {name lv iv tv ck av : Value} {init : List Int} {done : List (List Ins)} {ths : List (List Ins)} {ls : List Int} {i : Nat} {R : SExit → Fr → AH → Prop} (hh1 : h.next + 2 ≤ hm.next)
    (g1 : hm.get h.next = .cells [name, iv, tv, ck, av] false false) (st : Nest Ins.c 9 hm ths tv) (sl : SlV 1 hm ls.length (ls.flatMap bytC) lv)
    (hb : ∀ y ∈ ls, 0 ≤ y ∧ y < 256) (hls : ls.length ≤ 1000) (M : CmM hm h0 lv init done) (hi : i < ths.length) (hl : ths[i].length ≤ 1000)
    (hR : ∀ (k : Int) (h1 : AH) (s : Value), Ext h0 h1 → InsG h1 h0.next (ths[i].map (cmpI ls)) s → R (.exit 6) (fr274 h hm [(7, .int .i64 i), (8, s), (9, .int .i64 k), (67, .bool false)]) h1) :
    W G (.loop [1, 2, 3, 7, 8, 9] c274_24) (fr274 h hm [(7, .int .i64 i), (8, .slice none 0 0), (9, .int .i64 0)]) h0 R := by
  refine W_loop (inv274c h hm h0 lv ls i ths[i]) ths[i].length ⟨0, _, rfl, by omega, Ext.refl _, ⟨SlG.nil, fun _ => rfl⟩, rfl⟩ ?_
  rintro mm F hh ⟨k, s, rfl, hk, x, sg, rfl⟩
  have M1 := M.more x
  obtain ⟨iv2, tv2, tvs, t1, _⟩ := M1.p
  have g1' : hh.get h.next = .cells [name, iv, tv, ck, av] false false := by rw [M1.ext.get _ (by omega)]; exact g1
  obtain ⟨b, o, sp, c, c0, gg, ro, u, rfl, e2, e3, e4, e5⟩ := (st.ext M1.ext).at hi
  have hnx := M1.ext.next
  have hnh := M.hi
  have hxn := x.next
  unfold c274_24 c274_18 c274_19 c274_20 fr274
  by_cases h1 : k < ths[i].length
  · obtain ⟨b', o', sp', c', c0', g', ro', rfl, f2, f3, f4, f5, f6⟩ := e5.row Ins.c_length h1
    have hw : IntKind.i64.wrap ((k : Int) + 1) = ((k + 1 : Nat) : Int) := by rw [wrap64 (by omega)]; rfl
    have lc : (ths[i][k].c).length = 9 := rfl
    have p1 : h.next ≠ hh.next := by omega
    have p2 : b' ≠ hh.next := by omega
    have p3 : hm.next ≠ hh.next := by omega
    have cloc : ∀ hp : 2 < (ths[i][k]).c.length, (ths[i][k]).c[2]'hp = .int .i64 ths[i][k].loc := fun _ => rfl
    have finish : ∀ (y : Ins) (h2 : AH), y = cmpI ls ths[i][k] → Ext h0 h2 → InsG h2 h0.next ((ths[i].take k).map (cmpI ls)) s → h2.get hh.next = .cells y.c false false → hh.next < h2.next →
        W G (.reg [1, 2, 3, 7, 8, 9] c274_22) [(1, .pointer (some ⟨h.next, 0, none⟩)), (2, .pointer (some ⟨h.next + 1, 0, none⟩)), (3, .pointer (some ⟨hm.next, 0, none⟩)), (7, .int .i64 i), (8, s), (9, .int .i64 k), (10, .pointer (some ⟨hh.next, 0, none⟩))] h2
          (blockK 7 (thenK (W G (.reg [1, 2, 3, 7, 8, 9] c274_23)) (loopK (fun F1 h1 => ∃ m, m < ths[i].length - k ∧ inv274c h hm h0 lv ls i ths[i] m F1 h1) R))) := by
      intro y h2 hy x2 sg2 gy hn2
      unfold c274_22
      have ly : y.c.length = 9 := rfl
      simp -implicitDefEqProofs [gy, ly, splice, show zi 9 = [.int .i64 0, .int .i64 0, .int .i64 0, .int .i64 0, .int .i64 0, .int .i64 0, .int .i64 0, .int .i64 0, .int .i64 0] from rfl]
      have hlen : ((ths[i].take k).map (cmpI ls)).length = k := by simp; omega
      refine sg2.1.app1 (h0 := h0) (ec := y.c) rfl (by omega) x2 (Nat.le_refl _) x2.next fun v' h' s' x' => ?_
      simp -implicitDefEqProofs [c274_23, hw]
      have et : (ths[i].take (k + 1)).map (cmpI ls) = (ths[i].take k).map (cmpI ls) ++ [y] := by
        rw [List.take_add_one, List.getElem?_eq_getElem h1, List.map_append]
        simp [hy]
      refine ⟨ths[i].length - (k + 1), by omega, k + 1, v', rfl, h1, x', ⟨?_, ?_⟩, rfl⟩
      · rw [et, List.length_append, List.flatMap_append]
        simpa using s'
      · intro e
        rw [et] at e
        simp at e
    simp -implicitDefEqProofs only [W_reg] at finish
    by_cases h2 : ths[i][k].loc = 0
    · have cy : cmpI ls ths[i][k] = ths[i][k] := if_pos h2
      simp -implicitDefEqProofs [g1', h1, e3, e4, f3, f4, f5, hi, lc, splice, zi, cloc, h2]
      refine finish _ _ cy.symm ((x.alloc _).put (by omega) _) ⟨sg.1.ext (((Ext.refl hh).alloc _).put (Nat.le_refl _) _), sg.2⟩ (by simp) (by simp)
    · have cy : cmpI ls ths[i][k] = { ths[i][k] with loc := placeI ls ths[i][k].loc } := if_neg h2
      simp -implicitDefEqProofs [g1', h1, e3, e4, f3, f4, f5, hi, lc, splice, zi, cloc, h2]
      simp -implicitDefEqProofs [c274_21, t1, p3, zi, cloc, lc]
      have x1 : Ext hh ((hh.alloc (.cells [.int .i64 0, .int .i64 0, .int .i64 0, .int .i64 0, .int .i64 0, .int .i64 0, .int .i64 0, .int .i64 0, .int .i64 0] false false)).put hh.next (.cells (ths[i][k]).c false false)) := ((Ext.refl hh).alloc _).put (Nat.le_refl _) _
      refine Place_spec g (ls := ls) ((sl.ext M1.ext).ext x1) hls hb fun h3 x3 => ?_
      have g3 : h3.get hh.next = .cells (ths[i][k]).c false false := by rw [x3.get _ (by simp)]; simp
      have n3 := x3.next
      simp at n3
      simp -implicitDefEqProofs [g3, lc]
      have xx : Ext hh (h3.put hh.next (.cells (({ ths[i][k] with loc := placeI ls ths[i][k].loc } : Ins)).c false false)) := (x1.trans x3).put (Nat.le_refl _) _
      refine finish _ _ cy.symm (x.trans xx) ⟨sg.1.ext xx, sg.2⟩ (by simp; rfl) (by simp; omega)
  · obtain ⟨sa, sc, rfl⟩ := e5.len
    simp -implicitDefEqProofs [g1', hi, e3, e4, h1]
    have : ths[i].take k = ths[i] := List.take_of_length_le (by omega)
    rw [this] at sg
    exact hR k hh s x sg
def inv274d (h hm : AH) (lv : Value) (init : List Int) (ls : List Int) (ths : List (List Ins)) (mm : Nat) (F : Fr) (hh : AH) : Prop :=
  ∃ i : Nat, mm = ths.length - i ∧ i ≤ ths.length ∧ CmM hm hh lv init ((ths.take i).map fun l => l.map (cmpI ls)) ∧ F = fr274 h hm [(7, .int .i64 i)]
set_option maxHeartbeats 2000000 in
theorem loop274d (g : CompG G) {hm hh : AH} {name lv iv tv ck av : Value} {init : List Int} {ths : List (List Ins)} {ls : List Int} {R : SExit → Fr → AH → Prop} (hh1 : h.next + 2 ≤ hm.next)
    (g1 : hm.get h.next = .cells [name, iv, tv, ck, av] false false) (st : Nest Ins.c 9 hm ths tv) (sl : SlV 1 hm ls.length (ls.flatMap bytC) lv)
    (hb : ∀ y ∈ ls, 0 ≤ y ∧ y < 256) (hls : ls.length ≤ 1000) (M : CmM hm hh lv init []) (hn : ths.length ≤ 1000) (hl : ∀ l ∈ ths, l.length ≤ 1000)
    (hR : ∀ (i : Int) (h1 : AH), CmM hm h1 lv init (ths.map fun l => l.map (cmpI ls)) → R (.exit 4) (fr274 h hm [(7, .int .i64 i), (57, .bool false)]) h1) :
    W G (.loop [1, 2, 3, 7] c274_27) (fr274 h hm [(7, .int .i64 0)]) hh R := by
  refine W_loop (inv274d h hm lv init ls ths) ths.length ⟨0, rfl, by omega, M, rfl⟩ ?_
  rintro mm F hh ⟨i, rfl, hi, M, rfl⟩
  have g1' : hh.get h.next = .cells [name, iv, tv, ck, av] false false := by rw [M.ext.get _ (by omega)]; exact g1
  obtain ⟨ta, tc, etv⟩ := st.len
  rw [etv] at g1'
  obtain ⟨iv2, tv2, tvs, t1, _⟩ := M.p
  unfold c274_27 c274_15 c274_16 c274_17 fr274
  have hnh := M.hi
  by_cases h1 : i < ths.length
  · have hw : IntKind.i64.wrap ((i : Int) + 1) = ((i + 1 : Nat) : Int) := by rw [wrap64 (by omega)]; rfl
    simp -implicitDefEqProofs [g1', h1]
    refine loop274c g hh1 g1 st sl hb hls M h1 (hl _ (List.getElem_mem h1)) fun k h2 s x sg => ?_
    have M2 := M.more x
    have t1' : h2.get hm.next = .cells [lv, iv2, tv2] false false := by rw [x.get _ hnh]; exact t1
    obtain ⟨sa, sn, sc, rfl⟩ := sg.1.is_slice
    simp -implicitDefEqProofs [fr274, c274_25, t1']
    refine M2.thread ⟨sg.1.low (by omega), sg.2⟩ (by simp; omega) t1' fun v' h' e' M' hv' => ?_
    obtain ⟨va, vn, vc, rfl⟩ := hv'
    rw [t1'] at e'
    simp -implicitDefEqProofs [e', c274_26, hw]
    refine ⟨ths.length - (i + 1), by omega, i + 1, rfl, h1, ?_, rfl⟩
    have et : (ths.take (i + 1)).map (fun l => l.map (cmpI ls)) = (ths.take i).map (fun l => l.map (cmpI ls)) ++ [ths[i].map (cmpI ls)] := by
      rw [List.take_add_one, List.getElem?_eq_getElem h1, List.map_append]
      simp
    rw [et]; exact M'
  · simp -implicitDefEqProofs [g1', h1]
    have : ths.take i = ths := List.take_of_length_le (by omega)
    rw [this] at M
    exact hR i hh M
end Go.Jq
namespace Go.Jq
variable {G : Nat → SFunc} {h : AH} {R : Value → AH → Prop}
theorem TstV.ext {h1 : AH} {t : Tst} {iv tv av : Value} (v : TstV h t iv tv av) (x : Ext h h1) : TstV h1 t iv tv av := by
  obtain ⟨tvs, a1, a2⟩ := v.ths
  obtain ⟨rvs, b1, b2⟩ := v.rows
  exact ⟨v.init.ext x, ⟨tvs, a1.ext x, a2.imp fun _ _ _ _ s => s.ext x⟩, ⟨rvs, b1.ext x, b2.imp fun _ _ _ _ s => s.ext x⟩⟩
theorem SlG.up {k : Nat} {x y : AH} {lo n : Nat} {cs : List Value} {v : Value} (s : SlG k x lo n cs v) (hn : x.next ≤ y.next) (hg : ∀ i, lo ≤ i → i < x.next → y.get i = x.get i) : SlG k y lo n cs v := by
  obtain ⟨s1, s2⟩ := s
  refine ⟨s1, ?_⟩
  rcases s2 with s2 | ⟨b, f1, f2, f3, f4⟩
  · exact .inl s2
  · exact .inr ⟨b, f1, Nat.lt_of_lt_of_le f2 hn, by rw [hg b f1 f2]; exact f3, f4⟩
set_option maxHeartbeats 2000000 in
theorem Compile_spec (g : CompG G) {iv tv av name : Value} {ck : Int} {t : Tst} {most : Nat} (V : TstV h t iv tv av) (O : TstOk most t)
    (k : ∀ h1 p lv iv tv, Ext h h1 → (∀ y, h1.next ≤ y.next → (∀ i, h.next ≤ i → i < h1.next → y.get i = h1.get i) → PrgV y p lv iv tv) → PrgOk most p → R (.agg #[lv, iv, tv]) h1) : WC G 274 [.agg #[name, iv, tv, .int .i64 ck, av]] h R := by
  refine WC_enter g.g274 rfl ?_
  show W G c274_body _ _ (retK [.cellN 2 3] R)
  unfold c274_body c274_0 c274_1
  have x0 : Ext h ((h.alloc (.cells [name, iv, tv, .int .i64 ck, av] false false)).alloc (.cells nil3 false false)) := ((Ext.refl h).alloc _).alloc _
  unfold nil3 at x0
  simp -implicitDefEqProofs
  refine Locs_spec g.toLocsG (V.ext x0) O fun h2 f lv x2 so hall sl => ?_
  have n2 := x2.next
  simp at n2
  have sl1 : SlG 1 h2 (h.next + 2) (letters f).length ((letters f).flatMap bytC) lv := sl
  obtain ⟨la, lc, elv⟩ := sl1.len
  have gt : h2.get h.next = .cells [name, iv, tv, .int .i64 ck, av] false false := by rw [x2.get _ (by simp)]; simp
  have go : h2.get (h.next + 1) = .cells [.slice none 0 0, .slice none 0 0, .slice none 0 0] false false := by rw [x2.get _ (by simp)]; simp
  have M0 : CmM h2 ((h2.alloc (.cells [.slice none 0 0, .slice none 0 0, .slice none 0 0] false false)).put h2.next (.cells [lv, .slice none 0 0, .slice none 0 0] false false)) lv [] [] :=
    ⟨((Ext.refl h2).alloc _).put (Nat.le_refl _) _, by simp, .slice none 0 0, .slice none 0 0, [], by simp, SlG.nil, fun _ => rfl, SlG.nil, .nil, fun _ => rfl⟩
  rw [elv] at M0 ⊢
  simp -implicitDefEqProofs [splice, c274_2]
  rw [← elv] at M0 ⊢
  have V2 := (V.ext x0).ext x2
  have hlen := letters_len (f := f)
  refine loop274b (name := name) (tv := tv) (ck := .int .i64 ck) (av := av) (by omega) gt V2.init sl1.view (by have := O.inits; omega) letters_byte (by omega) M0 fun i h3 init hinit M3 => ?_
  simp -implicitDefEqProofs [fr274, c274_14]
  refine loop274d g (name := name) (iv := iv) (ck := .int .i64 ck) (av := av) (by omega) gt V2.ths sl1.view letters_byte (by omega) M3 (by rcases O.ths with h | h <;> omega) (fun l hl => by have := (O.ok l hl).2; omega) fun i h4 M4 => ?_
  obtain ⟨iv2, tv2, tvs, t1, t2, t3, t4, t5, t6⟩ := M4.p
  have hn4 := M4.hi
  have x4 := M4.ext
  have go4 : h4.get (h.next + 1) = .cells [.slice none 0 0, .slice none 0 0, .slice none 0 0] false false := by rw [x4.get _ (by omega)]; exact go
  have p1 : ¬ h.next + 1 = h2.next := by omega
  simp -implicitDefEqProofs [fr274, c274_28, t1, go4, splice]
  refine k _ ⟨letters f, init, t.ths.map fun l => l.map (cmpI (letters f))⟩ lv iv2 tv2 ?_ (fun y hy gy => ?_) ⟨⟨f, so, rfl⟩, hinit, ?_, ?_, ?_⟩
  · refine ⟨by simp; have := x4.next; omega, fun y hy => ?_⟩
    rw [AH.put_get, if_neg (by omega), x4.get y (by omega), x2.get y (by simp; omega)]
    exact x0.get y hy
  · have gy' : ∀ i, h.next + 2 ≤ i → i < h4.next → y.get i = h4.get i := fun i h1 h2 => by
      rw [gy i (by omega) h2, AH.put_get, if_neg (by omega)]
    refine ⟨((sl1.ext x4).up hy gy').view, (t2.up hy fun i h1 h2 => gy' i (by omega) h2).view, ⟨tvs, (t4.up hy fun i h1 h2 => gy' i (by omega) h2).view, t5.imp fun l u _ _ s => (s.1.up hy fun i h1 h2 => gy' i (by omega) h2).view⟩⟩
  · show (t.ths.map _).length = 2 ∨ (t.ths.map _).length = 3
    rw [List.length_map]; exact O.ths
  · intro l hl
    obtain ⟨l0, hl0, rfl⟩ := List.mem_map.1 hl
    exact ⟨(O.ok l0 hl0).1.cmp fun x hx hp => letters_mem hp (hall l0 hl0 x hx), by rw [List.length_map]; exact (O.ok l0 hl0).2⟩
  · show ((t.ths.map _).map memN).sum ≤ most
    rw [List.map_map]
    have : (memN ∘ fun l => l.map (cmpI (letters f))) = memN := funext fun l => memN_cmp
    rw [this]; exact O.mem
theorem Of_spec (g : CompG G) {most : Nat} {lv : Value} {l : List Int} (hmost : most ≤ 1000000) (s : SlV 1 h l.length (l.flatMap intC) lv) (hlen : l.length ≤ 9223372036854775807)
    (k : ∀ h1 p lv iv tv, Ext h h1 → PrgV h1 p lv iv tv → PrgOk most p → R (.agg #[lv, iv, tv]) h1) : WC G 270 [lv, .int .i64 most] h R := by
  refine WC_enter g.g270 rfl ?_
  show W G c270_body _ _ (retK [.cellN 4 3] R)
  unfold c270_body c270_0 c270_1
  simp -implicitDefEqProofs
  refine Small_spec g.toSmallG hmost (s.ext ((Ext.refl h).alloc _)) hlen fun h1 t iv tv ck av name x1 V O => ?_
  simp -implicitDefEqProofs
  refine Compile_spec g V O fun h2 p lv iv tv x2 PV PO => ?_
  have n1 := x1.next
  have n2 := x2.next
  simp at n1
  have g2 : h2.get h.next = .cells [.slice none 0 0, .slice none 0 0, .slice none 0 0] false false := by rw [x2.get _ (by omega), x1.get _ (by simp)]; simp
  simp -implicitDefEqProofs [g2, splice]
  refine k _ p lv iv tv ⟨by simp; omega, fun y hy => ?_⟩ (PV _ (by simp) fun i h1 h2 => ?_) PO
  · rw [AH.put_get, if_neg (by omega), x2.get y (by omega), x1.get y (by simp; omega)]
    simp [show y ≠ h.next by omega]
  · rw [AH.put_get, if_neg (by omega)]
end Go.Jq
namespace Go.Jq
open Go.ChangeShapes Go.WideShapes Go.ChangeAt Go.RowKit Go.Deep
theorem more_slice {C : Ctx} {γ : Gm} {h : AH} (H : HR C γ h C.w0) (hb : C.base = C.w0.heap.size) {k B s len cap : Nat} {cs : List Value} (hlen : cs.length = len * k) (hp : cs.all plain1 = true) (hcell : ∀ t, t < len * k → C.w0.cell? ⟨B, s + t, none⟩ = cs[t]?) (hk : 0 < k) :
    ∃ h' γ' v, HR C γ' h' C.w0 ∧ Sub γ γ' ∧ Ext h h' ∧ VR C γ' v (.slice (some ⟨B, s, none⟩) len cap) ∧ SlV k h' len cs v := by
  have hg0 : γ h.next = none := H.dom _ (Nat.le_refl _)
  have go : ∀ (N : Nat) (o : ABlk), o.wr = false → (∀ γ', γ' h.next = some (B, s, N) → BR C γ' o (C.w0.heap[B]?) B s N) → HR C (gset γ h.next (B, s, N)) (h.alloc o) C.w0 := by
    intro N o hw hbr
    refine ⟨H.below, H.low, fun b B' s' N' e => ?_, fun b b' B' s' N' s'' N'' e1 e2 w1 w2 => ?_, fun b hbn => ?_⟩
    · unfold gset at e
      rw [AH.alloc_get]
      by_cases hbb : b = h.next
      · rw [if_pos hbb] at e ⊢
        simp only [Option.some.injEq, Prod.mk.injEq] at e
        obtain ⟨rfl, rfl, rfl⟩ := e
        exact hbr _ (by simp [gset])
      · rw [if_neg hbb] at e ⊢
        exact (H.blk b B' s' N' e).mono (gset_sub hg0)
    · rw [AH.alloc_get] at w1 w2
      by_cases h1 : b = h.next
      · rw [if_pos h1, hw] at w1; simp at w1
      · by_cases h2 : b' = h.next
        · rw [if_pos h2, hw] at w2; simp at w2
        · rw [if_neg h1] at w1
          rw [if_neg h2] at w2
          unfold gset at e1 e2
          rw [if_neg h1] at e1
          rw [if_neg h2] at e2
          exact H.inj b b' B' s' N' s'' N'' e1 e2 w1 w2
    · simp at hbn
      unfold gset
      rw [if_neg (by omega)]
      exact H.dom b (by omega)
  by_cases h0 : len = 0
  · subst h0
    refine ⟨_, _, .slice (some ⟨h.next, 0, none⟩) 0 cap, go 0 .dead rfl (fun _ _ => trivial), gset_sub hg0, (Ext.refl h).alloc _, .slX (o := 0) (N := 0) (by simp [gset]), hlen, .inl ⟨rfl, _, _, rfl⟩⟩
  · have hpos : 0 < len * k := Nat.mul_pos (Nat.pos_of_ne_zero h0) hk
    have hc0 := hcell 0 hpos
    obtain ⟨D, E, fl, hD⟩ : ∃ D E fl, C.w0.heap[B]? = some (.cells D E fl) := by
      unfold World.cell? at hc0
      simp only at hc0
      split at hc0
      · exact ⟨_, _, _, by assumption⟩
      · rw [List.getElem?_eq_getElem (by omega)] at hc0; simp at hc0
    obtain ⟨lo, hi⟩ := fl
    have hDt : ∀ t, t < len * k → D[s + t]? = cs[t]? := fun t ht => by rw [← cell_of hD]; exact hcell t ht
    have hsz : s + cs.length ≤ D.size := by
      have := hDt (len * k - 1) (by omega)
      rw [List.getElem?_eq_getElem (by omega)] at this
      have := (Array.getElem?_eq_some_iff.1 this).1
      omega
    have hcs : (D.toList.drop s).take cs.length = cs := by
      apply List.ext_getElem?
      intro t
      by_cases ht : t < cs.length
      · rw [List.getElem?_take, if_pos ht, List.getElem?_drop, Array.getElem?_toList, hDt t (by omega)]
      · rw [List.getElem?_eq_none (by simp; omega), List.getElem?_eq_none (by omega)]
    refine ⟨_, _, .slice (some ⟨h.next, 0, none⟩) len cap, go D.size (.cells cs false true) rfl (fun γ' hγ => ?_), gset_sub hg0, (Ext.refl h).alloc _, .slX (o := 0) (N := D.size) (by simp [gset]), hlen, .inr ⟨h.next, 0, none, cap, cs, false, true, rfl, by simp, by simp, by omega, by simp [← hlen]⟩⟩
    refine ⟨D, E, lo, hi, hD, rfl, hsz, by rw [hcs]; exact plains_VR hp, fun x hx => plain1_one (List.all_eq_true.1 hp x hx), fun _ => ?_, fun e => by simp at e⟩
    rw [hb]
    exact (Array.getElem?_eq_some_iff.1 hD).1
theorem slice_spot' {P : Program} {W : World} {base : Nat} {t e : TypeId} {a : Addr} {len cap : Nat} (ht : P.underlying t = some (.slice e)) (h : Value.okWide P W .any base t (.slice (some a) len cap)) : a.spot = none := by
  simp only [Value.okWide, ht, Cell.okWide, Cell.ok] at h
  exact h.2.2.2.1
theorem open_ints {H : Type} {enc : TypeId × Value → H} {P : Program} {W : World} {base : Nat} {t e : TypeId} {v : Value} {d : DataW H} {ps : List MemPlace}
    (ht : P.underlying t = some (.slice e)) (he : P.underlying e = some (.int .i64)) (ce : P.cellsOf e = 1)
    (hok : Value.okWide P W .any base t v) (h : DataW.Trod enc P W 0 (fun _ => true) true t v d ps) :
    v = .slice none 0 0 ∨ ∃ B s cap, ∃ l : List Int, v = .slice (some ⟨B, s, none⟩) l.length cap ∧ l.length ≤ maxLen ∧ ∀ i, i < l.length → W.cell? ⟨B, s + i, none⟩ = (l.flatMap intC)[i]? := by
  obtain ⟨a0, len0, cap0, rfl⟩ := okWide_slice ht hok
  obtain ⟨fuel, hf⟩ := h
  rcases open_slice1 ht ce hf with ⟨hcs, _⟩ | ⟨a, len, cap, m, n, V, D, Pl, hcs, _, hl, hm, hmm, _, hel⟩
  · simp [Value.cells] at hcs
    obtain ⟨rfl, rfl, rfl⟩ := hcs
    exact .inl rfl
  · simp [Value.cells] at hcs
    obtain ⟨rfl, rfl, rfl⟩ := hcs
    right
    obtain ⟨B, s, sp⟩ := a
    have hsp := slice_spot' ht hok
    simp only at hsp
    subst hsp
    have hm' : m = cap0 := by simpa using hmm
    have key : ∀ i, i < len0 → ∃ x : Int, W.cell? ⟨B, s + i, none⟩ = some (.int .i64 x) := by
      intro i hi
      obtain ⟨hc, hd⟩ := hel i (by omega)
      obtain ⟨x, e0, _⟩ := DataW.trod_int he hd
      simp at e0
      have ea : (⟨B, s, none⟩ : Addr).add i = ⟨B, s + i, none⟩ := by
        unfold Addr.add
        split <;> simp_all
      rw [ea, e0] at hc
      exact ⟨x, hc⟩
    have lo : ∀ n : Nat, (∀ i, i < n → ∃ x : Int, W.cell? ⟨B, s + i, none⟩ = some (.int .i64 x)) → ∃ l : List Int, l.length = n ∧ ∀ i (hi : i < l.length), W.cell? ⟨B, s + i, none⟩ = some (.int .i64 l[i]) := by
      intro n
      induction n with
      | zero => intro _; exact ⟨[], rfl, fun i hi => by simp at hi⟩
      | succ n ih =>
        intro hx
        obtain ⟨l, hll, hp⟩ := ih fun i hi => hx i (by omega)
        obtain ⟨x, hx⟩ := hx n (by omega)
        refine ⟨l ++ [x], by simp [hll], fun i hi => ?_⟩
        by_cases e : i < l.length
        · rw [List.getElem_append_left e]; exact hp i e
        · have : i = n := by simp at hi; omega
          subst this
          rw [List.getElem_append_right (by omega)]
          simpa [hll] using hx
    obtain ⟨l, hll, hp⟩ := lo len0 key
    subst hll
    refine ⟨B, s, cap0, l, rfl, by omega, fun i hi => ?_⟩
    have h2 := fm_get intC_length l i 0 (by omega)
    simp only [Nat.mul_one, Nat.add_zero] at h2
    rw [hp i hi, h2, List.getElem?_eq_getElem hi]
    rfl
theorem ints_plain (l : List Int) : (l.flatMap intC).all plain1 = true := by
  rw [List.all_eq_true]
  intro x hx
  obtain ⟨o, _, ho⟩ := List.mem_flatMap.1 hx
  simp only [intC, List.mem_cons, List.not_mem_nil, or_false] at ho
  subst ho; rfl
theorem more_ints {C : Ctx} {γ : Gm} {h : AH} (H : HR C γ h C.w0) (hb : C.base = C.w0.heap.size) {v : Value}
    (hv : v = .slice none 0 0 ∨ ∃ B s cap, ∃ l : List Int, v = .slice (some ⟨B, s, none⟩) l.length cap ∧ l.length ≤ maxLen ∧ ∀ i, i < l.length → C.w0.cell? ⟨B, s + i, none⟩ = (l.flatMap intC)[i]?) :
    ∃ h' γ' v0, ∃ l : List Int, HR C γ' h' C.w0 ∧ Sub γ γ' ∧ Ext h h' ∧ VR C γ' v0 v ∧ l.length ≤ maxLen ∧ SlV 1 h' l.length (l.flatMap intC) v0 := by
  rcases hv with rfl | ⟨B, s, cap, l, rfl, hl, hc⟩
  · exact ⟨h, γ, .slice none 0 0, [], H, fun _ _ e => e, Ext.refl h, .sl0, Nat.zero_le _, ⟨rfl, .inl ⟨rfl, _, _, rfl⟩⟩⟩
  · obtain ⟨h', γ', v0, a1, a2, a3, a4, a5⟩ := more_slice H hb (k := 1) (len := l.length) (cap := cap) (cs := l.flatMap intC) (by rw [fm_length intC_length]) (ints_plain l) (fun t ht => hc t (by omega)) (by omega)
    exact ⟨h', γ', v0, l, a1, a2, a3, a4, hl, a5⟩
end Go.Jq
