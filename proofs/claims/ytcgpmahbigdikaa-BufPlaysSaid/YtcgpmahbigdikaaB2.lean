/- Stores that wait: Len, Empty, oldest, Oldest, Newest. -/
import Derived.Test.YtcgpmahbigdikaaB1
set_option linter.unusedSimpArgs false
set_option linter.unusedVariables false
namespace Go.Jq
variable {G : Nat → SFunc} {h : AH} {R : Value → AH → Prop}

theorem Len_spec (g : BufG G) {m : Int} {es : List Ent} (k : ∀ h1, Ext h h1 → R (.int .i64 es.length) h1) : WC G 6 [bufV m es] h R := by
  refine WC_enter g.g6 rfl ?_
  show W G c6_body _ _ (retK [.tmp 2] R)
  unfold c6_body c6_0 c6_1
  simp -implicitDefEqProofs [bufV, bufC]
  exact k _ ((Ext.refl h).alloc _)

theorem Empty_spec (g : BufG G) {m : Int} {es : List Ent} (k : ∀ h1, Ext h h1 → R (.bool (decide (es = []))) h1) : WC G 8 [bufV m es] h R := by
  refine WC_enter g.g8 rfl ?_
  show W G c8_body _ _ (retK [.tmp 2] R)
  unfold c8_body c8_0 c8_1
  simp -implicitDefEqProofs [bufV, bufC]
  exact k _ ((Ext.refl h).alloc _)

def hits (m loc : Int) (e : Ent) : Bool := decide (m = 2) || decide (e.loc = loc)
def oldN (m loc : Int) (es : List Ent) : Option Nat := es.findIdx? (hits m loc)
def optI : Option Nat → Int
  | some i => i
  | none => -1

theorem pad_get {es : List Ent} {i : Nat} (hi : i < es.length) {j : Nat} (hj : j < 3) : ((pad es).flatMap Ent.c)[i * 3 + j]? = (es[i]).c[j]? := by
  rw [fm_get Ent.c_length _ _ _ hj, pad, List.getElem?_append_left hi, List.getElem?_eq_getElem hi]
  rfl
theorem pad_get0 {es : List Ent} {i : Nat} (hi : i < es.length) : ((pad es).flatMap Ent.c)[i * 3]? = some (.int .i64 es[i].loc) := pad_get (j := 0) hi (by omega)
theorem pad_get1 {es : List Ent} {i : Nat} (hi : i < es.length) : ((pad es).flatMap Ent.c)[i * 3 + 1]? = some (.int .i64 es[i].v) := pad_get (j := 1) hi (by omega)
theorem pad_get2 {es : List Ent} {i : Nat} (hi : i < es.length) : ((pad es).flatMap Ent.c)[i * 3 + 2]? = some (.int .i64 es[i].id) := pad_get (j := 2) hi (by omega)

section
variable {m : Int} {es : List Ent} {i : Nat}
theorem bg0 : (bufC m es)[0]? = some (.int .i64 m) := rfl
theorem bg1 : (bufC m es)[1]? = some (.int .i64 es.length) := rfl
theorem bg2 (hi : i < es.length) : (bufC m es)[2 + i * 3]? = some (.int .i64 es[i].loc) := by rw [bufC, get_two, pad_get0 hi]
theorem bg3 (hi : i < es.length) : (bufC m es)[2 + i * 3 + 1]? = some (.int .i64 es[i].v) := by rw [bufC, get_two1, pad_get1 hi]
theorem bg4 (hi : i < es.length) : (bufC m es)[2 + i * 3 + 2]? = some (.int .i64 es[i].id) := by rw [bufC, get_two1, pad_get2 hi]
end

theorem oldN_hit {m loc : Int} {es : List Ent} {i : Nat} (hi : i < es.length) (hno : ∀ j (hj : j < es.length), j < i → hits m loc es[j] = false) (hh : hits m loc es[i] = true) : oldN m loc es = some i := by
  unfold oldN
  rw [List.findIdx?_eq_some_iff_getElem]
  exact ⟨hi, hh, fun j hj => by simp [hno j (by omega) hj]⟩
theorem oldN_none {m loc : Int} {es : List Ent} (hno : ∀ j (hj : j < es.length), hits m loc es[j] = false) : oldN m loc es = none := by
  unfold oldN
  rw [List.findIdx?_eq_none_iff]
  intro x hx
  obtain ⟨j, hj, rfl⟩ := List.getElem_of_mem hx
  exact hno j hj
theorem oldN_some {m loc : Int} {es : List Ent} {i : Nat} (h : oldN m loc es = some i) : ∃ hi : i < es.length, hits m loc es[i] = true := by
  unfold oldN at h
  rw [List.findIdx?_eq_some_iff_getElem] at h
  exact ⟨h.1, h.2.1⟩

def inv15 (m loc : Int) (es : List Ent) (h : AH) (n : Nat) (F : Fr) (hh : AH) : Prop :=
  ∃ i : Nat, n = es.length - i ∧ i ≤ es.length ∧ (∀ j (hj : j < es.length), j < i → hits m loc es[j] = false) ∧ hh = h.alloc (.cells (bufC m es) false false) ∧
    F = [(1, .int .i64 loc), (2, .pointer (some ⟨h.next, 0, none⟩)), (7, .int .i64 es.length), (8, .int .i64 i)]

theorem oldest_spec (g : BufG G) {m loc : Int} {es : List Ent} (hes : es.length ≤ 24) (k : ∀ h1, Ext h h1 → R (.int .i64 (optI (oldN m loc es))) h1) : WC G 15 [bufV m es, .int .i64 loc] h R := by
  refine WC_enter g.g15 rfl ?_
  show W G c15_body _ _ (retK [.tmp 4] R)
  unfold c15_body c15_0 c15_1
  simp -implicitDefEqProofs [bufV, bufC]
  refine W_loop (inv15 m loc es h) es.length ⟨0, rfl, Nat.zero_le _, by omega, rfl, rfl⟩ ?_
  rintro n F hh ⟨i, rfl, hi, hno, rfl, rfl⟩
  unfold c15_7 c15_2 c15_3 c15_4 c15_5 c15_6 c15_8
  by_cases h1 : i < es.length
  · have hw : IntKind.i64.wrap ((i : Int) + 1) = (i : Int) + 1 := wrap64 (by omega)
    have f1 : (i : Int) < 24 := by omega
    by_cases h2 : hits m loc es[i] = true
    · have hk : ∀ o, R (.int .i64 i) (h.alloc o) := fun o => by simpa [oldN_hit h1 hno h2, optI] using k _ ((Ext.refl h).alloc o)
      by_cases h3 : m = 2
      · simp -implicitDefEqProofs [h1, h3, bufC]
        exact hk _
      · have h4 : es[i].loc = loc := by simpa [hits, h3] using h2
        simp -implicitDefEqProofs [h1, h3, h4, f1, bufC, get_two, pad_get0]
        exact hk _
    · have h3 : m ≠ 2 := by rintro rfl; simp [hits] at h2
      have h4 : es[i].loc ≠ loc := by intro e; simp [hits, e] at h2
      simp -implicitDefEqProofs [h1, h3, h4, f1, hw, bufC, get_two, pad_get0]
      refine ⟨es.length - (i + 1), by omega, i + 1, rfl, h1, ?_, by simp [bufC], by simp⟩
      intro j hj hji
      by_cases e : j = i
      · subst e; simpa using h2
      · exact hno j hj (by omega)
  · simp -implicitDefEqProofs [h1, bufC]
    have : oldN m loc es = none := oldN_none fun j hj => hno j hj (by omega)
    simpa [this, optI] using k _ ((Ext.refl h).alloc _)

def oldV (m loc : Int) (es : List Ent) : Value :=
  match oldN m loc es with
  | some i => match es[i]? with
    | some e => .tuple #[.int .i64 e.loc, .int .i64 e.v, .int .i64 e.id, .bool true]
    | none => .tuple #[]
  | none => .tuple #[.int .i64 0, .int .i64 0, .int .i64 0, .bool false]

theorem Oldest_spec (g : BufG G) {m loc : Int} {es : List Ent} (hes : es.length ≤ 24) (k : ∀ h1, Ext h h1 → R (oldV m loc es) h1) : WC G 11 [bufV m es, .int .i64 loc] h R := by
  refine WC_enter g.g11 rfl ?_
  show W G c11_body _ _ (retK [.tmp 4, .tmp 5, .tmp 6, .tmp 7] R)
  unfold c11_body c11_0 c11_1 c11_2 c11_3 c11_4
  have hl := flat_length hes
  simp -implicitDefEqProofs [bufV, bufC, hl, List.take_of_length_le]
  refine oldest_spec g hes fun h1 x => ?_
  have hx : h1.get h.next = .cells (bufC m es) false false := by
    rw [x.get _ (by simp)]; simp [bufC]
  have x2 : Ext h h1 := ((Ext.refl h).alloc _).trans x
  cases ho : oldN m loc es with
  | none =>
    simp -implicitDefEqProofs [optI]
    simpa [oldV, ho] using k _ x2
  | some i =>
    obtain ⟨hi, hh⟩ := oldN_some ho
    have f1 : (i : Int) < 24 := by omega
    have f2 : ¬ (i : Int) < 0 := by omega
    simp -implicitDefEqProofs [optI, f1, f2, hx, bg2 hi, bg3 hi, bg4 hi]
    simpa [oldV, ho, hi] using k _ x2

/-- the last of a location -/
def newN (loc : Int) (es : List Ent) : Option Ent := es.reverse.find? fun e => decide (e.loc = loc)
def newV (loc : Int) (es : List Ent) : Value :=
  match newN loc es with
  | some e => .tuple #[.int .i64 e.v, .int .i64 e.id, .bool true]
  | none => .tuple #[.int .i64 0, .int .i64 0, .bool false]

def inv14 (m loc : Int) (es : List Ent) (h : AH) (n : Nat) (F : Fr) (hh : AH) : Prop :=
  n ≤ es.length ∧ (∀ j (hj : j < es.length), n ≤ j → es[j].loc ≠ loc) ∧ hh = h.alloc (.cells (bufC m es) false false) ∧
    F = [(1, .int .i64 loc), (2, .pointer (some ⟨h.next, 0, none⟩)), (7, .int .i64 ((n : Int) - 1))]

theorem newN_hit {loc : Int} {es : List Ent} {i : Nat} (hi : i < es.length) (hno : ∀ j (hj : j < es.length), i + 1 ≤ j → es[j].loc ≠ loc) (hh : es[i].loc = loc) : newN loc es = some es[i] := by
  unfold newN
  have e : es = es.take i ++ es[i] :: es.drop (i + 1) := by
    rw [List.getElem_cons_drop, List.take_append_drop]
  have : (es.drop (i + 1)).reverse.find? (fun e => decide (e.loc = loc)) = none := by
    rw [List.find?_eq_none]
    intro x hx
    obtain ⟨j, hj, rfl⟩ := List.getElem_of_mem (List.mem_reverse.1 hx)
    simp only [List.length_drop] at hj
    simpa using hno (i + 1 + j) (by omega) (by omega)
  conv => lhs; rw [e]
  simp only [List.reverse_append, List.reverse_cons, List.append_assoc, List.find?_append, this, Option.none_or]
  simp [hh]
theorem newN_none {loc : Int} {es : List Ent} (hno : ∀ j (hj : j < es.length), es[j].loc ≠ loc) : newN loc es = none := by
  unfold newN
  rw [List.find?_eq_none]
  intro x hx
  obtain ⟨j, hj, rfl⟩ := List.getElem_of_mem (List.mem_reverse.1 hx)
  simpa using hno j hj

theorem Newest_spec (g : BufG G) {m loc : Int} {es : List Ent} (hes : es.length ≤ 24) (k : ∀ h1, Ext h h1 → R (newV loc es) h1) : WC G 14 [bufV m es, .int .i64 loc] h R := by
  refine WC_enter g.g14 rfl ?_
  show W G c14_body _ _ (retK [.tmp 4, .tmp 5, .tmp 6] R)
  unfold c14_body c14_0 c14_1
  have hw0 : IntKind.i64.wrap ((es.length : Int) - 1) = (es.length : Int) - 1 := wrap64 (by omega)
  simp -implicitDefEqProofs [bufV, bg1, hw0]
  refine W_loop (inv14 m loc es h) es.length ⟨Nat.le_refl _, by omega, rfl, rfl⟩ ?_
  rintro n F hh ⟨hi, hno, rfl, rfl⟩
  unfold c14_6 c14_2 c14_3 c14_4 c14_5 c14_7
  cases n with
  | zero =>
    simp -implicitDefEqProofs
    simpa [newV, newN_none fun j hj => hno j hj (by omega)] using k _ ((Ext.refl h).alloc _)
  | succ i =>
    have h1 : i < es.length := by omega
    have hw : IntKind.i64.wrap ((i : Int) - 1) = (i : Int) - 1 := wrap64 (by omega)
    have f1 : (i : Int) < 24 := by omega
    have f3 : ((i + 1 : Nat) : Int) - 1 = i := by omega
    rw [f3]
    by_cases h4 : es[i].loc = loc
    · simp -implicitDefEqProofs [h4, f1, hw, bg2 h1, bg3 h1, bg4 h1]
      simpa [newV, newN_hit h1 hno h4] using k _ ((Ext.refl h).alloc _)
    · simp -implicitDefEqProofs [h4, f1, hw, bg2 h1]
      refine ⟨i, by omega, by omega, ?_, rfl, rfl⟩
      intro j hj hji
      by_cases e : j = i
      · subst e; exact h4
      · exact hno j hj (by omega)
end Go.Jq
