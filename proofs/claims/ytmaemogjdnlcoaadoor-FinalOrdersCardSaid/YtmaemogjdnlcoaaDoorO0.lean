/- An end that came in: twenty numbers. -/
import Derived.Test.YtmaemogjdnlcoaaDoorC2
import Derived.Deep.Strs
import Derived.Deep.Slices
import Derived.OpenShut
import Derived.ProofKit
set_option linter.unusedSimpArgs false
set_option linter.unusedVariables false
namespace Go.Jq
open Go.ChangeShapes Go.WideShapes Go.ChangeAt Go.RowKit Go.Deep

theorem list_ofO {α : Type} {n : Nat} {p : Nat → α → Prop} (h : ∀ i, i < n → ∃ x, p i x) : ∃ l : List α, l.length = n ∧ ∀ i (hi : i < l.length), p i l[i] := by
  induction n with
  | zero => exact ⟨[], rfl, fun i hi => by simp at hi⟩
  | succ n ih =>
    obtain ⟨l, hl, hp⟩ := ih fun i hi => h i (by omega)
    obtain ⟨x, hx⟩ := h n (by omega)
    refine ⟨l ++ [x], by simp [hl], fun i hi => ?_⟩
    by_cases e : i < l.length
    · rw [List.getElem_append_left e]; exact hp i e
    · have : i = n := by simp at hi; omega
      subst this
      rw [List.getElem_append_right (by omega)]
      simpa [hl] using hx

section
variable {H : Type} {enc : TypeId × Value → H} {P : Program} {w : World} {base : Nat} {spare : Nat → Bool} {held : Bool}

def IntsAt (P : Program) (enc : TypeId × Value → H) (w : World) (base : Nat) (spare : Nat → Bool) (held : Bool) (t : TypeId) (k : Nat) : Prop :=
  ∀ (fuel : Nat) (cs : List Value) (x : DataW H × List MemPlace), DataW.trod enc P w base spare held fuel t cs = some x → ∃ A : List Int, cs = A.map (.int .i64) ∧ A.length = k

theorem ints_of {cs : List Value} (h : ∀ j, j < cs.length → ∃ n : Int, cs[j]? = some (.int .i64 n)) : ∃ A : List Int, cs = A.map (.int .i64) ∧ A.length = cs.length := by
  obtain ⟨A, h1, h2⟩ := list_ofO h
  refine ⟨A, ?_, h1⟩
  apply List.ext_getElem?
  intro j
  by_cases hj : j < cs.length
  · rw [h2 j (by omega), List.getElem?_map, List.getElem?_eq_getElem (by omega)]; rfl
  · rw [List.getElem?_eq_none (by omega), List.getElem?_eq_none (by simp; omega)]

theorem IntsAt.int {t : TypeId} (ht : P.underlying t = some (.int .i64)) : IntsAt P enc w base spare held t 1 := by
  intro fuel cs x h
  obtain ⟨n, e, _⟩ := DataW.trod_int ht h
  exact ⟨[n], by rw [e]; rfl, rfl⟩

theorem IntsAt.array {t e : TypeId} {n k : Nat} (ht : P.underlying t = some (.array n e)) (hk : P.cellsOf e = k) (hc : P.cellsOf t = n * k) (hpos : 0 < k) (he : IntsAt P enc w base spare held e k) : IntsAt P enc w base spare held t (n * k) := by
  intro fuel cs x h
  obtain ⟨xs, m, _, _, hl, hxl, hx⟩ := DataW.trod_array ht h
  rw [hc] at hl
  have : ∀ j, j < cs.length → ∃ q : Int, cs[j]? = some (.int .i64 q) := by
    intro j hj
    have hi : j / k < n := by rw [Nat.div_lt_iff_lt_mul hpos]; omega
    have h1 := hx (j / k) hi
    rw [List.getElem?_eq_getElem (by omega), hk] at h1
    obtain ⟨A, e1, e2⟩ := he _ _ _ h1
    have hm : j % k < k := Nat.mod_lt _ hpos
    have h2 : (((cs.drop (j / k * k)).take k))[j % k]? = cs[j]? := by
      rw [List.getElem?_take, if_pos hm, List.getElem?_drop]
      congr 1
      rw [Nat.mul_comm]; exact Nat.div_add_mod j k
    rw [e1, List.getElem?_map, List.getElem?_eq_getElem (by omega)] at h2
    exact ⟨_, h2.symm⟩
  obtain ⟨A, e1, e2⟩ := ints_of this
  exact ⟨A, e1, by omega⟩

theorem IntsAt.struct2 {t : TypeId} {f0 f1 : Field} {a b : Nat} (ht : P.underlying t = some (.struct #[f0, f1])) (h0 : P.cellsOf f0.type = a) (h1 : P.cellsOf f1.type = b) (hc : P.cellsOf t = a + b) (o0 : f0.offset = 0) (o1 : f1.offset = a)
    (i0 : IntsAt P enc w base spare held f0.type a) (i1 : IntsAt P enc w base spare held f1.type b) : IntsAt P enc w base spare held t (a + b) := by
  intro fuel cs x h
  obtain ⟨y0, y1, n, _, hl, t0, t1⟩ := trod_struct2 ht h
  rw [hc] at hl
  rw [h0, o0, List.drop_zero] at t0
  rw [h1, o1] at t1
  obtain ⟨A, e1, e2⟩ := i0 _ _ _ t0
  obtain ⟨B, e3, e4⟩ := i1 _ _ _ t1
  refine ⟨A ++ B, ?_, by simp [e2, e4]⟩
  rw [List.map_append, ← e1, ← e3, List.take_of_length_le (l := cs.drop a) (by simp; omega), List.take_append_drop]

/-- an end -/
theorem open_final {t : TypeId} {f0 f1 : Field} {v : Value} {d : DataW H} {ps : List MemPlace} {e r : TypeId} (ht : P.underlying t = some (.struct #[f0, f1])) (u0 : P.underlying f0.type = some (.array 4 r)) (ur : P.underlying r = some (.array 4 e)) (u1 : P.underlying f1.type = some (.array 4 e)) (ue : P.underlying e = some (.int .i64))
    (ct : P.cellsOf t = 20) (c0 : P.cellsOf f0.type = 16) (c1 : P.cellsOf f1.type = 4) (cr : P.cellsOf r = 4) (ce : P.cellsOf e = 1) (o0 : f0.offset = 0) (o1 : f1.offset = 16)
    (hok : Value.okWide P w .any base t v) (h : DataW.Trod enc P w 0 (fun _ => true) true t v d ps) : ∃ A : List Int, v = .agg (finC A).toArray ∧ A.length = 20 := by
  obtain ⟨cs, rfl, hsz⟩ := okWide_struct ht hok
  obtain ⟨fuel, hf⟩ := h
  have ie : IntsAt P enc w 0 (fun _ => true) true e 1 := .int ue
  have ir : IntsAt P enc w 0 (fun _ => true) true r (4 * 1) := .array ur ce (by rw [cr]) (by omega) ie
  have i0 : IntsAt P enc w 0 (fun _ => true) true f0.type (4 * 4) := .array u0 cr (by rw [c0]) (by omega) ir
  have i1 : IntsAt P enc w 0 (fun _ => true) true f1.type (4 * 1) := .array u1 ce (by rw [c1]) (by omega) ie
  obtain ⟨A, e1, e2⟩ := IntsAt.struct2 ht c0 c1 (by rw [ct]) o0 o1 i0 i1 _ _ _ hf
  refine ⟨A, ?_, e2⟩
  have : cs.toList = A.map (.int .i64) := by simpa [Value.cells] using e1
  rw [finC, ← this]
end
end Go.Jq
