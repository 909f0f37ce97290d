/- Stores that wait: two are compared; rows of operations. -/
import Derived.Test.YtcgpmahbigdikaaB5
import Derived.Test.YtcgpmahbigdikaaM25
set_option linter.unusedSimpArgs false
set_option linter.unusedVariables false
namespace Go.Jq
variable {G : Nat → SFunc} {h : AH} {R : Value → AH → Prop}

def Ent.i (e : Ent) : List Int := [e.loc, e.v, e.id]
def bufI (m : Int) (es : List Ent) : List Int := m :: es.length :: (pad es).flatMap Ent.i
theorem flat_map (l : List Ent) : l.flatMap Ent.c = (l.flatMap Ent.i).map (.int .i64) := by
  induction l with
  | nil => rfl
  | cons a l ih => rw [List.flatMap_cons, List.flatMap_cons, List.map_append, ih]; rfl
theorem bufC_map (m : Int) (es : List Ent) : bufC m es = (bufI m es).map (.int .i64) := by
  simp only [bufC, bufI, List.map_cons, flat_map]
theorem flat_inj : ∀ {l l' : List Ent}, l.flatMap Ent.i = l'.flatMap Ent.i → l = l'
  | [], [], _ => rfl
  | [], b :: l', h => by simp [Ent.i] at h
  | a :: l, [], h => by simp [Ent.i] at h
  | a :: l, b :: l', h => by
    simp only [List.flatMap_cons, Ent.i, List.cons_append, List.nil_append, List.cons.injEq] at h
    obtain ⟨h1, h2, h3, h4⟩ := h
    have := flat_inj h4
    cases a; cases b
    simp_all
theorem bufI_inj {m m' : Int} {es es' : List Ent} (h : bufI m es = bufI m' es') : m = m' ∧ es = es' := by
  simp only [bufI, List.cons.injEq] at h
  obtain ⟨h1, h2, h3⟩ := h
  have h4 := flat_inj h3
  refine ⟨h1, ?_⟩
  have hl : es.length = es'.length := by omega
  have e1 : (pad es).take es.length = es := by rw [pad, List.take_left]
  have e2 : (pad es').take es'.length = es' := by rw [pad, List.take_left]
  rw [← e1, ← e2, h4, hl]
theorem cellsEq_buf {m m' : Int} {es es' : List Ent} (h : es.length ≤ 24) (h' : es'.length ≤ 24) : cellsEq (zk 74) (bufC m es) (bufC m' es') = some (decide (m = m' ∧ es = es')) := by
  have l1 : (bufI m es).length = 74 := by have := bufC_length (m := m) h; rwa [bufC_map, List.length_map] at this
  have l2 : (bufI m' es').length = 74 := by have := bufC_length (m := m') h'; rwa [bufC_map, List.length_map] at this
  rw [bufC_map, bufC_map, zk, cellsEq_ints l1 l2]
  congr 1
  rw [decide_eq_decide]
  exact ⟨bufI_inj, fun ⟨a, b⟩ => by rw [a, b]⟩

structure OpT where
  kind : Int
  loc : Int
  v : Int
def OpT.c (o : OpT) : List Value := [.int .i64 o.kind, .int .i64 o.loc, .int .i64 o.v]
theorem OpT.c_length (o : OpT) : o.c.length = 3 := rfl
/-- a row of operations that is read -/
abbrev Ops (h : AH) (l : List OpT) (v : Value) : Prop := SlV 3 h l.length (l.flatMap OpT.c) v
theorem Ops.at {l : List OpT} {v : Value} (s : Ops h l v) {i : Nat} (hi : i < l.length) : ∃ b o sp c c0 g ro, v = .slice (some ⟨b, o, sp⟩) l.length c ∧ b < h.next ∧ h.get b = .cells c0 g ro ∧
    c0[o + i * 3]? = some (.int .i64 l[i].kind) ∧ c0[o + i * 3 + 1]? = some (.int .i64 l[i].loc) ∧ c0[o + i * 3 + 2]? = some (.int .i64 l[i].v) := by
  obtain ⟨b, o, sp, c, c0, g, ro, e1, e2, e3, e4, _⟩ := SlV.cells s hi
  have key : ∀ j, j < 3 → c0[o + i * 3 + j]? = l[i].c[j]? := fun j hj => by
    rw [e4 j hj, fm_get OpT.c_length _ _ _ hj, List.getElem?_eq_getElem hi]; rfl
  exact ⟨b, o, sp, c, c0, g, ro, e1, e2, e3, key 0 (by omega), key 1 (by omega), key 2 (by omega)⟩
end Go.Jq
