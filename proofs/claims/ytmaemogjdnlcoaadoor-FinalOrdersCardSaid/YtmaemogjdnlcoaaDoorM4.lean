/- An operation of the model beside its small form. -/
import Derived.Test.YtmaemogjdnlcoaaDoorM3
import Derived.Laws.Entries
set_option linter.unusedSimpArgs false
set_option linter.unusedVariables false
namespace Go.Jq
open Go.RowKit

section runs
variable {P : Program} {w : World} {t : TypeId}
theorem run_typeInfo {i : TypeInfo} (h : P.info? t = some i) : (typeInfo t).run P w = .ok i w := by simp [typeInfo, h]
theorem run_zero {i : TypeInfo} {z : Value} (h : P.info? t = some i) (hz : i.zero = some z) : (zeroValue t).run P w = .ok z w := by simp [zeroValue, run_typeInfo h, hz]
theorem run_size {n : Nat} (h : tsize P t = some n) : (sizeOf t).run P w = .ok n w := by
  simp only [tsize, Option.map_eq_some_iff] at h
  obtain ⟨i, hi, rfl⟩ := h
  simp [sizeOf, run_typeInfo hi]
theorem run_agg {d : TypeDesc} (h : P.underlying t = some d) : (isAgg t).run P w = .ok (aggD d) w := by
  simp only [isAgg, Sem.run_bind, run_underlying h, Result.andThen_ok]
  cases d <;> rfl
theorem run_newRow {e : TypeId} {c : Array Value} : (newRow e c).run P w = .ok ⟨w.heap.size, 0, none⟩ { w with heap := w.heap.push (.cells c e) } := by simp [newRow]
theorem tzero_some {cs : List Value} (h : tzero P t = some cs) : ∃ i z, P.info? t = some i ∧ i.zero = some z ∧ vcells z = some cs ∧ cs.all plain1 = true ∧ cs.length = i.size := by
  unfold tzero at h
  split at h
  · rename_i i hi
    split at h
    · rename_i z hz
      split at h
      · rename_i l hl
        split at h
        · rename_i hc
          simp at h; subst h
          simp only [Bool.and_eq_true, beq_iff_eq] at hc
          exact ⟨i, z, hi, hz, hl, hc.1, hc.2⟩
        · simp at h
      · simp at h
    · simp at h
  · simp at h
theorem vcells_cells {v : Value} {l : List Value} (h : vcells v = some l) : v.cells.toList = l := by
  unfold vcells at h
  split at h
  · simp at h; exact h
  · simp at h
  · simp at h; subst h
    rename_i x y
    cases v <;> first | rfl | exact absurd rfl (x _) | exact absurd rfl (y _)
end runs

section
variable {C : Ctx} {γ : Gm} {h : AH} {w : World} {a : Act}

/-- The operands' values, beside each other. -/
def OR (C : Ctx) (γ : Gm) (ρ : SOpd → Option Value) (a : Act) : Prop := ∀ x sx v, cOpd C.ψ x = some sx → ρ sx = some v → VR C γ v (a.eval x)

variable {ρ : SOpd → Option Value}

theorem OR.mono {γ' : Gm} (hs : Sub γ γ') (k : OR C γ ρ a) : OR C γ' ρ a := fun x sx v h1 h2 => (k x sx v h1 h2).mono hs

theorem OR.vals (k : OR C γ ρ a) : ∀ {xs : List Operand} {ss : List SOpd} {l : List Value}, cOpds C.ψ xs = some ss → vals ρ ss = some l → FA2 (VR C γ) l (xs.map a.eval)
  | [], ss, l, hc, hv => by simp [cOpds] at hc; subst hc; simp [Go.Jq.vals] at hv; subst hv; exact .nil
  | x :: xs, ss, l, hc, hv => by
    simp only [cOpds] at hc
    split at hc
    · rename_i sx ss' h1 h2
      simp at hc; subst hc
      simp only [Go.Jq.vals] at hv
      split at hv
      · rename_i v l' h3 h4
        simp at hv; subst hv
        exact .cons (k x sx v h1 h3) (OR.vals k h2 h4)
      · simp at hv
    · simp at hc

def PR (C : Ctx) (γ : Gm) (place : Nat → Option (Nat × Nat)) (p : Nat × Nat × Value) (q : Nat × Value) : Prop := place q.1 = some (p.1, p.2.1) ∧ VR C γ p.2.2 q.2
theorem OR.parts (k : OR C γ ρ a) {place : Nat → Option (Nat × Nat)} : ∀ {xs : List (Nat × Operand)} {ss : List (Nat × Nat × SOpd)} {l : List (Nat × Nat × Value)},
    cParts C.ψ place xs = some ss → vparts ρ ss = some l → FA2 (PR C γ place) l (xs.map fun p => (p.1, a.eval p.2))
  | [], ss, l, hc, hv => by simp [cParts] at hc; subst hc; simp [vparts] at hv; subst hv; exact .nil
  | (i, x) :: xs, ss, l, hc, hv => by
    simp only [cParts] at hc
    split at hc
    · rename_i o n sx ss' h0 h1 h2
      simp at hc; subst hc
      simp only [vparts] at hv
      split at hv
      · rename_i v l' h3 h4
        simp at hv; subst hv
        exact .cons ⟨h0, k x sx v h1 h3⟩ (OR.parts k h2 h4)
      · simp at hv
    · simp at hc

theorem foldl_set (off : Nat) : ∀ (l : List Value) (i : Nat) (c : Array Value), off + i + l.length ≤ c.size →
    ((l.zipIdx i).foldl (fun cs x => cs.setIfInBounds (off + x.2) x.1) c).toList = splice c.toList (off + i) l
  | [], i, c, _ => by simp [splice]
  | v :: l, i, c, hle => by
    simp only [List.length_cons] at hle
    simp only [List.zipIdx_cons, List.foldl_cons]
    rw [foldl_set off l (i + 1) (c.setIfInBounds (off + i) v) (by simp; omega)]
    apply List.ext_getElem?
    intro k
    simp only [splice, Array.toList_setIfInBounds, List.getElem?_append, List.length_take, List.getElem?_take, List.getElem?_drop, List.length_set, Array.length_toList, List.getElem?_set, List.length_cons]
    have e3 : min (off + (i + 1)) c.size = off + (i + 1) := by omega
    have e4 : min (off + i) c.size = off + i := by omega
    rw [e3, e4]
    by_cases k1 : k < off + i
    · simp only [k1, show k < off + (i + 1) by omega, show ¬ off + i = k by omega, if_true, if_false]
    · by_cases k2 : k = off + i
      · subst k2
        simp [show off + i < off + (i + 1) by omega, show off + i < c.size by omega]
      · simp only [show ¬ k < off + (i + 1) by omega, k1, if_false]
        obtain ⟨m, rfl⟩ : ∃ m, k = off + i + 1 + m := ⟨k - (off + i + 1), by omega⟩
        have q1 : off + i + 1 + m - (off + (i + 1)) = m := by omega
        have q2 : off + i + 1 + m - (off + i) = m + 1 := by omega
        rw [q1, q2]
        simp only [List.getElem?_cons_succ]
        by_cases k3 : m < l.length
        · simp [k3]
        · simp only [k3, show ¬ (m + 1 < l.length + 1) by omega, if_false]
          rw [if_neg (by omega)]
          congr 1
          omega

theorem fill_sound {place : Nat → Option (Nat × Nat)} : ∀ {l : List (Nat × Nat × Value)} {m : List (Nat × Value)} {cs r : List Value} {D : Array Value}, FA2 (PR C γ place) l m → FA2 (VR C γ) cs D.toList → (∀ x ∈ cs, x.oneCell' = true) →
    sfill l cs = some r → ∃ D', Instr.fill place D m = some D' ∧ FA2 (VR C γ) r D'.toList ∧ (∀ x ∈ r, x.oneCell' = true) ∧ r.length = cs.length
  | [], _, cs, r, D, .nil, hD, h1, hs => by simp [sfill] at hs; subst hs; exact ⟨D, rfl, hD, h1, rfl⟩
  | (o, n, v) :: l, _, cs, r, D, .cons (b := q) ⟨hp, hv⟩ hm, hD, h1, hs => by
    obtain ⟨i, u⟩ := q
    simp only at hp hv
    simp only [sfill] at hs
    split at hs
    · rename_i vc hvc
      split at hs
      · rename_i hle
        obtain ⟨hR, hone⟩ := hv.cells hvc
        have hlen := hR.length
        have hsz : u.cells.size = n := by rw [← Array.length_toList, ← hlen]; exact hle.1
        have hDs : D.size = cs.length := by rw [← Array.length_toList, ← hD.length]
        have hsp := FA2.splice hD hR o
        have := fill_sound (place := place) (D := (u.cells.zipIdx.foldl (fun cs x => cs.setIfInBounds (o + x.2) x.1) D)) hm (cs := splice cs o vc) (r := r) (by
          have e : (u.cells.zipIdx.foldl (fun cs x => cs.setIfInBounds (o + x.2) x.1) D) = ((u.cells.toList.zipIdx 0).foldl (fun cs x => cs.setIfInBounds (o + x.2) x.1) D) := by
            rw [← Array.toList_zipIdx, Array.foldl_toList]
          rw [e, foldl_set o _ 0 D (by simp; omega), Nat.add_zero]
          exact hsp) (by
          intro x hx
          simp only [splice, List.mem_append] at hx
          rcases hx with hx | hx | hx
          · exact h1 x (List.mem_of_mem_take hx)
          · exact hone x hx
          · exact h1 x (List.mem_of_mem_drop hx)) hs
        obtain ⟨D', f1, f2, f3, f4⟩ := this
        refine ⟨D', ?_, f2, f3, by rw [f4, splice_length (by omega)]⟩
        simp only [Instr.fill, hp]
        rw [if_neg (by simp; omega)]
        exact f1
      · simp at hs
    · simp at hs

/-! Operations that only make a block. -/

theorem zeros_VR {cs : List Value} {γ : Gm} {z : Value} (hc : vcells z = some cs) (hp : cs.all plain1 = true) : FA2 (VR C γ) cs z.cells.toList ∧ ∀ x ∈ cs, x.oneCell' = true := by
  rw [vcells_cells hc]
  exact ⟨plains_VR hp, fun x hx => plain1_one (List.all_eq_true.1 hp x hx)⟩

theorem zero_row (zs : List Value) (z : Value) (hz : vcells z = some zs) (n : Nat) (hn : zs ≠ []) :
    ((Array.range (n * zs.length)).map (z.cells[· % z.cells.size]!)).toList = (List.replicate n zs).flatten := by
  have hzs := vcells_cells hz
  have hsz : z.cells.size = zs.length := by rw [← hzs]; simp
  have hpos : 0 < zs.length := by cases zs with
    | nil => exact absurd rfl hn
    | cons _ _ => simp
  apply List.ext_getElem?
  intro k
  simp only [Array.toList_map, Array.toList_range, List.getElem?_map]
  have hfl : ∀ (n k : Nat), ((List.replicate n zs).flatten)[k]? = if k < n * zs.length then zs[k % zs.length]? else none := by
    intro n
    induction n with
    | zero => intro k; simp
    | succ n ih =>
      intro k
      simp only [List.replicate_succ, List.flatten_cons, List.getElem?_append, ih]
      by_cases h1 : k < zs.length
      · rw [if_pos h1, if_pos (by rw [Nat.add_mul]; omega), Nat.mod_eq_of_lt h1]
      · rw [if_neg h1]
        have e : (k - zs.length) % zs.length = k % zs.length := by
          conv => rhs; rw [show k = (k - zs.length) + zs.length by omega, Nat.add_mod_right]
        rw [e]
        have : (k - zs.length < n * zs.length) ↔ (k < (n + 1) * zs.length) := by rw [Nat.add_mul]; omega
        by_cases h2 : k - zs.length < n * zs.length
        · rw [if_pos h2, if_pos (this.1 h2)]
        · rw [if_neg h2, if_neg (fun x => h2 (this.2 x))]
  rw [hfl, hsz]
  by_cases hk : k < n * zs.length
  · have hm : k % zs.length < z.cells.size := by rw [hsz]; exact Nat.mod_lt _ hpos
    rw [if_pos hk, List.getElem?_range hk]
    simp only [Option.map_some]
    rw [← hzs, Array.getElem?_toList, getElem!_pos z.cells _ (by simpa [hzs] using hm)]
    rw [Array.getElem?_eq_getElem (by simpa [hzs] using hm)]
  · rw [if_neg hk, List.getElem?_eq_none (by simpa using hk)]
    rfl

/-- An operation that only makes a block: what it makes. -/
structure Fl (C : Ctx) (γ : Gm) (o : Oper) (a : Act) (v : Value) (next : Nat) (blk : ABlk) : Prop where
  go : ∀ w : World, C.base ≤ w.heap.size → ∃ v' obj N, (execOp a.eval o).run C.P w = .ok (.value v') { w with heap := w.heap.push obj } ∧
    ∀ γ', Sub γ γ' → γ' next = some (w.heap.size, 0, N) → VR C γ' v v' ∧ BR C γ' blk (some obj) w.heap.size 0 N

theorem fl_alloc {t : TypeId} {zs : List Value} {o : Oper} (ho : o.op = .alloc t) (hz : tzero C.P t = some zs) (n : Nat) :
    Fl C γ o a (.pointer (some ⟨n, 0, none⟩)) n (.cells zs false false) := by
  obtain ⟨i, z, h1, h2, h3, h4, h5⟩ := tzero_some hz
  refine ⟨fun w hw => ⟨.pointer (some ⟨w.heap.size, 0, none⟩), .cells z.cells t, z.cells.size, ?_, fun γ' hs hg => ⟨VR.ptr (o := 0) hg, ?_⟩⟩⟩
  · simp [execOp, ho, Instr.alloc, run_zero h1 h2, newVar, run_newRow]
  · obtain ⟨k1, k2⟩ := zeros_VR (C := C) (γ := γ') h3 h4
    exact BR.new (by rw [List.take_of_length_le (by rw [k1.length]; exact Nat.le_refl _)]; exact k1) (by rw [k1.length]; simp) k2 hw

theorem fl_box {t : TypeId} {x : Operand} {v : Value} {cs : List Value} {o : Oper} (ho : o.op = .box t x) (hv : VR C γ v (a.eval x)) (hc : vcells v = some cs) (n : Nat) :
    Fl C γ o a (.pointer (some ⟨n, 0, none⟩)) n (.cells cs false false) := by
  refine ⟨fun w hw => ⟨.pointer (some ⟨w.heap.size, 0, none⟩), .cells (a.eval x).cells t, (a.eval x).cells.size, ?_, fun γ' hs hg => ⟨VR.ptr (o := 0) hg, ?_⟩⟩⟩
  · simp [execOp, ho, Instr.box, newVar, run_newRow]
  · obtain ⟨k1, k2⟩ := (hv.mono hs).cells hc
    exact BR.new (by rw [List.take_of_length_le (by rw [k1.length]; exact Nat.le_refl _)]; exact k1) (by rw [k1.length]; simp) k2 hw

theorem fl_mkslice (hρ : OR C γ ρ a) {t e : TypeId} {len n : Nat} {ps : List (Nat × Operand)} {zs : List Value} {ss : List (Nat × Nat × SOpd)} {l : List (Nat × Nat × Value)} {cs : List Value} {o : Oper}
    (ho : o.op = .buildSlice t len ps.toArray) (hu : C.P.underlying t = some (.slice e)) (hn : tsize C.P e = some n) (hz : tzero C.P e = some zs)
    (hp : cParts C.ψ (fun i => some (i * n, n)) ps = some ss) (hl : len * n ≤ 4096 ∧ n ≠ 0) (hv : vparts ρ ss = some l) (hf : sfill l (List.replicate len zs).flatten = some cs) (nx : Nat) :
    Fl C γ o a (.slice (some ⟨nx, 0, none⟩) len len) nx (.cells cs false false) := by
  obtain ⟨i, z, h1, h2, h3, h4, h5⟩ := tzero_some hz
  have hni : n = i.size := by simp [tsize, h1] at hn; omega
  have hzl : zs.length = n := by omega
  obtain ⟨k1, k2⟩ := zeros_VR (C := C) (γ := γ) h3 h4
  have hpr := hρ.parts hp hv
  have hrow := zero_row zs z h3 len (by intro e; rw [e] at hzl; simp at hzl; omega)
  rw [hzl] at hrow
  have hrep : FA2 (VR C γ) (List.replicate len zs).flatten ((Array.range (len * n)).map (z.cells[· % z.cells.size]!)).toList := by
    rw [hrow]
    have : ∀ x ∈ (List.replicate len zs).flatten, plain1 x = true := by
      intro x hx
      simp only [List.mem_flatten, List.mem_replicate] at hx
      obtain ⟨l, ⟨_, rfl⟩, hx⟩ := hx
      exact List.all_eq_true.1 h4 x hx
    exact plains_VR (List.all_eq_true.2 this)
  have hone : ∀ x ∈ (List.replicate len zs).flatten, x.oneCell' = true := by
    intro x hx
    simp only [List.mem_flatten, List.mem_replicate] at hx
    obtain ⟨l, ⟨_, rfl⟩, hx⟩ := hx
    exact k2 x hx
  obtain ⟨D', f1, f2, f3, f4⟩ := fill_sound hpr hrep hone hf
  refine ⟨fun w hw => ⟨.slice (some ⟨w.heap.size, 0, none⟩) len len, .cells D' e, D'.size, ?_, fun γ' hs hg => ⟨VR.slX (o := 0) hg, ?_⟩⟩⟩
  · simp only [execOp, ho, Instr.buildSlice, Sem.run_bind, run_underlying hu, Result.andThen_ok, run_size hn, Sem.run_pure]
    rw [if_neg (by omega)]
    by_cases h0 : len * n = 0
    · have : len = 0 := by rcases Nat.mul_eq_zero.1 h0 with h | h <;> omega
      subst this
      simp only [h0, if_true, Sem.run_bind, Sem.run_pure, Result.andThen_ok]
      have e0 : ∀ f : Nat → Value, (Array.range 0).map f = #[] := fun _ => by simp
      rw [h0, e0] at f1
      rw [e0]
      simp only [List.map_toArray]
      rw [f1]
      simp [run_newRow]
    · simp only [h0, if_false, Sem.run_bind, run_zero h1 h2, Sem.run_pure, Result.andThen_ok]
      simp only [List.map_toArray]
      rw [f1]
      simp [run_newRow]
  · exact BR.new (by rw [List.take_of_length_le (by rw [f2.length]; exact Nat.le_refl _)]; exact VR.monoL hs f2) (by rw [f2.length]; simp) f3 hw

theorem fl_mkmap {t : TypeId} {o : Oper} (ho : o.op = .makeMap t none) (n : Nat) : Fl C γ o a (.map (some n)) n (.map [] 0) := by
  refine ⟨fun w hw => ⟨.map (some w.heap.size), .map #[] 0, 0, ?_, fun γ' hs hg => ⟨VR.map hg, ?_⟩⟩⟩
  · simp [execOp, ho, Instr.makeMap]
  · exact ⟨#[], rfl, rfl, hw, .nil⟩

theorem fl_mkrow (hρ : OR C γ ρ a) {t e : TypeId} {size bytes : Nat} {zs : List Value} {l c : Operand} {sl sc : SOpd} {kl kc : IntKind} {nl nc : Int} {o : Oper}
    (ho : o.op = .makeSlice t l c) (hu : C.P.underlying t = some (.slice e)) (hn : tsize C.P e = some size) (hb : tbytes C.P e = some bytes) (hz : tzero C.P e = some zs) (hn0 : size ≠ 0)
    (hl : cOpd C.ψ l = some sl) (hcc : cOpd C.ψ c = some sc) (vl : ρ sl = some (.int kl nl)) (vc : ρ sc = some (.int kc nc))
    (hok : 0 ≤ nl ∧ nl ≤ nc ∧ nc * bytes ≤ 70368744177664 ∧ nc ≤ 70368744177664 ∧ zs.length = size) (nx : Nat) :
    Fl C γ o a (.slice (some ⟨nx, 0, none⟩) nl.toNat nc.toNat) nx (.cells (List.replicate nc.toNat zs).flatten false false) := by
  obtain ⟨i, z, h1, h2, h3, h4, h5⟩ := tzero_some hz
  have hni : i.size = size := by simp [tsize, h1] at hn; exact hn
  have hbi : i.bytes = bytes := by simp [tbytes, h1] at hb; exact hb
  obtain ⟨g0, g1, g2, g3, g4⟩ := hok
  have e1 : a.eval l = .int kl nl := by exact (hρ l sl _ hl vl).int_inv
  have e2 : a.eval c = .int kc nc := by exact (hρ c sc _ hcc vc).int_inv
  obtain ⟨k1, k2⟩ := zeros_VR (C := C) (γ := γ) h3 h4
  have hrow := zero_row zs z h3 nc.toNat (by intro e; rw [e] at g4; simp at g4; omega)
  rw [g4] at hrow
  have wl : IntKind.i64.wrap nl = nl := by unfold IntKind.wrap; simp [IntKind.bits, IntKind.signed]; omega
  have wc : IntKind.i64.wrap nc = nc := by unfold IntKind.wrap; simp [IntKind.bits, IntKind.signed]; omega
  refine ⟨fun w hw => ⟨.slice (some ⟨w.heap.size, 0, none⟩) nl.toNat nc.toNat, .cells ((Array.range (nc.toNat * size)).map (z.cells[· % z.cells.size]!)) e, nc.toNat * size, ?_, fun γ' hs hg => ⟨VR.slX (o := 0) hg, ?_⟩⟩⟩
  · simp only [execOp, ho, e1, e2, Instr.makeSlice, Sem.run_bind, run_underlying hu, Result.andThen_ok, asInt, asIntOf, Sem.run_pure, run_typeInfo h1, wl, wc, hbi, run_size hn, run_askRoom]
    have t1 : ¬ ((bytes : Int) * nc > 2 ^ 48) := by rw [Int.mul_comm]; omega
    rw [if_neg (by simp; omega)]
    by_cases h0 : nc.toNat * size = 0
    · have e0 : ∀ f : Nat → Value, (Array.range 0).map f = #[] := fun _ => by simp
      simp only [h0, if_true, Sem.run_bind, Sem.run_pure, Result.andThen_ok, run_newRow, run_askRoom, e0, run_size hn]
    · simp only [h0, if_false, Sem.run_bind, Sem.run_pure, Result.andThen_ok, run_size hn, run_zero h1 h2, run_newRow, run_askRoom]
  · have hlen : ((Array.range (nc.toNat * size)).map (z.cells[· % z.cells.size]!)).size = nc.toNat * size := by simp
    have hfl : (List.replicate nc.toNat zs).flatten.length = nc.toNat * size := by rw [← hrow]; simp
    have hR : FA2 (VR C γ') (List.replicate nc.toNat zs).flatten ((Array.range (nc.toNat * size)).map (z.cells[· % z.cells.size]!)).toList := by
      rw [hrow]
      refine plains_VR (List.all_eq_true.2 ?_)
      intro x hx
      simp only [List.mem_flatten, List.mem_replicate] at hx
      obtain ⟨l, ⟨_, rfl⟩, hx⟩ := hx
      exact List.all_eq_true.1 h4 x hx
    have := BR.new (C := C) (γ := γ') (E := e) (g := false) (c := (List.replicate nc.toNat zs).flatten) (D := (Array.range (nc.toNat * size)).map (z.cells[· % z.cells.size]!)) (by rw [List.take_of_length_le (by rw [hR.length]; exact Nat.le_refl _)]; exact hR) (by omega) (by
      intro x hx
      simp only [List.mem_flatten, List.mem_replicate] at hx
      obtain ⟨l, ⟨_, rfl⟩, hx⟩ := hx
      exact k2 x hx) hw
    rwa [hlen] at this
end

end Go.Jq
