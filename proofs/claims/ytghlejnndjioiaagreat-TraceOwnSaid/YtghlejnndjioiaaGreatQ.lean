/- Machines: what they are in memory. -/
import Derived.Test.YtghlejnndjioiaaGreatI
import Derived.Test.YtghlejnndjioiaaGreatH
import Derived.Test.YtghlejnndjioiaaGreatC
set_option linter.unusedSimpArgs false
set_option linter.unusedVariables false
namespace Go.Jq
variable {G : Nat → SFunc} {h : AH} {R : Value → AH → Prop}
def intV (x : Int) : Value := .int .i64 x
structure VM where
  mem : List Int
  by' : List Int
  lcl : List Lcl
  bufs : List Value
  steps : Value
structure VM.Ok (v : VM) : Prop where
  mem : v.mem.length = 4
  by' : v.by'.length = 4
  lcl : v.lcl.length = 4
  bufs : v.bufs.length = 4
def VM.c (v : VM) (lv iv tv : Value) (m : Int) : List Value := [lv, iv, tv, .int .i64 m] ++ (v.mem.map intV ++ (v.by'.map intV ++ (v.lcl.flatMap Lcl.c ++ (v.bufs ++ [v.steps]))))
theorem Lcl.c_length (l : Lcl) : l.c.length = 5 := rfl
theorem lcl_len {l : List Lcl} : (l.flatMap Lcl.c).length = l.length * 5 := by
  induction l with
  | nil => rfl
  | cons a l ih => rw [List.flatMap_cons, List.length_append, ih, Lcl.c_length, List.length_cons]; omega
section
variable {v : VM} {lv iv tv : Value} {m : Int} {i : Nat} {x : Int}
theorem VM.c_len (o : v.Ok) : (v.c lv iv tv m).length = 37 := by
  unfold VM.c
  simp [-List.length_flatMap, lcl_len, o.mem, o.by', o.lcl, o.bufs]
theorem VM.get_p : (v.c lv iv tv m)[0]? = some lv ∧ (v.c lv iv tv m)[1]? = some iv ∧ (v.c lv iv tv m)[2]? = some tv := ⟨rfl, rfl, rfl⟩
theorem VM.take_p : (v.c lv iv tv m).take 3 = [lv, iv, tv] := rfl
theorem VM.get_m : (v.c lv iv tv m)[3]? = some (.int .i64 m) := rfl
theorem VM.get_mem (o : v.Ok) (hi : i < 4) : (v.c lv iv tv m)[4 + i]? = some (.int .i64 (v.mem[i]'(by have := o.mem; omega))) := by
  unfold VM.c
  rw [List.getElem?_append_right (by simp), List.getElem?_append_left (by simp [o.mem]; omega)]
  simp [intV, show i < v.mem.length by have := o.mem; omega]
theorem VM.get_by (o : v.Ok) (hi : i < 4) : (v.c lv iv tv m)[8 + i]? = some (.int .i64 (v.by'[i]'(by have := o.by'; omega))) := by
  unfold VM.c
  rw [List.getElem?_append_right (by simp; omega), List.getElem?_append_right (by simp [o.mem]; omega), List.getElem?_append_left (by simp [o.mem, o.by']; omega)]
  simp [intV, o.mem, show 8 + i - 4 - 4 = i by omega, show i < v.by'.length by have := o.by'; omega]
theorem VM.get_buf (o : v.Ok) (hi : i < 4) : (v.c lv iv tv m)[32 + i]? = some (v.bufs[i]'(by have := o.bufs; omega)) := by
  unfold VM.c
  rw [List.getElem?_append_right (by simp; omega), List.getElem?_append_right (by simp [o.mem]; omega), List.getElem?_append_right (by simp [o.mem, o.by']; omega), List.getElem?_append_right (by simp [-List.length_flatMap, o.mem, o.by', o.lcl, lcl_len]; omega), List.getElem?_append_left (by simp [-List.length_flatMap, o.mem, o.by', o.lcl, lcl_len, o.bufs]; omega)]
  simp [-List.length_flatMap, o.mem, o.by', o.lcl, lcl_len, show 32 + i - 4 - 4 - 4 - 20 = i by omega, show i < v.bufs.length by have := o.bufs; omega]
theorem VM.get_steps (o : v.Ok) : (v.c lv iv tv m)[36]? = some v.steps := by
  unfold VM.c
  rw [List.getElem?_append_right (by simp), List.getElem?_append_right (by simp [o.mem]), List.getElem?_append_right (by simp [o.mem, o.by']), List.getElem?_append_right (by simp [-List.length_flatMap, o.mem, o.by', o.lcl, lcl_len]), List.getElem?_append_right (by simp [-List.length_flatMap, o.mem, o.by', o.lcl, lcl_len, o.bufs])]
  simp [-List.length_flatMap, o.mem, o.by', o.lcl, lcl_len, o.bufs]
theorem VM.drop_lcl (o : v.Ok) : (v.c lv iv tv m).drop 12 = v.lcl.flatMap Lcl.c ++ (v.bufs ++ [v.steps]) := by
  unfold VM.c
  rw [List.drop_append, List.drop_of_length_le (by simp), List.nil_append, List.drop_append, List.drop_of_length_le (by simp [o.mem]), List.nil_append, List.drop_append, List.drop_of_length_le (by simp [o.mem, o.by']), List.nil_append]
  simp [o.mem, o.by']
theorem lcl_take {l : List Lcl} (hi : i < l.length) {r : List Value} : ((l.flatMap Lcl.c ++ r).drop (i * 5)).take 5 = (l[i]).c := by
  induction l generalizing i with
  | nil => simp at hi
  | cons a l ih =>
    cases i with
    | zero => simp [List.flatMap_cons, Lcl.c]
    | succ i =>
      have e : (i + 1) * 5 = a.c.length + i * 5 := by rw [Lcl.c_length]; omega
      rw [List.flatMap_cons, List.append_assoc, e, ← List.drop_drop, List.drop_left]
      simpa using ih (i := i) (by simpa using hi)
theorem VM.get_lcl (o : v.Ok) (hi : i < 4) : ((v.c lv iv tv m).drop (12 + i * 5)).take 5 = (v.lcl[i]'(by have := o.lcl; omega)).c := by
  rw [← List.drop_drop, VM.drop_lcl o]
  exact lcl_take (by have := o.lcl; omega)
theorem VM.set_mem (o : v.Ok) (hi : i < 4) : (v.c lv iv tv m).set (4 + i) (.int .i64 x) = ({ v with mem := v.mem.set i x }).c lv iv tv m := by
  unfold VM.c
  rw [List.set_append_right _ _ (by simp), List.set_append_left _ _ (by simp [o.mem]; omega), List.map_set]
  simp [intV]
theorem VM.set_by (o : v.Ok) (hi : i < 4) : (v.c lv iv tv m).set (8 + i) (.int .i64 x) = ({ v with by' := v.by'.set i x }).c lv iv tv m := by
  unfold VM.c
  rw [List.set_append_right _ _ (by simp; omega), List.set_append_right _ _ (by simp [o.mem]; omega), List.set_append_left _ _ (by simp [o.mem, o.by']; omega), List.map_set]
  simp [intV, o.mem, show 8 + i - 4 - 4 = i by omega]
theorem VM.set_buf (o : v.Ok) (hi : i < 4) {u : Value} : (v.c lv iv tv m).set (32 + i) u = ({ v with bufs := v.bufs.set i u }).c lv iv tv m := by
  unfold VM.c
  rw [List.set_append_right _ _ (by simp; omega), List.set_append_right _ _ (by simp [o.mem]; omega), List.set_append_right _ _ (by simp [o.mem, o.by']; omega), List.set_append_right _ _ (by simp [-List.length_flatMap, o.mem, o.by', o.lcl, lcl_len]; omega), List.set_append_left _ _ (by simp [-List.length_flatMap, o.mem, o.by', o.lcl, lcl_len, o.bufs]; omega)]
  simp [-List.length_flatMap, o.mem, o.by', o.lcl, lcl_len, show 32 + i - 4 - 4 - 4 - 20 = i by omega]
theorem VM.set_steps (o : v.Ok) {u : Value} : (v.c lv iv tv m).set 36 u = ({ v with steps := u }).c lv iv tv m := by
  unfold VM.c
  rw [List.set_append_right _ _ (by simp), List.set_append_right _ _ (by simp [o.mem]), List.set_append_right _ _ (by simp [o.mem, o.by']), List.set_append_right _ _ (by simp [-List.length_flatMap, o.mem, o.by', o.lcl, lcl_len]), List.set_append_right _ _ (by simp [-List.length_flatMap, o.mem, o.by', o.lcl, lcl_len, o.bufs])]
  simp [-List.length_flatMap, o.mem, o.by', o.lcl, lcl_len, o.bufs]
end
end Go.Jq
namespace Go.Jq
variable {G : Nat → SFunc} {h : AH} {R : Value → AH → Prop}
structure VmG (G : Nat → SFunc) : Prop extends StepG G where
  g288 : G 288 = c288
  g294 : G 294 = c294
  g293 : G 293 = c293
  g292 : G 292 = c292
  g290 : G 290 = c290
  g289 : G 289 = c289
  g286 : G 286 = c286
  g287 : G 287 = c287
def flM (m i : Int) : Option (Int × Int) := if m = 2 ∧ 4 ≤ i ∧ i < 8 then some (i - 4, -1) else if m = 3 ∧ 8 ≤ i ∧ i < 24 then some ((i - 8).tdiv 4, (i - 8).tmod 4) else none
def flV (m i : Int) : Value := match flM m i with
  | some x => .tuple #[.int .i64 x.1, .int .i64 x.2, .bool true]
  | none => .tuple #[.int .i64 0, .int .i64 0, .bool false]
set_option maxHeartbeats 1000000 in
theorem flushM_spec (g : VmG G) {b : Nat} {c : List Value} {m i : Int} (gb : h.get b = .cells c false false) (hm : c[3]? = some (.int .i64 m)) (k : R (flV m i) h) : WC G 293 [.pointer (some ⟨b, 0, none⟩), .int .i64 i] h R := by
  refine WC_enter g.g293 rfl ?_
  show W G c293_body _ _ (retK [.tmp 4, .tmp 5, .tmp 6] R)
  unfold c293_body c293_0 c293_1
  unfold flV flM at k
  obtain ⟨h3, hm⟩ := List.getElem?_eq_some_iff.1 hm
  by_cases m2 : m = 2
  · have m3 : ¬ m = 3 := by omega
    by_cases i4 : 4 ≤ i
    · by_cases i8 : i < 8
      · rw [if_pos ⟨m2, i4, i8⟩] at k
        have w : IntKind.i64.wrap (i - 4) = i - 4 := wrap64 (by omega)
        simp -implicitDefEqProofs [gb, h3, hm, m2, i4, i8, c293_2, w]
        exact k
      · rw [if_neg (by omega), if_neg (by omega)] at k
        simp -implicitDefEqProofs [gb, h3, hm, m2, i4, i8, c293_3, c293_5]
        exact k
    · rw [if_neg (by omega), if_neg (by omega)] at k
      simp -implicitDefEqProofs [gb, h3, hm, m2, i4, c293_3, c293_5]
      exact k
  · rw [if_neg (by omega)] at k
    by_cases m3 : m = 3
    · by_cases i8 : 8 ≤ i
      · by_cases i24 : i < 24
        · rw [if_pos ⟨m3, i8, i24⟩] at k
          have w : IntKind.i64.wrap (i - 8) = i - 8 := wrap64 (by omega)
          have w2 : IntKind.i64.wrap ((i - 8).tdiv 4) = (i - 8).tdiv 4 := by rw [Int.tdiv_eq_ediv_of_nonneg (by omega)]; exact wrap64 (by omega)
          simp -implicitDefEqProofs [gb, h3, hm, m2, m3, i8, i24, c293_3, c293_4, w, w2]
          exact k
        · rw [if_neg (by omega)] at k
          simp -implicitDefEqProofs [gb, h3, hm, m2, m3, i8, i24, c293_3, c293_5]
          exact k
      · rw [if_neg (by omega)] at k
        simp -implicitDefEqProofs [gb, h3, hm, m2, m3, i8, c293_3, c293_5]
        exact k
    · rw [if_neg (by omega)] at k
      simp -implicitDefEqProofs [gb, h3, hm, m2, m3, c293_3, c293_5]
      exact k
structure Ent where
  loc : Int
  value : Int
  id : Int
  deriving DecidableEq
def Ent.c (e : Ent) : List Value := [.int .i64 e.loc, .int .i64 e.value, .int .i64 e.id]
theorem Ent.c_length (e : Ent) : e.c.length = 3 := rfl
def oldM (l : List Ent) (loc : Int) : Option Nat := l.findIdx? fun e => decide (loc < 0) || decide (e.loc = loc)
def oldI (l : List Ent) (loc : Int) : Int := match oldM l loc with
  | some k => k
  | none => -1
def inv294 (hh : AH) (b : Nat) (t loc : Int) (l : List Ent) (mm : Nat) (F : Fr) (h' : AH) : Prop :=
  ∃ k : Nat, mm = l.length - k ∧ k ≤ l.length ∧ h' = hh ∧ (∀ j (hj : j < l.length), j < k → ¬ (loc < 0) ∧ l[j].loc ≠ loc) ∧ F = [(0, .pointer (some ⟨b, 0, none⟩)), (1, .int .i64 t), (2, .int .i64 loc), (7, .int .i64 k)]
set_option maxHeartbeats 1000000 in
theorem oldest_spec (g : VmG G) {b : Nat} {c : List Value} {t : Nat} {loc : Int} {l : List Ent} {u : Value} (gb : h.get b = .cells c false false) (lc : c.length = 37) (ht : t < 4) (hu : c[32 + t]? = some u) (s : SlV 3 h l.length (l.flatMap Ent.c) u) (hl : l.length ≤ 1000) (k : R (.int .i64 (oldI l loc)) h) :
    WC G 294 [.pointer (some ⟨b, 0, none⟩), .int .i64 t, .int .i64 loc] h R := by
  refine WC_enter g.g294 rfl ?_
  show W G c294_body _ _ (retK [.tmp 6] R)
  unfold c294_body c294_0 c294_1
  simp -implicitDefEqProofs
  refine W_loop (inv294 h b t loc l) l.length ⟨0, rfl, by omega, rfl, by omega, rfl⟩ ?_
  rintro mm F h' ⟨j, rfl, hj, rfl, hno, rfl⟩
  unfold c294_6 c294_2 c294_3 c294_4 c294_5
  have t4 : (t : Int) < 4 := by omega
  by_cases h1 : j < l.length
  · obtain ⟨b', o', sp', c', c0', g', ro', rfl, f2, f3, f4, f5, f6⟩ := s.row Ent.c_length h1
    have a0 := f6 0 (by omega)
    simp [Ent.c] at a0
    have hw : IntKind.i64.wrap ((j : Int) + 1) = ((j + 1 : Nat) : Int) := by rw [wrap64 (by omega)]; rfl
    by_cases h2 : loc < 0
    · have e : oldI l loc = j := by
        unfold oldI oldM
        rw [List.findIdx?_eq_some_iff_getElem.2 ⟨h1, by simp [h2], fun y hy => by
          have := hno y (by omega) hy
          omega⟩]
      rw [e] at k
      simp -implicitDefEqProofs [gb, lc, t4, ht, hu, h1, h2]
      exact k
    · by_cases h3 : l[j].loc = loc
      · have e : oldI l loc = j := by
          unfold oldI oldM
          rw [List.findIdx?_eq_some_iff_getElem.2 ⟨h1, by simp [h3], fun y hy => by
            have := hno y (by omega) hy
            simp [this.2, h2]⟩]
        rw [e] at k
        simp -implicitDefEqProofs [gb, lc, t4, ht, hu, h1, h2, f3, a0, h3]
        exact k
      · simp -implicitDefEqProofs [gb, lc, t4, ht, hu, h1, h2, f3, a0, h3, hw]
        refine ⟨l.length - (j + 1), by omega, j + 1, rfl, h1, rfl, fun y hy hyj => ?_, rfl⟩
        by_cases e : y = j
        · subst e; exact ⟨h2, h3⟩
        · exact hno y hy (by omega)
  · obtain ⟨ua, uc, rfl⟩ := s.len
    have e : oldI l loc = -1 := by
      unfold oldI oldM
      rw [List.findIdx?_eq_none_iff.2 fun x hx => by
        obtain ⟨z, hz, rfl⟩ := List.getElem_of_mem hx
        have := hno z hz (by omega)
        simp [this.1, this.2]]
    rw [e] at k
    simp -implicitDefEqProofs [gb, lc, t4, ht, hu, h1, c294_7]
    exact k
end Go.Jq
namespace Go.Jq
variable {G : Nat → SFunc} {h : AH} {R : Value → AH → Prop}
def nextO (p : Prg) (t : Nat) (l : Lcl) : Option Ins := if h : t < p.ths.length then nextM p.ths[t] l else none
def nextW (p : Prg) (t : Nat) (l : Lcl) : Value := match nextO p t l with
  | some i => .tuple #[i.v, .bool true]
  | none => .tuple #[Ins.zero.v, .bool false]
theorem NextO_spec (g : StepG G) {p : Prg} {lv iv tv : Value} (V : PrgV h p lv iv tv) {t : Nat} {l : Lcl} (k : ∀ h1, Ext h h1 → R (nextW p t l) h1) :
    WC G 295 [.agg #[lv, iv, tv], .int .i64 t, .agg #[.int .i64 l.pc, .int .i64 l.r0, .int .i64 l.r1, .int .i64 l.r2, .int .i64 l.r3]] h R := by
  by_cases ht : t < p.ths.length
  · have e : nextW p t l = nextV p.ths[t] l := by unfold nextW nextO nextV; rw [dif_pos ht]; cases nextM p.ths[t] l <;> rfl
    rw [e] at k
    exact Next_spec g V ht k
  · have e : nextW p t l = .tuple #[Ins.zero.v, .bool false] := by unfold nextW nextO; rw [dif_neg ht]
    rw [e] at k
    refine WC_enter g.g295 rfl ?_
    show W G c295_body _ _ (retK [.cellN 6 9, .tmp 7] R)
    unfold c295_body c295_0 c295_1 c295_1b
    have x0 : ∀ o1 o2 o3, Ext h (((h.alloc o1).alloc o2).alloc o3) := fun _ _ _ => (((Ext.refl h).alloc _).alloc _).alloc _
    simp -implicitDefEqProofs
    refine there_spec g (V.ext (x0 _ _ _)) fun h1 x1 => ?_
    have n1 := x1.next
    simp at n1
    have g0 : h1.get h.next = .cells [lv, iv, tv] false false := by rw [x1.get _ (by simp; omega)]; simp
    have g2 : h1.get (h.next + 2) = .cells (zi 9) false false := by rw [x1.get _ (by simp)]; simp
    rw [zi_9] at g2
    have kk := k _ (((x0 _ _ _).trans x1).put (i := h.next + 2) (by omega) (.cells Ins.zero.c false false))
    simp -implicitDefEqProofs [ht, g0, g2, c295_2, zi_9, splice]
    simpa [Ins.v, Ins.c, Ins.zero] using kk
structure Mac where
  mem : List Int
  by' : List Int
  lcl : List Lcl
  bufs : List (List Ent)
  steps : List Stp
structure Mac.Ok (v : Mac) : Prop where
  mem : v.mem.length = 4
  by' : v.by'.length = 4
  lcl : v.lcl.length = 4
  bufs : v.bufs.length = 4
  bufl : ∀ l ∈ v.bufs, l.length ≤ 100
structure MacV (h : AH) (b : Nat) (v : Mac) (lv iv tv : Value) (m : Int) (bvs : List Value) (sv : Value) : Prop where
  at' : h.get b = .cells ((VM.mk v.mem v.by' v.lcl bvs sv).c lv iv tv m) false false
  len : bvs.length = 4
  bufs : ∀ t (ht : t < 4) (hb : t < v.bufs.length) (hv : t < bvs.length), SlV 3 h (v.bufs[t]).length ((v.bufs[t]).flatMap Ent.c) (bvs[t])
theorem MacV.ok {b : Nat} {v : Mac} {lv iv tv : Value} {m : Int} {bvs : List Value} {sv : Value} (V : MacV h b v lv iv tv m bvs sv) (o : v.Ok) : (VM.mk v.mem v.by' v.lcl bvs sv).Ok := ⟨o.mem, o.by', o.lcl, V.len⟩
def bufL (v : Mac) (t : Nat) : List Ent := v.bufs[t]?.getD []
def lclL (v : Mac) (t : Nat) : Lcl := v.lcl[t]?.getD .zero
def mayT (p : Prg) (v : Mac) (t : Nat) : Bool := match nextO p t (lclL v t) with
  | some x => (decide (x.kind ≠ 3) && decide (x.kind ≠ 4)) || decide ((bufL v t).length = 0)
  | none => false
def mayM (p : Prg) (m : Int) (v : Mac) (i : Int) : Bool :=
  if 0 ≤ i ∧ i < 4 then mayT p v i.toNat
  else match flM m i with
    | some x => decide (0 ≤ oldI (bufL v x.1.toNat) x.2)
    | none => false
theorem flM_some {m i : Int} {x : Int × Int} (h : flM m i = some x) : 0 ≤ x.1 ∧ x.1 < 4 ∧ -1 ≤ x.2 ∧ x.2 < 4 ∧ 4 ≤ i ∧ i < 24 := by
  unfold flM at h
  split at h
  · simp only [Option.some.injEq] at h; subst h; simp only []; omega
  · split at h
    · rename_i hh
      simp only [Option.some.injEq] at h; subst h; simp only []
      rw [Int.tdiv_eq_ediv_of_nonneg (by omega), Int.tmod_eq_emod_of_nonneg (by omega)]
      omega
    · simp at h
set_option maxHeartbeats 4000000 in
theorem May_spec (g : VmG G) {p : Prg} {b : Nat} {v : Mac} {lv iv tv sv : Value} {bvs : List Value} {m i : Int} (hb : b < h.next) (P : PrgV h p lv iv tv) (V : MacV h b v lv iv tv m bvs sv) (o : v.Ok) (k : ∀ h1, Ext h h1 → R (.bool (mayM p m v i)) h1) :
    WC G 292 [.pointer (some ⟨b, 0, none⟩), .int .i64 i] h R := by
  have vo := V.ok o
  have lc := VM.c_len (lv := lv) (iv := iv) (tv := tv) (m := m) vo
  have gm := VM.get_m (lv := lv) (iv := iv) (tv := tv) (m := m) (v := VM.mk v.mem v.by' v.lcl bvs sv)
  have tp := VM.take_p (lv := lv) (iv := iv) (tv := tv) (m := m) (v := VM.mk v.mem v.by' v.lcl bvs sv)
  have gb := V.at'
  have gl := fun (t : Nat) (ht : t < 4) => VM.get_lcl (lv := lv) (iv := iv) (tv := tv) (m := m) vo ht
  have gu := fun (t : Nat) (ht : t < 4) => VM.get_buf (lv := lv) (iv := iv) (tv := tv) (m := m) vo ht
  generalize hc : (VM.mk v.mem v.by' v.lcl bvs sv).c lv iv tv m = c at lc gm tp gb gl gu
  by_cases i4 : 0 ≤ i ∧ i < 4
  · obtain ⟨t, rfl⟩ := Int.eq_ofNat_of_zero_le i4.1
    have ht : t < 4 := by omega
    have t4 : (t : Int) < 4 := i4.2
    have em : mayM p m v t = mayT p v t := by unfold mayM; rw [if_pos i4]; rfl
    rw [em] at k
    have hl : t < v.lcl.length := by rw [o.lcl]; exact ht
    have hbl : t < v.bufs.length := by rw [o.bufs]; exact ht
    have hv : t < bvs.length := by rw [V.len]; exact ht
    have el : lclL v t = v.lcl[t] := by unfold lclL; rw [List.getElem?_eq_getElem hl]; rfl
    have eb : bufL v t = v.bufs[t] := by unfold bufL; rw [List.getElem?_eq_getElem hbl]; rfl
    have gl := gl t ht
    have gu := gu t ht
    simp only [] at gl gu
    have le1 : 12 + t * 5 ≤ 32 := by omega
    have le2 : 12 + t * 5 + 5 ≤ 37 := by omega
    have bne : ¬ b = h.next := by omega
    generalize v.lcl[t] = l at el gl
    have elc : l.c = [.int .i64 l.pc, .int .i64 l.r0, .int .i64 l.r1, .int .i64 l.r2, .int .i64 l.r3] := rfl
    rw [elc] at gl
    have sb := V.bufs t ht hbl hv
    obtain ⟨ua, uc, eu⟩ := sb.len
    rw [eu] at gu
    cases en : nextO p t l with
    | none =>
      have ew : nextW p t l = .tuple #[Ins.zero.v, .bool false] := by unfold nextW; rw [en]
      refine WC_enter g.g292 rfl ?_
      show W G c292_body _ _ (retK [.tmp 4] R)
      unfold c292_body c292_0 c292_1
      unfold c292_2 c292_2b
      simp -implicitDefEqProofs [gb, lc, ht, t4, tp, gl, le1, le2, bne]
      have x0 : Ext h (h.alloc (.cells (zi 9) false false)) := (Ext.refl h).alloc _
      refine NextO_spec g.toStepG (P.ext x0) fun h1 x1 => ?_
      have n1 := x1.next
      simp at n1
      have gb1 : h1.get b = .cells c false false := by rw [x1.get _ (by simp; omega), x0.get _ hb]; exact gb
      have g5 : h1.get h.next = .cells (zi 9) false false := by rw [x1.get _ (by simp)]; simp
      rw [zi_9] at g5
      have kk := fun o => k _ ((x0.trans x1).put (i := h.next) (Nat.le_refl _) o)
      unfold mayT at kk
      rw [el, eb, en] at kk
      rw [ew]
      simp -implicitDefEqProofs [gb1, lc, ht, t4, tp, gl, le1, le2, bne, g5, Ins.v, Ins.c, Ins.zero, splice, c292_3]
      exact ⟨rfl, by simpa using kk _⟩
    | some x =>
      have ew : nextW p t l = .tuple #[x.v, .bool true] := by unfold nextW; rw [en]
      refine WC_enter g.g292 rfl ?_
      show W G c292_body _ _ (retK [.tmp 4] R)
      unfold c292_body c292_0 c292_1
      unfold c292_2 c292_2b
      simp -implicitDefEqProofs [gb, lc, ht, t4, tp, gl, le1, le2, bne]
      have x0 : Ext h (h.alloc (.cells (zi 9) false false)) := (Ext.refl h).alloc _
      refine NextO_spec g.toStepG (P.ext x0) fun h1 x1 => ?_
      have n1 := x1.next
      simp at n1
      have gb1 : h1.get b = .cells c false false := by rw [x1.get _ (by simp; omega), x0.get _ hb]; exact gb
      have g5 : h1.get h.next = .cells (zi 9) false false := by rw [x1.get _ (by simp)]; simp
      rw [zi_9] at g5
      have kk := fun o => k _ ((x0.trans x1).put (i := h.next) (Nat.le_refl _) o)
      unfold mayT at kk
      rw [el, eb, en] at kk
      rw [ew]
      generalize v.bufs[t] = bl at kk gu
      simp -implicitDefEqProofs [gb1, lc, ht, t4, tp, gl, le1, le2, bne, g5, Ins.v, Ins.c, splice]
      refine ⟨rfl, ?_⟩
      have gb2 : ∀ o, (h1.put h.next o).get b = .cells c false false := fun o => by rw [AH.put_get, if_neg bne]; exact gb1
      generalize eQ : wO G c292_3 _ _ _ = Q
      by_cases k3 : x.kind = 3
      · by_cases z : bl.length = 0
        · simp [k3, z] at kk
          subst eQ
          simp -implicitDefEqProofs [c292_3, k3, z, gb1, gu, bne, lc, ht, t4]
          exact kk _
        · simp [k3, z] at kk
          subst eQ
          simp -implicitDefEqProofs [c292_3, k3, z, gb1, gu, bne, lc, ht, t4]
          exact kk _
      · by_cases k4 : x.kind = 4
        · by_cases z : bl.length = 0
          · simp [k4, z] at kk
            subst eQ
            simp -implicitDefEqProofs [c292_3, k4, z, gb1, gu, bne, lc, ht, t4]
            exact kk _
          · simp [k4, z] at kk
            subst eQ
            simp -implicitDefEqProofs [c292_3, k4, z, gb1, gu, bne, lc, ht, t4]
            exact kk _
        · simp [k3, k4] at kk
          subst eQ
          simp -implicitDefEqProofs [c292_3, k3, k4, gb1, gu, bne, lc, ht, t4]
          exact kk _
  · have em : mayM p m v i = match flM m i with
      | some x => decide (0 ≤ oldI (bufL v x.1.toNat) x.2)
      | none => false := by unfold mayM; rw [if_neg i4]
    rw [em] at k
    have i4' : ¬ (0 ≤ i ∧ i < 4) := i4
    have step : W G (.seq (.reg [0, 7, 8, 9] c292_4) (.seq (.reg [4] c292_5) .ret)) [(0, .pointer (some ⟨b, 0, none⟩)), (1, .int .i64 i), (15, .bool false)] h (retK [.tmp 4] R) := by
      cases ef : flM m i with
      | none =>
        have efv : flV m i = .tuple #[.int .i64 0, .int .i64 0, .bool false] := by unfold flV; rw [ef]
        unfold c292_4 c292_5
        simp -implicitDefEqProofs
        refine flushM_spec g gb gm ?_
        rw [efv]
        rw [ef] at k
        simp -implicitDefEqProofs
        exact k h (Ext.refl h)
      | some x =>
        rw [ef] at k
        obtain ⟨f1, f2, f3, f4, f5, f6⟩ := flM_some ef
        obtain ⟨a, loc⟩ := x
        simp only [] at f1 f2 f3 f4 k
        obtain ⟨t, rfl⟩ := Int.eq_ofNat_of_zero_le f1
        have ht : t < 4 := by omega
        have hbl : t < v.bufs.length := by rw [o.bufs]; exact ht
        have hv : t < bvs.length := by rw [V.len]; exact ht
        have eb : bufL v t = v.bufs[t] := by unfold bufL; rw [List.getElem?_eq_getElem hbl]; rfl
        have hlen := o.bufl _ (List.getElem_mem hbl)
        rw [Int.toNat_natCast, eb] at k
        have efv : flV m i = .tuple #[.int .i64 t, .int .i64 loc, .bool true] := by unfold flV; rw [ef]
        unfold c292_4 c292_5
        simp -implicitDefEqProofs
        refine flushM_spec g gb gm ?_
        rw [efv]
        simp -implicitDefEqProofs
        refine oldest_spec g gb lc ht (gu t ht) (V.bufs t ht hbl hv) (by omega) ?_
        simp -implicitDefEqProofs
        exact k h (Ext.refl h)
    simp -implicitDefEqProofs only [W_seq, W_reg] at step
    by_cases i0 : 0 ≤ i
    · have i4n : ¬ i < 4 := by omega
      refine WC_enter g.g292 rfl ?_
      show W G c292_body _ _ (retK [.tmp 4] R)
      unfold c292_body c292_0 c292_1
      simp -implicitDefEqProofs [i0, i4n]
      exact step
    · refine WC_enter g.g292 rfl ?_
      show W G c292_body _ _ (retK [.tmp 4] R)
      unfold c292_body c292_0 c292_1
      simp -implicitDefEqProofs [i0]
      exact step
end Go.Jq
namespace Go.Jq
variable {G : Nat → SFunc} {h : AH} {R : Value → AH → Prop}
def enM (p : Prg) (m : Int) (v : Mac) (n : Nat) : List Int := ((List.range n).filter fun (i : Nat) => mayM p m v i).map fun (i : Nat) => (i : Int)
theorem MacV.ext {h1 : AH} {b : Nat} {v : Mac} {lv iv tv : Value} {m : Int} {bvs : List Value} {sv : Value} (V : MacV h b v lv iv tv m bvs sv) (hb : b < h.next) (x : Ext h h1) : MacV h1 b v lv iv tv m bvs sv :=
  ⟨by rw [x.get b hb]; exact V.at', V.len, fun t ht hb' hv => (V.bufs t ht hb' hv).ext x⟩
def inv290 (h : AH) (b : Nat) (p : Prg) (m : Int) (v : Mac) (mm : Nat) (F : Fr) (hh : AH) : Prop :=
  ∃ (k : Nat) (u : Value), mm = 24 - k ∧ k ≤ 24 ∧ Ext h hh ∧ SlG 1 hh h.next (enM p m v k).length ((enM p m v k).flatMap intC) u ∧ F = [(0, .pointer (some ⟨b, 0, none⟩)), (3, u), (4, .int .i64 k)]
theorem enM_succ {p : Prg} {m : Int} {v : Mac} {k : Nat} : enM p m v (k + 1) = enM p m v k ++ (if mayM p m v k = true then [(k : Int)] else []) := by
  unfold enM
  rw [List.range_succ, List.filter_append, List.map_append]
  congr 1
  cases e : mayM p m v k <;> simp [List.filter_cons, e]
theorem enM_len {p : Prg} {m : Int} {v : Mac} {k : Nat} : (enM p m v k).length ≤ k := by
  unfold enM
  rw [List.length_map]
  exact Nat.le_trans (List.length_filter_le _ _) (by simp)
set_option maxHeartbeats 2000000 in
theorem Enabled_spec (g : VmG G) {p : Prg} {b : Nat} {v : Mac} {lv iv tv sv : Value} {bvs : List Value} {m : Int} (hb : b < h.next) (P : PrgV h p lv iv tv) (V : MacV h b v lv iv tv m bvs sv) (o : v.Ok)
    (k : ∀ h1 u, Ext h h1 → SlG 1 h1 h.next (enM p m v 24).length ((enM p m v 24).flatMap intC) u → R u h1) : WC G 290 [.pointer (some ⟨b, 0, none⟩)] h R := by
  refine WC_enter g.g290 rfl ?_
  show W G c290_body _ _ (retK [.tmp 2] R)
  unfold c290_body c290_0 c290_1 c290_2
  simp -implicitDefEqProofs
  refine W_loop (inv290 h b p m v) 24 ⟨0, _, rfl, by omega, Ext.refl _, SlG.nil, rfl⟩ ?_
  rintro mm F hh ⟨j, u, rfl, hj, x, s, rfl⟩
  unfold c290_7 c290_3 c290_4
  have hlen := enM_len (p := p) (m := m) (v := v) (k := j)
  by_cases h1 : j < 24
  · have hw : IntKind.i64.wrap ((j : Int) + 1) = ((j + 1 : Nat) : Int) := by rw [wrap64 (by omega)]; rfl
    have h1' : (j : Int) < 24 := by omega
    simp -implicitDefEqProofs [h1, h1']
    have hnx := x.next
    refine May_spec g (by omega) (P.ext x) (V.ext hb x) o fun h2 x2 => ?_
    have hn2 := x2.next
    have es := enM_succ (p := p) (m := m) (v := v) (k := j)
    cases e : mayM p m v j with
    | true =>
      rw [e, if_pos rfl] at es
      simp -implicitDefEqProofs [c290_5]
      refine (s.ext x2).app1 (h0 := h) (ec := [.int .i64 j]) rfl (by omega) (x.trans x2) (Nat.le_refl _) (by omega) fun v' h' s' x' => ?_
      simp -implicitDefEqProofs [c290_6, hw]
      refine ⟨24 - (j + 1), by omega, j + 1, v', rfl, by omega, x', ?_, by simp⟩
      rw [es, List.length_append, List.flatMap_append]
      simpa [intC] using s'
    | false =>
      rw [e, if_neg (by simp), List.append_nil] at es
      simp -implicitDefEqProofs [c290_6, hw]
      exact ⟨24 - (j + 1), by omega, j + 1, u, rfl, by omega, x.trans x2, by rw [es]; exact s.ext x2, by simp⟩
  · have hj' : j = 24 := by omega
    subst hj'
    simp -implicitDefEqProofs [c290_8]
    exact k hh u x s
end Go.Jq
namespace Go.Jq
variable {G : Nat → SFunc} {h : AH} {R : Value → AH → Prop}
theorem splice_right {A X vs : List Value} {o n : Nat} (hn : n = A.length + o) : splice (A ++ X) n vs = A ++ splice X o vs := by
  subst hn
  unfold splice
  rw [List.take_append, List.take_of_length_le (by omega), List.drop_append, List.drop_of_length_le (by omega)]
  simp [show A.length + o - A.length = o by omega, show A.length + o + vs.length - A.length = o + vs.length by omega]
theorem splice_lcl {l : List Lcl} {i : Nat} (hi : i < l.length) {x : Lcl} {B : List Value} : splice (l.flatMap Lcl.c ++ B) (i * 5) x.c = (l.set i x).flatMap Lcl.c ++ B := by
  induction l generalizing i with
  | nil => simp at hi
  | cons a l ih =>
    cases i with
    | zero => simp [splice, List.flatMap_cons, Lcl.c]
    | succ i =>
      rw [List.flatMap_cons, List.append_assoc, splice_right (o := i * 5) (by rw [Lcl.c_length]; omega), ih (by simpa using hi), List.set_cons_succ, List.flatMap_cons, List.append_assoc]
theorem VM.set_lcl {v : VM} {lv iv tv : Value} {m : Int} {i : Nat} {x : Lcl} (o : v.Ok) (hi : i < 4) : splice (v.c lv iv tv m) (12 + i * 5) x.c = ({ v with lcl := v.lcl.set i x }).c lv iv tv m := by
  unfold VM.c
  rw [splice_right (o := 8 + i * 5) (by simp; omega), splice_right (o := 4 + i * 5) (by simp [o.mem]; omega), splice_right (o := i * 5) (by simp [o.by']), splice_lcl (by rw [o.lcl]; exact hi)]
def newMem (p : Prg) : List Int := (p.init ++ [0, 0, 0, 0]).take 4
def newLcl (p : Prg) : List Lcl := ((p.ths.map fun l => nrm l Lcl.zero) ++ [Lcl.zero, Lcl.zero, Lcl.zero, Lcl.zero]).take 4
def newMac (p : Prg) : Mac := ⟨newMem p, [-1, -1, -1, -1], newLcl p, [[], [], [], []], []⟩
def vm0 (mem : List Int) (lcl : List Lcl) : VM := ⟨mem, [-1, -1, -1, -1], lcl, [.slice none 0 0, .slice none 0 0, .slice none 0 0, .slice none 0 0], .slice none 0 0⟩
theorem vm0_ok {mem : List Int} {lcl : List Lcl} (h1 : mem.length = 4) (h2 : lcl.length = 4) : (vm0 mem lcl).Ok := ⟨h1, rfl, h2, rfl⟩
def memK (p : Prg) (k : Nat) : List Int := (p.init.take k ++ [0, 0, 0, 0]).take 4
def lclK (p : Prg) (k : Nat) : List Lcl := ((p.ths.take k).map (fun l => nrm l Lcl.zero) ++ [Lcl.zero, Lcl.zero, Lcl.zero, Lcl.zero]).take 4
theorem take4_set {α : Type} {l : List α} {z x : α} (hl : l.length < 4) : ((l ++ [z, z, z, z]).take 4).set l.length x = ((l ++ [x]) ++ [z, z, z, z]).take 4 := by
  match l, hl with
  | [], _ => rfl
  | [a], _ => rfl
  | [a, b], _ => rfl
  | [a, b, c], _ => rfl
  | a :: b :: c :: d :: r, hl => simp at hl; omega
theorem memK_succ {p : Prg} {k : Nat} (hk : k < p.init.length) (h4 : k < 4) : (memK p k).set k p.init[k] = memK p (k + 1) := by
  have hl : (p.init.take k).length = k := by rw [List.length_take]; omega
  unfold memK
  have := take4_set (l := p.init.take k) (z := (0 : Int)) (x := p.init[k]) (by omega)
  rw [hl] at this
  have e : p.init.take (k + 1) = p.init.take k ++ [p.init[k]] := by rw [List.take_add_one, List.getElem?_eq_getElem hk]; rfl
  rw [this, e]
theorem lclK_succ {p : Prg} {k : Nat} (hk : k < p.ths.length) (h4 : k < 4) : (lclK p k).set k (nrm p.ths[k] .zero) = lclK p (k + 1) := by
  have hl : ((p.ths.take k).map (fun l => nrm l Lcl.zero)).length = k := by rw [List.length_map, List.length_take]; omega
  unfold lclK
  have := take4_set (l := (p.ths.take k).map (fun l => nrm l Lcl.zero)) (z := Lcl.zero) (x := nrm p.ths[k] .zero) (by omega)
  rw [hl] at this
  have e : p.ths.take (k + 1) = p.ths.take k ++ [p.ths[k]] := by rw [List.take_add_one, List.getElem?_eq_getElem hk]; rfl
  rw [this, e, List.map_append]; rfl
theorem take4_len {α : Type} {l : List α} {z : α} : ((l ++ [z, z, z, z]).take 4).length = 4 := by rw [List.length_take, List.length_append]; simp
def inv288a (h : AH) (p : Prg) (lv iv tv : Value) (m : Int) (mm : Nat) (F : Fr) (hh : AH) : Prop :=
  ∃ k : Nat, mm = p.init.length - k ∧ k ≤ p.init.length ∧ Ext h hh ∧ h.next + 2 ≤ hh.next ∧ hh.get h.next = .cells [lv, iv, tv] false false ∧ hh.get (h.next + 1) = .cells ((vm0 (memK p k) (lclK p 0)).c lv iv tv m) false false ∧
    F = [(2, .pointer (some ⟨h.next, 0, none⟩)), (5, .pointer (some ⟨h.next + 1, 0, none⟩)), (6, .int .i64 k)]
def inv288b (h : AH) (p : Prg) (lv iv tv : Value) (m : Int) (mm : Nat) (F : Fr) (hh : AH) : Prop :=
  ∃ k : Nat, mm = p.ths.length - k ∧ k ≤ p.ths.length ∧ Ext h hh ∧ h.next + 2 ≤ hh.next ∧ hh.get h.next = .cells [lv, iv, tv] false false ∧ hh.get (h.next + 1) = .cells ((vm0 (memK p p.init.length) (lclK p k)).c lv iv tv m) false false ∧
    F = [(2, .pointer (some ⟨h.next, 0, none⟩)), (5, .pointer (some ⟨h.next + 1, 0, none⟩)), (7, .int .i64 k)]
set_option maxHeartbeats 4000000 in
theorem New_spec (g : VmG G) {p : Prg} {lv iv tv : Value} {m : Int} (P : PrgV h p lv iv tv) (O : ThOk p) (hi : p.init.length ≤ 4) (ht : p.ths.length ≤ 4)
    (k : ∀ h1 b, Ext h h1 → h.next ≤ b → b < h1.next → MacV h1 b (newMac p) lv iv tv m [.slice none 0 0, .slice none 0 0, .slice none 0 0, .slice none 0 0] (.slice none 0 0) → R (.pointer (some ⟨b, 0, none⟩)) h1) :
    WC G 288 [.agg #[lv, iv, tv], .int .i64 m] h R := by
  refine WC_enter g.g288 rfl ?_
  show W G c288_body _ _ (retK [.tmp 4] R)
  unfold c288_body c288_0 c288_1 c288_2
  have e0 : (vm0 (memK p 0) (lclK p 0)).c lv iv tv m = [lv, iv, tv, .int .i64 m, .int .i64 0, .int .i64 0, .int .i64 0, .int .i64 0, .int .i64 (-1), .int .i64 (-1), .int .i64 (-1), .int .i64 (-1), .int .i64 0, .int .i64 0, .int .i64 0, .int .i64 0, .int .i64 0, .int .i64 0, .int .i64 0, .int .i64 0, .int .i64 0, .int .i64 0, .int .i64 0, .int .i64 0, .int .i64 0, .int .i64 0, .int .i64 0, .int .i64 0, .int .i64 0, .int .i64 0, .int .i64 0, .int .i64 0, .slice none 0 0, .slice none 0 0, .slice none 0 0, .slice none 0 0, .slice none 0 0] := rfl
  obtain ⟨ia, ic, eiv⟩ := P.init.len
  obtain ⟨ta, tc, etv⟩ := P.ths.len
  simp -implicitDefEqProofs [splice, show zi 4 = [.int .i64 0, .int .i64 0, .int .i64 0, .int .i64 0] from rfl]
  refine W_loop (inv288a h p lv iv tv m) p.init.length ⟨0, rfl, by omega, ((Ext.refl h).alloc _).alloc _, by simp, by simp, by rw [e0]; simp, rfl⟩ ?_
  rintro mm F hh ⟨j, rfl, hj, x, hn, g0, g1, rfl⟩
  unfold c288_6 c288_3 c288_4 c288_4b
  rw [eiv] at g0
  have vo : (vm0 (memK p j) (lclK p 0)).Ok := vm0_ok take4_len take4_len
  have lc := VM.c_len (lv := lv) (iv := iv) (tv := tv) (m := m) vo
  by_cases h1 : j < p.init.length
  · have Pi := P.init.ext x
    obtain ⟨b', o', sp', c', c0', g', ro', hv, f2, f3, f4, f5, f6⟩ := Pi.row intC_length h1
    have a0 := f6 0 (by omega)
    simp [intC] at a0
    have hj4 : j < 4 := by omega
    have hj4' : (j : Int) < 4 := by omega
    have sm := VM.set_mem (lv := lv) (iv := iv) (tv := tv) (m := m) (x := p.init[j]) vo hj4
    have hw : IntKind.i64.wrap ((j : Int) + 1) = ((j + 1 : Nat) : Int) := by rw [wrap64 (by omega)]; rfl
    rw [eiv] at hv
    simp only [Value.slice.injEq, true_and] at hv
    obtain ⟨rfl, rfl⟩ := hv
    have es : ({ vm0 (memK p j) (lclK p 0) with mem := (vm0 (memK p j) (lclK p 0)).mem.set j p.init[j] } : VM) = vm0 (memK p (j + 1)) (lclK p 0) := by
      show vm0 ((memK p j).set j p.init[j]) (lclK p 0) = _
      rw [memK_succ h1 hj4]
    rw [es] at sm
    generalize (vm0 (memK p j) (lclK p 0)).c lv iv tv m = c at g1 lc sm
    have l36 : 4 + j ≤ 36 := by omega
    have ss : splice c (4 + j) [.int .i64 p.init[j]] = (vm0 (memK p (j + 1)) (lclK p 0)).c lv iv tv m := by rw [splice_set (by omega), sm]
    simp -implicitDefEqProofs [g0, g1, h1, f3, a0, lc, hj4, hj4', l36, ss, c288_5, hw]
    exact ⟨p.init.length - (j + 1), by omega, j + 1, rfl, h1, x.put (by omega) _, by simp; omega, by simp [g0, eiv], by simp, by simp⟩
  · obtain rfl : j = p.init.length := by omega
    simp -implicitDefEqProofs [g0, h1]
    unfold c288_7
    simp -implicitDefEqProofs
    rw [← eiv] at g0
    refine W_loop (inv288b h p lv iv tv m) p.ths.length ⟨0, rfl, by omega, x, hn, g0, g1, rfl⟩ ?_
    clear g0 g1 x hn vo lc
    rintro mm F hh ⟨j, rfl, hj, x, hn, g0, g1, rfl⟩
    unfold c288_11 c288_8 c288_9 c288_9b
    rw [etv] at g0
    have vo : (vm0 (memK p p.init.length) (lclK p j)).Ok := vm0_ok take4_len take4_len
    have lc := VM.c_len (lv := lv) (iv := iv) (tv := tv) (m := m) vo
    by_cases h2 : j < p.ths.length
    · have hj4 : j < 4 := by omega
      have hj4' : (j : Int) < 4 := by omega
      have sm := VM.set_lcl (lv := lv) (iv := iv) (tv := tv) (m := m) (x := nrm p.ths[j] .zero) vo hj4
      have hw : IntKind.i64.wrap ((j : Int) + 1) = ((j + 1 : Nat) : Int) := by rw [wrap64 (by omega)]; rfl
      have es : ({ vm0 (memK p p.init.length) (lclK p j) with lcl := (vm0 (memK p p.init.length) (lclK p j)).lcl.set j (nrm p.ths[j] .zero) } : VM) = vm0 (memK p p.init.length) (lclK p (j + 1)) := by
        show vm0 (memK p p.init.length) ((lclK p j).set j (nrm p.ths[j] .zero)) = _
        rw [lclK_succ h2 hj4]
      rw [es] at sm
      generalize (vm0 (memK p p.init.length) (lclK p j)).c lv iv tv m = c at g1 lc sm
      have l36 : 12 + j * 5 ≤ 32 := by omega
      have l37 : 12 + j * 5 + 5 ≤ 37 := by omega
      have lz : ∀ l : Lcl, l.c.length = 5 := fun _ => rfl
      simp -implicitDefEqProofs [g0, g1, h2]
      rw [← etv] at g0 ⊢
      refine Start_spec g.toStepG (P.ext x) O h2 fun h3 x3 => ?_
      have n3 := x3.next
      have g30 := (x3.get _ (by omega)).trans g0
      have g31 := (x3.get _ (by omega)).trans g1
      simp -implicitDefEqProofs [g30, g31, h2, lc, hj4, hj4', l36, l37, lz, Lcl.v, sm, c288_10, hw]
      exact ⟨p.ths.length - (j + 1), by omega, j + 1, rfl, h2, (x.trans x3).put (by omega) _, by simp; omega, by simp [g30], by simp, by simp⟩
    · obtain rfl : j = p.ths.length := by omega
      simp -implicitDefEqProofs [g0, h2, c288_12]
      have em : memK p p.init.length = newMem p := by unfold memK newMem; rw [List.take_length]
      have el : lclK p p.ths.length = newLcl p := by unfold lclK newLcl; rw [List.take_length]
      rw [em, el] at g1
      refine k hh (h.next + 1) x (by omega) (by omega) ⟨g1, rfl, fun t h1 h2 h3 => ?_⟩
      match t, h1, h2, h3 with
      | 0, _, _, _ => exact ⟨rfl, .inl ⟨rfl, _, _, rfl⟩⟩
      | 1, _, _, _ => exact ⟨rfl, .inl ⟨rfl, _, _, rfl⟩⟩
      | 2, _, _, _ => exact ⟨rfl, .inl ⟨rfl, _, _, rfl⟩⟩
      | 3, _, _, _ => exact ⟨rfl, .inl ⟨rfl, _, _, rfl⟩⟩
end Go.Jq
namespace Go.Jq
def rdM (v : Mac) (t : Nat) (loc : Int) : Int × Int := (bufL v t).foldl (fun a e => if e.loc = loc then (e.value, e.id) else a) (v.mem[loc.toNat]?.getD 0, v.by'[loc.toNat]?.getD 0)
def readsI (i : Ins) : Bool := decide (i.kind = 2) || decide (i.kind = 4)
def pickM (p : Prg) (m : Int) (v : Mac) (i : Int) : Mac × Stp :=
  match flM m i with
  | some x =>
    let l := bufL v x.1.toNat
    let k := (oldM l x.2).getD 0
    let e := l[k]?.getD ⟨0, 0, 0⟩
    let s : Stp := ⟨i, x.1, 6, e.loc, 0, e.value, e.id⟩
    ({ v with mem := v.mem.set e.loc.toNat e.value, by' := v.by'.set e.loc.toNat e.id, bufs := v.bufs.set x.1.toNat (l.eraseIdx k), steps := v.steps ++ [s] }, s)
  | none =>
    let t := i.toNat
    let x := (nextO p t (lclL v t)).getD Ins.zero
    let r : Int × Int := if readsI x = true then rdM v t x.loc else (0, -1)
    let e := evtM x (lclL v t) r.1
    let s : Stp := ⟨i, i, e.kind, e.loc, e.r, e.w, r.2⟩
    let n : Int := v.steps.length
    let w := if e.kind = 4 ∨ (e.kind = 2 ∧ m = 1) then { v with mem := v.mem.set e.loc.toNat e.w, by' := v.by'.set e.loc.toNat n }
      else if e.kind = 2 then { v with bufs := v.bufs.set t (bufL v t ++ [⟨e.loc, e.w, n⟩]) } else v
    ({ w with lcl := v.lcl.set t (aftM ((p.ths[t]?).getD []) (lclL v t) r.1), steps := v.steps ++ [s] }, s)
theorem pickM_len {p : Prg} {m : Int} {v : Mac} {i : Int} : (pickM p m v i).1.steps = v.steps ++ [(pickM p m v i).2] := by
  unfold pickM
  split <;> rfl
end Go.Jq
namespace Go.Jq
theorem cloK_eq {n k : Nat} {r : Nat → Nat} : cloK n r k = fun i => if i < n ∧ (r i).testBit k = true then r i ||| r k else r i := by
  unfold cloK
  induction n with
  | zero => funext i; simp
  | succ m ih =>
    rw [foldl_range, ih]
    funext i
    unfold cloI updR
    have ek : (if k < m ∧ (r k).testBit k = true then r k ||| r k else r k) = r k := by
      split
      · exact Nat.or_self _
      · rfl
    have em : (if m < m ∧ (r m).testBit k = true then r m ||| r k else r m) = r m := if_neg (by omega)
    simp only [em, ek]
    by_cases hm : (r m).testBit k = true
    · rw [if_pos hm]
      by_cases e : i = m
      · subst e; simp [hm]
      · rw [if_neg e]
        by_cases hi : (r i).testBit k = true
        · by_cases h1 : i < m
          · rw [if_pos ⟨h1, hi⟩, if_pos ⟨by omega, hi⟩]
          · rw [if_neg (by omega), if_neg (by omega)]
        · rw [if_neg (by simp [hi]), if_neg (by simp [hi])]
    · rw [if_neg hm]
      by_cases e : i = m
      · subst e; simp [hm]
      · by_cases hi : (r i).testBit k = true
        · by_cases h1 : i < m
          · rw [if_pos ⟨h1, hi⟩, if_pos ⟨by omega, hi⟩]
          · rw [if_neg (by omega), if_neg (by omega)]
        · rw [if_neg (by simp [hi]), if_neg (by simp [hi])]
theorem cloK_has {n k i j : Nat} {r : Nat → Nat} : (cloK n r k i).testBit j = true ↔ ((r i).testBit j = true ∨ (i < n ∧ (r i).testBit k = true ∧ (r k).testBit j = true)) := by
  rw [cloK_eq]
  simp only []
  split
  · rename_i h
    rw [Nat.testBit_or, Bool.or_eq_true]
    exact ⟨fun q => q.elim .inl fun q => .inr ⟨h.1, h.2, q⟩, fun q => q.elim .inl fun q => .inr q.2.2⟩
  · rename_i h
    exact ⟨.inl, fun q => q.elim id fun q => absurd ⟨q.1, q.2.1⟩ h⟩
def Clsd (n K : Nat) (r : Nat → Nat) : Prop := ∀ c, c < K → ∀ i, i < n → ∀ j, (r i).testBit c = true → (r c).testBit j = true → (r i).testBit j = true
theorem Clsd.step {n K : Nat} {r : Nat → Nat} (hK : K < n) (h : Clsd n K r) : Clsd n (K + 1) (cloK n r K) := by
  intro c hc i hi j h1 h2
  rw [cloK_has] at h1 h2 ⊢
  by_cases e : c = K
  · subst e
    have a1 : (r i).testBit c = true := h1.elim id fun q => q.2.1
    have a2 : (r c).testBit j = true := h2.elim id fun q => q.2.2
    exact .inr ⟨hi, a1, a2⟩
  · have hc' : c < K := by omega
    rcases h1 with h1 | ⟨_, b1, b2⟩
    · rcases h2 with h2 | ⟨_, c1, c2⟩
      · exact .inl (h c hc' i hi j h1 h2)
      · exact .inr ⟨hi, h c hc' i hi K h1 c1, c2⟩
    · rcases h2 with h2 | ⟨_, c1, c2⟩
      · exact .inr ⟨hi, b1, h c hc' K hK j b2 h2⟩
      · exact .inr ⟨hi, b1, c2⟩
theorem clo_part {n : Nat} {r : Nat → Nat} : ∀ K, K ≤ n → Clsd n K ((List.range K).foldl (cloK n) r)
  | 0, _ => fun c hc => by omega
  | K + 1, h => by
    rw [foldl_range]
    exact (clo_part K (by omega)).step (by omega)
theorem clo_closed {n : Nat} {r : Nat → Nat} : Clsd n n (clo n r) := clo_part n (Nat.le_refl n)
theorem cloK_same {n k : Nat} {r : Nat → Nat} (h : Clsd n n r) (hk : k < n) : cloK n r k = r := by
  rw [cloK_eq]
  funext i
  split
  · rename_i q
    refine Nat.eq_of_testBit_eq fun j => ?_
    rw [Nat.testBit_or]
    cases e : (r k).testBit j with
    | false => simp
    | true => simp [h k hk i q.1 j q.2 e]
  · rfl
theorem clo_same {n : Nat} {r : Nat → Nat} (h : Clsd n n r) : clo n r = r := by
  unfold clo
  have : ∀ K, K ≤ n → (List.range K).foldl (cloK n) r = r := by
    intro K
    induction K with
    | zero => intro _; rfl
    | succ K ih => intro hK; rw [foldl_range, ih (by omega), cloK_same h (by omega)]
  exact this n (Nat.le_refl n)
theorem clo_clo {n : Nat} {r : Nat → Nat} : clo n (clo n r) = clo n r := clo_same clo_closed
def Fwd (r : Nat → Nat) : Prop := ∀ i j, (r i).testBit j = true → i < j
theorem Fwd.cloK {n k : Nat} {r : Nat → Nat} (h : Fwd r) : Fwd (cloK n r k) := by
  intro i j q
  rw [cloK_has] at q
  rcases q with q | ⟨_, a, b⟩
  · exact h i j q
  · exact Nat.lt_trans (h i k a) (h k j b)
theorem foldl_keep {α : Type} {P : (Nat → Nat) → Prop} {f : (Nat → Nat) → α → (Nat → Nat)} (hf : ∀ r a, P r → P (f r a)) : ∀ {l : List α} {r : Nat → Nat}, P r → P (l.foldl f r)
  | [], _, h => h
  | a :: l, _, h => foldl_keep hf (l := l) (hf _ a h)
theorem Fwd.clo {n : Nat} {r : Nat → Nat} (h : Fwd r) : Fwd (clo n r) := foldl_keep (P := Fwd) (fun _ _ h => h.cloK) h
theorem clo_more {n i j : Nat} {r : Nat → Nat} (h : (r i).testBit j = true) : (clo n r i).testBit j = true :=
  foldl_keep (P := fun r => (r i).testBit j = true) (fun _ _ h => by rw [cloK_has]; exact .inl h) h
end Go.Jq
namespace Go.Jq
theorem addR_in {n : Nat} {r : Nat → Nat} {a b : Int} {i j : Nat} (h : (addR n r a b i).testBit j = true) : (r i).testBit j = true ∨ ((0 ≤ a ∧ 0 ≤ b) ∧ i = a.toNat ∧ j = b.toNat) := by
  unfold addR at h
  split at h
  · rename_i hb
    unfold inB at hb
    simp at hb
    unfold updR at h
    split at h
    · rename_i e
      subst e
      rw [withN_bit] at h
      simp at h
      rcases h with h | h
      · exact .inl h
      · exact .inr ⟨⟨hb.1.1, hb.2.1⟩, rfl, by omega⟩
    · exact .inl h
  · exact .inl h
theorem addR_more {n : Nat} {r : Nat → Nat} {a b : Int} {i j : Nat} (h : (r i).testBit j = true) : (addR n r a b i).testBit j = true := by
  unfold addR
  split
  · unfold updR
    split
    · rename_i e; subst e
      rw [withN_bit, h]; rfl
    · exact h
  · exact h
theorem foldl_keepM {α : Type} {P : (Nat → Nat) → Prop} {f : (Nat → Nat) → α → (Nat → Nat)} : ∀ {l : List α} {r : Nat → Nat}, (∀ r a, a ∈ l → P r → P (f r a)) → P r → P (l.foldl f r)
  | [], _, _, h => h
  | a :: l, _, hf, h => foldl_keepM (l := l) (fun r b hb hp => hf r b (List.mem_cons_of_mem _ hb) hp) (hf _ a List.mem_cons_self h)
theorem foldl_adds {α : Type} {f : (Nat → Nat) → α → (Nat → Nat)} {x y : Nat} (hm : ∀ r a, (r x).testBit y = true → (f r a x).testBit y = true) {a : α} (ha : ∀ r, (f r a x).testBit y = true) : ∀ {l : List α} {r : Nat → Nat}, a ∈ l → (l.foldl f r x).testBit y = true
  | [], _, h => by simp at h
  | b :: l, r, h => by
    rcases List.mem_cons.1 h with e | h
    · subst e
      show (l.foldl f (f r a) x).testBit y = true
      exact foldl_keepM (P := fun r => (r x).testBit y = true) (fun r c _ hp => hm r c hp) (ha r)
    · show (l.foldl f (f r b) x).testBit y = true
      exact foldl_adds hm ha (l := l) h
theorem Fwd.addR {n : Nat} {r : Nat → Nat} {a b : Int} (h : Fwd r) (hab : 0 ≤ a → a < b) : Fwd (addR n r a b) := by
  intro i j q
  rcases addR_in q with q | ⟨⟨h1, h2⟩, rfl, rfl⟩
  · exact h i j q
  · have := hab h1; omega
structure RdOk (m : Int) (l : List Stp) (i : Nat) : Prop where
  src : 0 ≤ (atS l i).from' → (atS l i).from' < l.length → (atS l (atS l i).from'.toNat).t ≠ (atS l i).t → cameI l m (atS l i).from'.toNat < i
  later : 0 ≤ (atS l i).from' → (atS l i).from' < l.length → ∀ k : Nat, 0 ≤ cameI l m (atS l i).from'.toNat → cameI l m (atS l i).from'.toNat < k → k < l.length → k ≠ i → (atS l k).writes m = true → (atS l k).loc = (atS l i).loc → i < k
  none' : ¬ (0 ≤ (atS l i).from' ∧ (atS l i).from' < l.length) → ∀ k : Nat, k < l.length → k ≠ i → (atS l k).writes m = true → (atS l k).loc = (atS l i).loc → i < k
theorem rdLoop_fwd {n : Nat} {m : Int} {l : List Stp} {i a : Nat} {r : Nat → Nat} (h : Fwd r) (hk : ∀ k : Nat, a ≤ k → k < l.length → k ≠ i → (atS l k).writes m = true → (atS l k).loc = (atS l i).loc → i < k) : Fwd (rdLoop n m l i r a) := by
  unfold rdLoop
  refine foldl_keepM (P := Fwd) (fun r k hm h => ?_) h
  rw [List.mem_range'_1] at hm
  unfold rdI
  split
  · rename_i q
    exact h.addR fun _ => by have := hk k hm.1 (by omega) q.1 q.2.1 q.2.2; omega
  · exact h
theorem readR_fwd {n : Nat} {m : Int} {l : List Stp} {i : Nat} {r : Nat → Nat} (h : Fwd r) (o : RdOk m l i) : Fwd (readR n m l r i) := by
  unfold readR
  split
  · rename_i q
    split
    · exact h
    · rename_i hc
      refine rdLoop_fwd ?_ fun k h1 h2 h3 h4 h5 => o.later q.1 q.2 k (by omega) (by omega) h2 h3 h4 h5
      split
      · rename_i ht
        exact h.addR fun _ => o.src q.1 q.2 ht
      · exact h
  · rename_i q
    exact rdLoop_fwd h fun k _ h2 h3 h4 h5 => o.none' q k h2 h3 h4 h5
theorem hbLoop_fwd {n : Nat} {m : Int} {l : List Stp} {i : Nat} {r : Nat → Nat} (h : Fwd r) : Fwd (hbLoop n m l i r (i + 1)) := by
  unfold hbLoop
  refine foldl_keepM (P := Fwd) (fun r k hm h => ?_) h
  rw [List.mem_range'_1] at hm
  unfold hbI
  split
  · exact h.addR fun _ => by omega
  · exact h
theorem hbPre_fwd {m : Int} {l : List Stp} (o : ∀ i, i < l.length → (atS l i).reads = true → RdOk m l i) : Fwd (hbPre m l) := by
  unfold hbPre
  refine foldl_keepM (P := Fwd) (fun r i hm h => ?_) (fun i j q => by simp at q)
  rw [List.mem_range] at hm
  unfold hbRow
  split
  · rename_i q
    exact readR_fwd (hbLoop_fwd h) (o i hm q)
  · exact hbLoop_fwd h
theorem rdLoop_more {n : Nat} {m : Int} {l : List Stp} {i a x y : Nat} {r : Nat → Nat} (h : (r x).testBit y = true) : (rdLoop n m l i r a x).testBit y = true := by
  unfold rdLoop
  refine foldl_keepM (P := fun r => (r x).testBit y = true) (fun r k _ h => ?_) h
  unfold rdI
  split
  · exact addR_more h
  · exact h
theorem readR_more {n : Nat} {m : Int} {l : List Stp} {i x y : Nat} {r : Nat → Nat} (h : (r x).testBit y = true) : (readR n m l r i x).testBit y = true := by
  unfold readR
  split
  · split
    · exact h
    · refine rdLoop_more ?_
      split
      · exact addR_more h
      · exact h
  · exact rdLoop_more h
theorem hbLoop_more {n : Nat} {m : Int} {l : List Stp} {i a x y : Nat} {r : Nat → Nat} (h : (r x).testBit y = true) : (hbLoop n m l i r a x).testBit y = true := by
  unfold hbLoop
  refine foldl_keepM (P := fun r => (r x).testBit y = true) (fun r k _ h => ?_) h
  unfold hbI
  split
  · exact addR_more h
  · exact h
theorem hbRow_more {n : Nat} {m : Int} {l : List Stp} {i x y : Nat} {r : Nat → Nat} (h : (r x).testBit y = true) : (hbRow n m l r i x).testBit y = true := by
  unfold hbRow
  split
  · exact readR_more (hbLoop_more h)
  · exact hbLoop_more h
theorem hbPre_has {m : Int} {l : List Stp} {i k : Nat} (hn : l.length ≤ 64) (hik : i < k) (hk : k < l.length) (hb : hbB m (atS l i) (atS l k) i = true) : (hbPre m l i).testBit k = true := by
  unfold hbPre
  refine foldl_adds (fun r a h => hbRow_more h) (a := i) (fun r => ?_) (List.mem_range.2 (by omega))
  have key : (hbLoop l.length m l i r (i + 1) i).testBit k = true := by
    unfold hbLoop
    refine foldl_adds (fun r a h => ?_) (a := k) (fun r => ?_) (List.mem_range'_1.2 ⟨by omega, by omega⟩)
    · unfold hbI
      split
      · exact addR_more h
      · exact h
    · unfold hbI
      rw [if_pos hb, addR_bit (by omega) hk hn]
      simp
  unfold hbRow
  split
  · exact readR_more key
  · exact key
end Go.Jq
namespace Go.Jq
theorem idxI_ge {l : List Stp} {j : Int} : -1 ≤ idxI l j ∧ idxI l j < l.length ∨ l = [] ∧ idxI l j = -1 := by
  unfold idxI
  split
  · rename_i i e
    rw [List.findIdx?_eq_some_iff_getElem] at e
    have := e.1
    exact .inl ⟨by omega, by omega⟩
  · cases l with
    | nil => exact .inr ⟨rfl, rfl⟩
    | cons a l => exact .inl ⟨by omega, by simp; omega⟩
theorem idxI_app {l : List Stp} {s : Stp} {j : Int} : idxI (l ++ [s]) j = if 0 ≤ idxI l j then idxI l j else if s.flushOf j = true then (l.length : Int) else -1 := by
  unfold idxI
  rw [List.findIdx?_append]
  cases e : l.findIdx? (·.flushOf j) with
  | some i => simp
  | none =>
    cases f : s.flushOf j <;> simp [List.findIdx?_cons, f]
theorem atS_app {l : List Stp} {s : Stp} {k : Nat} (hk : k < l.length) : atS (l ++ [s]) k = atS l k := by
  unfold atS
  rw [List.getElem?_append_left hk]
theorem atS_last {l : List Stp} {s : Stp} : atS (l ++ [s]) l.length = s := by
  unfold atS
  rw [List.getElem?_append_right (Nat.le_refl _)]
  simp
theorem cameI_app {l : List Stp} {s : Stp} {m : Int} {j : Nat} (hj : j < l.length) : cameI (l ++ [s]) m j = if 0 ≤ cameI l m j then cameI l m j else if s.flushOf j = true then (l.length : Int) else -1 := by
  unfold cameI
  rw [List.getElem?_append_left hj]
  split
  · rw [if_pos (by omega)]
  · exact idxI_app
theorem cameI_last {l : List Stp} {s : Stp} {m : Int} (h : s.writes m = true) : cameI (l ++ [s]) m l.length = l.length := by
  unfold cameI
  rw [List.getElem?_append_right (Nat.le_refl _)]
  simp [h]
structure RdOk' (m : Int) (l : List Stp) (i : Nat) : Prop extends RdOk m l i where
  lt : (atS l i).from' < i
  src' : 0 ≤ (atS l i).from' → (atS l (atS l i).from'.toNat).t ≠ (atS l i).t → 0 ≤ cameI l m (atS l i).from'.toNat
theorem RdOk'.app {m : Int} {l : List Stp} {i : Nat} {s : Stp} (hi : i < l.length) (o : RdOk' m l i) : RdOk' m (l ++ [s]) i := by
  have ei := atS_app (s := s) hi
  have hl : (l ++ [s]).length = l.length + 1 := by simp
  have lt := o.lt
  refine ⟨⟨?_, ?_, ?_⟩, by rw [ei]; exact lt, ?_⟩
  · intro h1 h2 h3
    rw [ei] at h1 h2 h3 ⊢
    have hf : (atS l i).from'.toNat < l.length := by omega
    rw [atS_app hf] at h3
    rw [cameI_app hf, if_pos (o.src' h1 h3)]
    exact o.src h1 (by omega) h3
  · intro h1 h2 k h3 h4 h5 h6 h7 h8
    rw [ei] at h1 h2 h3 h4 h8
    have hf : (atS l i).from'.toNat < l.length := by omega
    rw [cameI_app hf] at h3 h4
    by_cases e : k = l.length
    · omega
    · have hk : k < l.length := by omega
      rw [atS_app hk] at h7 h8
      split at h4
      · rename_i q
        exact o.later h1 (by omega) k q h4 hk h6 h7 h8
      · split at h4
        · omega
        · rename_i q1 q2
          rw [if_neg q1, if_neg q2] at h3
          omega
  · intro h1 k h2 h3 h4 h5
    rw [ei] at h1 h5
    by_cases e : k = l.length
    · omega
    · have hk : k < l.length := by omega
      rw [atS_app hk] at h4 h5
      exact o.none' (by omega) k hk h3 h4 h5
  · intro h1 h2
    rw [ei] at h1 h2 ⊢
    have hf : (atS l i).from'.toNat < l.length := by omega
    rw [atS_app hf] at h2
    have := o.src' h1 h2
    rw [cameI_app hf, if_pos this]; exact this
end Go.Jq
namespace Go.Jq
def byL (v : Mac) (c : Nat) : Int := v.by'[c]?.getD 0
def lastW (m : Int) (l : List Stp) (c : Int) (a : Int) : Prop := ∀ k : Nat, k < l.length → a < k → (atS l k).writes m = true → (atS l k).loc ≠ c
structure MInv (m : Int) (v : Mac) : Prop where
  by' : ∀ c : Nat, c < 4 → (byL v c = -1 ∧ lastW m v.steps c (-1)) ∨ (0 ≤ byL v c ∧ byL v c < v.steps.length ∧ 0 ≤ cameI v.steps m (byL v c).toNat ∧ lastW m v.steps c (cameI v.steps m (byL v c).toNat))
  buf : ∀ t : Nat, t < 4 → ∀ e ∈ bufL v t, (0 ≤ e.id ∧ e.id < v.steps.length) ∧ (atS v.steps e.id.toNat).t = t ∧ (atS v.steps e.id.toNat).kind = 2 ∧ m ≠ 1 ∧ idxI v.steps e.id = -1 ∧ 0 ≤ e.loc ∧ e.loc < 4
  ids : ∀ t : Nat, t < 4 → (bufL v t).Pairwise fun a b => a.id ≠ b.id
  rd : ∀ i, i < v.steps.length → (atS v.steps i).reads = true → RdOk' m v.steps i
theorem lastW.app {m : Int} {l : List Stp} {c a : Int} {s : Stp} (h : lastW m l c a) (hs : s.writes m = true → s.loc ≠ c) : lastW m (l ++ [s]) c a := by
  intro k hk ha hw
  rw [List.length_append] at hk
  simp at hk
  by_cases e : k = l.length
  · subst e
    rw [atS_last] at hw ⊢
    exact hs hw
  · rw [atS_app (by omega)] at hw ⊢
    exact h k (by omega) ha hw
theorem by_app {m : Int} {l : List Stp} {s : Stp} {c b : Int} (h : (b = -1 ∧ lastW m l c (-1)) ∨ (0 ≤ b ∧ b < l.length ∧ 0 ≤ cameI l m b.toNat ∧ lastW m l c (cameI l m b.toNat))) (hs : s.writes m = true → s.loc ≠ c) :
    (b = -1 ∧ lastW m (l ++ [s]) c (-1)) ∨ (0 ≤ b ∧ b < (l ++ [s]).length ∧ 0 ≤ cameI (l ++ [s]) m b.toNat ∧ lastW m (l ++ [s]) c (cameI (l ++ [s]) m b.toNat)) := by
  rcases h with ⟨h1, h2⟩ | ⟨h1, h2, h3, h4⟩
  · exact .inl ⟨h1, h2.app hs⟩
  · have e : cameI (l ++ [s]) m b.toNat = cameI l m b.toNat := by rw [cameI_app (by omega), if_pos h3]
    refine .inr ⟨h1, by rw [List.length_append]; simp; omega, by rw [e]; exact h3, ?_⟩
    rw [e]; exact h4.app hs
theorem by_new {m : Int} {l : List Stp} {s : Stp} {c : Int} {b : Nat} (hb : b < l.length + 1) (hc : cameI (l ++ [s]) m b = l.length) :
    ((b : Int) = -1 ∧ lastW m (l ++ [s]) c (-1)) ∨ (0 ≤ (b : Int) ∧ (b : Int) < (l ++ [s]).length ∧ 0 ≤ cameI (l ++ [s]) m (b : Int).toNat ∧ lastW m (l ++ [s]) c (cameI (l ++ [s]) m (b : Int).toNat)) := by
  refine .inr ⟨by omega, by rw [List.length_append]; simp; omega, by rw [Int.toNat_natCast, hc]; omega, ?_⟩
  rw [Int.toNat_natCast, hc]
  intro k hk ha
  rw [List.length_append] at hk
  simp at hk
  omega
theorem bufL_set {v : Mac} {t t' : Nat} {l : List Ent} {mem by' : List Int} {lcl : List Lcl} {steps : List Stp} (ht : t < v.bufs.length) : bufL ⟨mem, by', lcl, v.bufs.set t l, steps⟩ t' = if t' = t then l else bufL v t' := by
  unfold bufL
  simp only [List.getElem?_set]
  by_cases e : t = t'
  · subst e; simp [ht]
  · rw [if_neg e, if_neg (fun q => e q.symm)]
theorem byL_set {v : Mac} {c c' : Nat} {x : Int} {mem : List Int} {lcl : List Lcl} {bufs : List (List Ent)} {steps : List Stp} (hc : c < v.by'.length) : byL ⟨mem, v.by'.set c x, lcl, bufs, steps⟩ c' = if c' = c then x else byL v c' := by
  unfold byL
  simp only [List.getElem?_set]
  by_cases e : c = c'
  · subst e; simp [hc]
  · rw [if_neg e, if_neg (fun q => e q.symm)]
end Go.Jq
namespace Go.Jq
theorem atS_get {l : List Stp} {k : Nat} : l[k]?.getD default = atS l k := rfl
theorem pair_ne {l : List Ent} (h : l.Pairwise fun a b => a.id ≠ b.id) {i j : Nat} (hi : i < l.length) (hj : j < l.length) (hij : i ≠ j) : l[i].id ≠ l[j].id := by
  rw [List.pairwise_iff_getElem] at h
  rcases Nat.lt_or_gt_of_ne hij with q | q
  · exact h i j hi hj q
  · exact fun e => h j i hj hi q e.symm
theorem MInv.flush {m : Int} {v : Mac} (I : MInv m v) (o : v.Ok) {t k : Nat} (ht : t < 4) (hk : k < (bufL v t).length) {i : Int} {mem : List Int} {lcl : List Lcl} :
    MInv m ⟨mem, v.by'.set (bufL v t)[k].loc.toNat (bufL v t)[k].id, lcl, v.bufs.set t ((bufL v t).eraseIdx k), v.steps ++ [⟨i, t, 6, (bufL v t)[k].loc, 0, (bufL v t)[k].value, (bufL v t)[k].id⟩]⟩ := by
  have B := I.buf t ht _ (List.getElem_mem hk)
  have ids := I.ids t ht
  have pn : ∀ j (hj : j < (bufL v t).length), j ≠ k → (bufL v t)[j].id ≠ (bufL v t)[k].id := fun j hj e => pair_ne ids hj hk e
  generalize he : (bufL v t)[k] = e at B pn
  obtain ⟨⟨b1, b2⟩, b3, b4, b5, b6, b7, b8⟩ := B
  generalize hs : (⟨i, t, 6, e.loc, 0, e.value, e.id⟩ : Stp) = s
  have hw : s.writes m = true := by subst hs; simp [Stp.writes]
  have hf : ∀ j, s.flushOf j = decide (e.id = j) := fun j => by subst hs; simp [Stp.flushOf]
  have hr : s.reads = false := by subst hs; simp [Stp.reads]
  have hl : s.loc = e.loc := by subst hs; rfl
  have hbl : t < v.bufs.length := by rw [o.bufs]; exact ht
  have came : cameI (v.steps ++ [s]) m e.id.toNat = v.steps.length := by
    rw [cameI_app (by omega)]
    have : cameI v.steps m e.id.toNat = -1 := by
      unfold cameI
      rw [atS_get, show (atS v.steps e.id.toNat).writes m = false by simp [Stp.writes, b4, b5]]
      rw [show ((e.id.toNat : Nat) : Int) = e.id by omega]
      simpa using b6
    rw [this, if_neg (by omega), if_pos (by rw [hf]; simp; omega)]
  refine ⟨fun c hc => ?_, fun t' ht' e' he' => ?_, fun t' ht' => ?_, fun j hj hrd => ?_⟩
  · rw [byL_set (by rw [o.by']; omega)]
    by_cases ec : c = e.loc.toNat
    · rw [if_pos ec]
      have := by_new (m := m) (l := v.steps) (s := s) (c := (c : Int)) (b := e.id.toNat) (by omega) came
      rw [show ((e.id.toNat : Nat) : Int) = e.id by omega] at this
      exact this
    · rw [if_neg ec]
      exact by_app (I.by' c hc) fun _ => by rw [hl]; omega
  · rw [bufL_set hbl] at he'
    have key : e' ∈ bufL v t' ∧ e'.id ≠ e.id := by
      by_cases et : t' = t
      · rw [if_pos et] at he'
        subst et
        rw [List.mem_eraseIdx_iff_getElem] at he'
        obtain ⟨j, hj, q1, q2⟩ := he'
        subst q2
        exact ⟨List.getElem_mem hj, pn j hj q1⟩
      · rw [if_neg et] at he'
        refine ⟨he', fun q => ?_⟩
        have := (I.buf t' ht' e' he').2.1
        rw [q, b3] at this
        omega
    obtain ⟨⟨d1, d2⟩, d3, d4, d5, d6, d7, d8⟩ := I.buf t' ht' e' key.1
    have ea : atS (v.steps ++ [s]) e'.id.toNat = atS v.steps e'.id.toNat := atS_app (by omega)
    refine ⟨⟨d1, by simp; omega⟩, ?_, ?_, d5, ?_, d7, d8⟩
    · show (atS (v.steps ++ [s]) e'.id.toNat).t = t'
      rw [ea]; exact d3
    · show (atS (v.steps ++ [s]) e'.id.toNat).kind = 2
      rw [ea]; exact d4
    · show idxI (v.steps ++ [s]) e'.id = -1
      rw [idxI_app, d6, if_neg (by omega), if_neg (by rw [hf]; simp; exact fun q => key.2 q.symm)]
  · rw [bufL_set hbl]
    split
    · exact ids.sublist (List.eraseIdx_sublist _ _)
    · exact I.ids t' ht'
  · rw [show (⟨mem, v.by'.set e.loc.toNat e.id, lcl, v.bufs.set t ((bufL v t).eraseIdx k), v.steps ++ [s]⟩ : Mac).steps = v.steps ++ [s] from rfl] at hj hrd ⊢
    rw [List.length_append] at hj
    simp at hj
    by_cases ej : j = v.steps.length
    · subst ej
      rw [atS_last, hr] at hrd
      simp at hrd
    · have hj' : j < v.steps.length := by omega
      rw [atS_app hj'] at hrd
      exact (I.rd j hj' hrd).app hj'
end Go.Jq
namespace Go.Jq
theorem rdM_cases {v : Mac} {t : Nat} {loc : Int} : rdM v t loc = (v.mem[loc.toNat]?.getD 0, byL v loc.toNat) ∨ ∃ e ∈ bufL v t, e.loc = loc ∧ rdM v t loc = (e.value, e.id) := by
  have key : ∀ (l : List Ent) (a : Int × Int), l.foldl (fun a e => if e.loc = loc then (e.value, e.id) else a) a = a ∨ ∃ e ∈ l, e.loc = loc ∧ l.foldl (fun a e => if e.loc = loc then (e.value, e.id) else a) a = (e.value, e.id) := by
    intro l
    induction l with
    | nil => intro a; exact .inl rfl
    | cons x l ih =>
      intro a
      rw [List.foldl_cons]
      by_cases q : x.loc = loc
      · rw [if_pos q]
        rcases ih (x.value, x.id) with h | ⟨e, h1, h2, h3⟩
        · exact .inr ⟨x, List.mem_cons_self, q, h⟩
        · exact .inr ⟨e, List.mem_cons_of_mem _ h1, h2, h3⟩
      · rw [if_neg q]
        rcases ih a with h | ⟨e, h1, h2, h3⟩
        · exact .inl h
        · exact .inr ⟨e, List.mem_cons_of_mem _ h1, h2, h3⟩
  exact key _ _
theorem MInv.reads {m : Int} {v : Mac} (I : MInv m v) {t : Nat} (ht : t < 4) {s : Stp} (hl : 0 ≤ s.loc ∧ s.loc < 4) (hst : s.t = t) (hk : s.kind ≠ 6) (hf : s.from' = (rdM v t s.loc).2) : RdOk' m (v.steps ++ [s]) v.steps.length := by
  have nf : ∀ j, s.flushOf j = false := fun j => by simp [Stp.flushOf, hk]
  have hlen : (v.steps ++ [s]).length = v.steps.length + 1 := by simp
  rcases rdM_cases (v := v) (t := t) (loc := s.loc) with h | ⟨e, he, h1, h2⟩
  · rw [h] at hf
    simp only [] at hf
    rcases I.by' s.loc.toNat (by omega) with ⟨a1, a2⟩ | ⟨a1, a2, a3, a4⟩
    · rw [a1] at hf
      rw [show ((s.loc.toNat : Nat) : Int) = s.loc by omega] at a2
      refine ⟨⟨fun q => ?_, fun q => ?_, fun _ k h1 h2 h3 h4 => ?_⟩, ?_, fun q => ?_⟩
      · rw [atS_last, hf] at q; omega
      · rw [atS_last, hf] at q; omega
      · rw [atS_app (by omega)] at h3
        rw [atS_app (by omega), atS_last] at h4
        exact absurd h4 (a2 k (by omega) (by omega) h3)
      · rw [atS_last, hf]; omega
      · rw [atS_last, hf] at q; omega
    · rw [show ((s.loc.toNat : Nat) : Int) = s.loc by omega] at a4
      generalize byL v s.loc.toNat = b at hf a1 a2 a3 a4
      have ce : cameI (v.steps ++ [s]) m b.toNat = cameI v.steps m b.toNat := by rw [cameI_app (by omega), if_pos a3]
      have cl := cameI_lt (l := v.steps) (m := m) (j := b.toNat) (by omega)
      refine ⟨⟨fun q1 q2 q3 => ?_, fun q1 q2 k h1 h2 h3 h4 h5 h6 => ?_, fun q => ?_⟩, ?_, fun q1 q2 => ?_⟩
      · rw [atS_last, hf, ce]; exact cl.2
      · rw [atS_last, hf, ce] at h2
        rw [atS_app (by omega)] at h5
        rw [atS_app (by omega), atS_last] at h6
        exact absurd h6 (a4 k (by omega) h2 h5)
      · rw [atS_last, hf, hlen] at q; omega
      · rw [atS_last, hf]; omega
      · rw [atS_last, hf, ce]; exact a3
  · rw [h2] at hf
    simp only [] at hf
    obtain ⟨⟨b1, b2⟩, b3, b4, b5, b6, b7, b8⟩ := I.buf t ht e he
    have ce : cameI (v.steps ++ [s]) m e.id.toNat = -1 := by
      have : cameI v.steps m e.id.toNat = -1 := by
        unfold cameI
        rw [atS_get, show (atS v.steps e.id.toNat).writes m = false by simp [Stp.writes, b4, b5]]
        rw [show ((e.id.toNat : Nat) : Int) = e.id by omega]
        simpa using b6
      rw [cameI_app (by omega), this, if_neg (by omega), nf]; rfl
    have same : ¬ (atS (v.steps ++ [s]) e.id.toNat).t ≠ s.t := by
      rw [atS_app (by omega), b3, hst]; simp
    refine ⟨⟨fun q1 q2 q3 => ?_, fun q1 q2 k h1 h2 h3 h4 h5 h6 => ?_, fun q => ?_⟩, ?_, fun q1 q2 => ?_⟩
    · rw [atS_last, hf] at q3; exact absurd q3 same
    · rw [atS_last, hf, ce] at h1; omega
    · rw [atS_last, hf, hlen] at q; omega
    · rw [atS_last, hf]; omega
    · rw [atS_last, hf] at q2; exact absurd q2 same
theorem MInv.step {m : Int} {v : Mac} (I : MInv m v) (o : v.Ok) {s : Stp} (hl : 0 ≤ s.loc ∧ s.loc < 4) (hk : s.kind ≠ 6) (hr : s.reads = true → RdOk' m (v.steps ++ [s]) v.steps.length) {by2 : List Int} {mem : List Int} {lcl : List Lcl}
    (hb : by2 = if s.writes m = true then v.by'.set s.loc.toNat v.steps.length else v.by') : MInv m ⟨mem, by2, lcl, v.bufs, v.steps ++ [s]⟩ := by
  have nf : ∀ j, s.flushOf j = false := fun j => by simp [Stp.flushOf, hk]
  refine ⟨fun c hc => ?_, fun t' ht' e' he' => ?_, fun t' ht' => ?_, fun j hj hrd => ?_⟩
  · by_cases hw : s.writes m = true
    · rw [if_pos hw] at hb
      subst hb
      rw [byL_set (by rw [o.by']; omega)]
      by_cases ec : c = s.loc.toNat
      · rw [if_pos ec]
        exact by_new (m := m) (l := v.steps) (s := s) (c := (c : Int)) (b := v.steps.length) (by omega) (cameI_last hw)
      · rw [if_neg ec]
        exact by_app (I.by' c hc) fun _ => by omega
    · rw [if_neg hw] at hb
      subst hb
      exact by_app (I.by' c hc) fun q => absurd q hw
  · obtain ⟨⟨d1, d2⟩, d3, d4, d5, d6, d7, d8⟩ := I.buf t' ht' e' he'
    have ea : atS (v.steps ++ [s]) e'.id.toNat = atS v.steps e'.id.toNat := atS_app (by omega)
    refine ⟨⟨d1, by simp; omega⟩, ?_, ?_, d5, ?_, d7, d8⟩
    · show (atS (v.steps ++ [s]) e'.id.toNat).t = t'
      rw [ea]; exact d3
    · show (atS (v.steps ++ [s]) e'.id.toNat).kind = 2
      rw [ea]; exact d4
    · show idxI (v.steps ++ [s]) e'.id = -1
      rw [idxI_app, d6, if_neg (by omega), nf]; rfl
  · exact I.ids t' ht'
  · have hj' : j < v.steps.length + 1 := by simpa using hj
    show RdOk' m (v.steps ++ [s]) j
    have hrd' : (atS (v.steps ++ [s]) j).reads = true := hrd
    by_cases ej : j = v.steps.length
    · subst ej
      rw [atS_last] at hrd'
      exact hr hrd'
    · rw [atS_app (by omega)] at hrd'
      exact (I.rd j (by omega) hrd').app (by omega)
end Go.Jq
namespace Go.Jq
theorem MInv.wait {m : Int} {v : Mac} (I : MInv m v) (o : v.Ok) {t : Nat} (ht : t < 4) (hm : m ≠ 1) (fl : ∀ j (hj : j < v.steps.length), v.steps[j].kind = 6 → v.steps[j].from' < v.steps.length) {s : Stp} (hl : 0 ≤ s.loc ∧ s.loc < 4) (hk : s.kind = 2) (hst : s.t = t) {x : Int} {mem : List Int} {lcl : List Lcl} :
    MInv m ⟨mem, v.by', lcl, v.bufs.set t (bufL v t ++ [⟨s.loc, x, v.steps.length⟩]), v.steps ++ [s]⟩ := by
  have nf : ∀ j, s.flushOf j = false := fun j => by simp [Stp.flushOf, hk]
  have hw : s.writes m = false := by simp [Stp.writes, hk, hm]
  have hr : s.reads = false := by simp [Stp.reads, hk]
  have hbl : t < v.bufs.length := by rw [o.bufs]; exact ht
  refine ⟨fun c hc => ?_, fun t' ht' e' he' => ?_, fun t' ht' => ?_, fun j hj hrd => ?_⟩
  · exact by_app (I.by' c hc) fun q => by rw [hw] at q; simp at q
  · rw [bufL_set hbl] at he'
    have old : ∀ e' ∈ bufL v t', (0 ≤ e'.id ∧ e'.id < (v.steps ++ [s]).length) ∧ (atS (v.steps ++ [s]) e'.id.toNat).t = t' ∧ (atS (v.steps ++ [s]) e'.id.toNat).kind = 2 ∧ m ≠ 1 ∧ idxI (v.steps ++ [s]) e'.id = -1 ∧ 0 ≤ e'.loc ∧ e'.loc < 4 := by
      intro e' he'
      obtain ⟨⟨d1, d2⟩, d3, d4, d5, d6, d7, d8⟩ := I.buf t' ht' e' he'
      have ea : atS (v.steps ++ [s]) e'.id.toNat = atS v.steps e'.id.toNat := atS_app (by omega)
      exact ⟨⟨d1, by simp; omega⟩, by rw [ea]; exact d3, by rw [ea]; exact d4, d5, by rw [idxI_app, d6, if_neg (by omega), nf]; rfl, d7, d8⟩
    by_cases et : t' = t
    · rw [if_pos et] at he'
      subst et
      rcases List.mem_append.1 he' with q | q
      · exact old e' q
      · simp at q
        subst q
        have nid : idxI v.steps (v.steps.length : Int) = -1 := by
          refine idxI_none fun x hx => ?_
          cases e : (v.steps[x]).flushOf (v.steps.length : Int) with
          | false => rfl
          | true =>
            exfalso
            simp [Stp.flushOf] at e
            have := fl x hx e.1
            omega
        refine ⟨⟨by simp, by simp; omega⟩, ?_, ?_, hm, ?_, hl.1, hl.2⟩
        · show (atS (v.steps ++ [s]) (v.steps.length : Int).toNat).t = _
          rw [Int.toNat_natCast, atS_last]; exact hst
        · show (atS (v.steps ++ [s]) (v.steps.length : Int).toNat).kind = 2
          rw [Int.toNat_natCast, atS_last]; exact hk
        · show idxI (v.steps ++ [s]) (v.steps.length : Int) = -1
          rw [idxI_app, nid, if_neg (by omega), nf]; rfl
    · rw [if_neg et] at he'
      exact old e' he'
  · rw [bufL_set hbl]
    split
    · rw [List.pairwise_append]
      refine ⟨I.ids t ht, by simp, fun a ha b hb => ?_⟩
      simp at hb
      subst hb
      have := (I.buf t ht a ha).1.2
      show a.id ≠ (v.steps.length : Int)
      omega
    · exact I.ids t' ht'
  · have hj' : j < v.steps.length + 1 := by simpa using hj
    show RdOk' m (v.steps ++ [s]) j
    have hrd' : (atS (v.steps ++ [s]) j).reads = true := hrd
    by_cases ej : j = v.steps.length
    · subst ej
      rw [atS_last, hr] at hrd'
      simp at hrd'
    · rw [atS_app (by omega)] at hrd'
      exact (I.rd j (by omega) hrd').app (by omega)
end Go.Jq
namespace Go.Jq
theorem MInv.new {m : Int} {p : Prg} : MInv m (newMac p) := by
  have bl : ∀ t : Nat, bufL (newMac p) t = [] := fun t => by
    show ([[], [], [], []] : List (List Ent))[t]?.getD [] = []
    match t with
    | 0 => rfl
    | 1 => rfl
    | 2 => rfl
    | 3 => rfl
    | t + 4 => rfl
  refine ⟨fun c hc => .inl ⟨?_, fun k hk => by simp [newMac] at hk⟩, fun t _ e he => ?_, fun t _ => ?_, fun i hi => by simp [newMac] at hi⟩
  · show ([-1, -1, -1, -1] : List Int)[c]?.getD 0 = -1
    match c, hc with
    | 0, _ => rfl
    | 1, _ => rfl
    | 2, _ => rfl
    | 3, _ => rfl
  · rw [bl] at he; simp at he
  · rw [bl]; exact .nil
end Go.Jq
namespace Go.Jq
structure Sure (m : Int) (v : Mac) : Prop where
  inv : MInv m v
  mem : v.mem.length = 4
  by' : v.by'.length = 4
  lcl : v.lcl.length = 4
  bufs : v.bufs.length = 4
  fl : ∀ j (hj : j < v.steps.length), v.steps[j].kind = 6 → v.steps[j].from' < v.steps.length
  few : ∀ l ∈ v.bufs, l.length ≤ v.steps.length
theorem Sure.ok {m : Int} {v : Mac} (g : Sure m v) (h : v.steps.length ≤ 100) : v.Ok := ⟨g.mem, g.by', g.lcl, g.bufs, fun l hl => by have := g.few l hl; omega⟩
theorem Sure.new {m : Int} {p : Prg} : Sure m (newMac p) := by
  refine ⟨MInv.new, take4_len, rfl, ?_, rfl, fun j hj => by simp [newMac] at hj, fun l hl => ?_⟩
  · exact take4_len
  · simp [newMac] at hl; subst hl; simp
theorem fl_app {l : List Stp} {s : Stp} (h : ∀ j (hj : j < l.length), l[j].kind = 6 → l[j].from' < l.length) (hs : s.kind = 6 → s.from' < l.length) : ∀ j (hj : j < (l ++ [s]).length), (l ++ [s])[j].kind = 6 → (l ++ [s])[j].from' < (l ++ [s]).length := by
  intro j hj hk
  rw [List.length_append] at hj ⊢
  simp at hj ⊢
  by_cases e : j < l.length
  · rw [List.getElem_append_left e] at hk ⊢
    have := h j e hk
    omega
  · have e' : j = l.length := by omega
    subst e'
    simp at hk ⊢
    have := hs hk
    omega
theorem oldM_lt {l : List Ent} {loc : Int} {k : Nat} (h : oldM l loc = some k) : k < l.length := by
  unfold oldM at h
  rw [List.findIdx?_eq_some_iff_getElem] at h
  exact h.1
theorem Sure.flush {m : Int} {p : Prg} {v : Mac} (g : Sure m v) (hn : v.steps.length ≤ 100) {i : Int} {x : Int × Int} (hf : flM m i = some x) (hm : mayM p m v i = true) : Sure m (pickM p m v i).1 := by
  obtain ⟨f1, f2, f3, f4, f5, f6⟩ := flM_some hf
  unfold mayM at hm
  rw [if_neg (by omega), hf] at hm
  simp only [] at hm
  have ht : x.1.toNat < 4 := by omega
  have hbl : x.1.toNat < v.bufs.length := by rw [g.bufs]; exact ht
  cases ek : oldM (bufL v x.1.toNat) x.2 with
  | none => unfold oldI at hm; rw [ek] at hm; simp at hm
  | some k =>
    have hk := oldM_lt ek
    have I := g.inv.flush (g.ok hn) ht hk (i := i) (mem := v.mem.set (bufL v x.1.toNat)[k].loc.toNat (bufL v x.1.toNat)[k].value) (lcl := v.lcl)
    have B := g.inv.buf _ ht _ (List.getElem_mem hk)
    have e : (pickM p m v i).1 = ⟨v.mem.set (bufL v x.1.toNat)[k].loc.toNat (bufL v x.1.toNat)[k].value, v.by'.set (bufL v x.1.toNat)[k].loc.toNat (bufL v x.1.toNat)[k].id, v.lcl, v.bufs.set x.1.toNat ((bufL v x.1.toNat).eraseIdx k), v.steps ++ [⟨i, (x.1.toNat : Int), 6, (bufL v x.1.toNat)[k].loc, 0, (bufL v x.1.toNat)[k].value, (bufL v x.1.toNat)[k].id⟩]⟩ := by
      unfold pickM
      rw [hf]
      simp only [ek, Option.getD_some, List.getElem?_eq_getElem hk]
      rw [show ((x.1.toNat : Nat) : Int) = x.1 by omega]
    rw [e]
    refine ⟨I, by simp [g.mem], by simp [g.by'], g.lcl, by simp [g.bufs], fl_app g.fl fun _ => B.1.2, fun l hl => ?_⟩
    rw [show (⟨v.mem.set (bufL v x.1.toNat)[k].loc.toNat (bufL v x.1.toNat)[k].value, v.by'.set (bufL v x.1.toNat)[k].loc.toNat (bufL v x.1.toNat)[k].id, v.lcl, v.bufs.set x.1.toNat ((bufL v x.1.toNat).eraseIdx k), v.steps ++ [⟨i, (x.1.toNat : Int), 6, (bufL v x.1.toNat)[k].loc, 0, (bufL v x.1.toNat)[k].value, (bufL v x.1.toNat)[k].id⟩]⟩ : Mac).steps.length = v.steps.length + 1 by simp]
    rcases List.mem_or_eq_of_mem_set hl with h | h
    · have := g.few l h; omega
    · subst h
      have eb : bufL v x.1.toNat = v.bufs[x.1.toNat] := by unfold bufL; rw [List.getElem?_eq_getElem hbl]; rfl
      have h1 := g.few _ (List.getElem_mem hbl)
      have h2 := List.length_eraseIdx_le (bufL v x.1.toNat) k
      rw [eb] at h2 ⊢
      omega
theorem evtM_kind {i : Ins} {l : Lcl} {x : Int} : (evtM i l x).kind ≠ 6 := by
  unfold evtM
  split
  · simp
  · split
    · simp
    · split
      · split <;> simp
      · simp
theorem evtM_loc {i : Ins} {l : Lcl} {x : Int} (h : 0 ≤ i.loc ∧ i.loc < 4) : 0 ≤ (evtM i l x).loc ∧ (evtM i l x).loc < 4 := by
  unfold evtM
  split
  · exact h
  · split
    · exact h
    · split
      · split <;> exact h
      · simp
theorem evtM_reads {i : Ins} {l : Lcl} {x : Int} (h : (evtM i l x).kind = 1 ∨ (evtM i l x).kind = 4 ∨ (evtM i l x).kind = 5) : readsI i = true ∧ (evtM i l x).loc = i.loc := by
  unfold evtM at h ⊢
  unfold readsI
  by_cases h1 : i.kind = 1
  · rw [if_pos h1] at h; simp at h
  · rw [if_neg h1] at h ⊢
    by_cases h2 : i.kind = 2
    · rw [if_pos h2]; simp [h2]
    · rw [if_neg h2] at h ⊢
      by_cases h4 : i.kind = 4
      · rw [if_pos h4]
        refine ⟨by simp [h4], ?_⟩
        split <;> rfl
      · rw [if_neg h4] at h; simp at h
end Go.Jq
namespace Go.Jq
theorem iOk.loc {n : Nat} {i : Ins} (h : iOk (plP n) i) (hn : n ≤ 4) : 0 ≤ i.loc ∧ i.loc < 4 := by
  unfold iOk plP at h
  rcases h with h | h | h | h | h | h <;> omega
theorem flM_none {m i : Int} (h : 0 ≤ i ∧ i < 4) : flM m i = none := by
  unfold flM
  rw [if_neg (by omega), if_neg (by omega)]
theorem Sure.thread {m : Int} {p : Prg} {v : Mac} (g : Sure m v) (O : ThOk p) (hp : p.locs.length ≤ 4) (hn : v.steps.length ≤ 100) {i : Int} (hi : 0 ≤ i ∧ i < 4) (hm : mayM p m v i = true) : Sure m (pickM p m v i).1 := by
  have hf := flM_none (m := m) hi
  unfold mayM at hm
  rw [if_pos hi] at hm
  unfold mayT at hm
  have ht : i.toNat < 4 := by omega
  have hbl : i.toNat < v.bufs.length := by rw [g.bufs]; exact ht
  cases ex : nextO p i.toNat (lclL v i.toNat) with
  | none => rw [ex] at hm; simp at hm
  | some x =>
    have xok : iOk (plP p.locs.length) x := by
      unfold nextO at ex
      split at ex
      · rename_i h1
        exact (O.ok _ (List.getElem_mem h1)).1.ok x (nextM_mem ex).1
      · simp at ex
    have xl := xok.loc hp
    unfold pickM
    rw [hf]
    simp only [ex, Option.getD_some]
    generalize hr : (if readsI x = true then rdM v i.toNat x.loc else (0, -1)) = r
    have el := evtM_loc (l := lclL v i.toNat) (x := r.1) xl
    have ek := evtM_kind (i := x) (l := lclL v i.toNat) (x := r.1)
    have er := evtM_reads (i := x) (l := lclL v i.toNat) (x := r.1)
    generalize evtM x (lclL v i.toNat) r.1 = e at el ek er
    generalize hs : (⟨i, i, e.kind, e.loc, e.r, e.w, r.2⟩ : Stp) = s
    have sk : s.kind = e.kind := by subst hs; rfl
    have sl : s.loc = e.loc := by subst hs; rfl
    have st : s.t = (i.toNat : Int) := by subst hs; show i = _; omega
    have sf : s.from' = r.2 := by subst hs; rfl
    have rd : s.reads = true → RdOk' m (v.steps ++ [s]) v.steps.length := by
      intro q
      have q' : e.kind = 1 ∨ e.kind = 4 ∨ e.kind = 5 := by
        unfold Stp.reads at q
        simp [sk] at q
        omega
      obtain ⟨a1, a2⟩ := er q'
      rw [if_pos a1] at hr
      exact g.inv.reads ht (by rw [sl]; exact el) st (by rw [sk]; exact ek) (by rw [sf, sl, a2, hr])
    have fl := fl_app g.fl (s := s) fun q => absurd (sk ▸ q) ek
    have few : ∀ l ∈ v.bufs, l.length ≤ v.steps.length + 1 := fun l hl => by have := g.few l hl; omega
    by_cases c1 : e.kind = 4 ∨ (e.kind = 2 ∧ m = 1)
    · rw [if_pos c1]
      have w : s.writes m = true := by unfold Stp.writes; rw [sk]; rcases c1 with c | ⟨c, d⟩ <;> simp [c, *]
      refine ⟨g.inv.step (g.ok hn) (by rw [sl]; exact el) (by rw [sk]; exact ek) rd (by rw [if_pos w, sl]), by simp [g.mem], by simp [g.by'], by simp [g.lcl], g.bufs, fl, fun l hl => by simpa using few l hl⟩
    · rw [if_neg c1]
      by_cases c2 : e.kind = 2
      · rw [if_pos c2]
        have m1 : m ≠ 1 := fun q => c1 (.inr ⟨c2, q⟩)
        have W := g.inv.wait (g.ok hn) ht m1 g.fl (s := s) (by rw [sl]; exact el) (by rw [sk]; exact c2) st (x := e.w) (mem := v.mem) (lcl := v.lcl.set i.toNat (aftM ((p.ths[i.toNat]?).getD []) (lclL v i.toNat) r.1))
        rw [sl] at W
        refine ⟨W, g.mem, g.by', by simp [g.lcl], by simp [g.bufs], fl, fun l hl => ?_⟩
        have e1 : l.length ≤ v.steps.length + 1 := by
          rcases List.mem_or_eq_of_mem_set hl with h | h
          · exact few l h
          · subst h
            have eb : bufL v i.toNat = v.bufs[i.toNat] := by unfold bufL; rw [List.getElem?_eq_getElem hbl]; rfl
            have h1 := g.few _ (List.getElem_mem hbl)
            rw [eb]; simp; omega
        simpa using e1
      · rw [if_neg c2]
        have w : ¬ s.writes m = true := by unfold Stp.writes; rw [sk]; simp; refine ⟨⟨ek, fun q => c1 (.inl q)⟩, fun q => c2⟩
        refine ⟨g.inv.step (g.ok hn) (by rw [sl]; exact el) (by rw [sk]; exact ek) rd (by rw [if_neg w]), g.mem, g.by', by simp [g.lcl], g.bufs, fl, fun l hl => by simpa using few l hl⟩
end Go.Jq
namespace Go.Jq
theorem Sure.pick {m : Int} {p : Prg} {v : Mac} (g : Sure m v) (O : ThOk p) (hp : p.locs.length ≤ 4) (hn : v.steps.length ≤ 100) {i : Int} (hm : mayM p m v i = true) : Sure m (pickM p m v i).1 := by
  by_cases hi : 0 ≤ i ∧ i < 4
  · exact g.thread O hp hn hi hm
  · cases hf : flM m i with
    | none =>
      unfold mayM at hm
      rw [if_neg hi, hf] at hm
      simp at hm
    | some x => exact g.flush hn hf hm
theorem Sure.fwd {m : Int} {v : Mac} (g : Sure m v) : Fwd (hbPre m v.steps) := hbPre_fwd fun i hi hr => (g.inv.rd i hi hr).toRdOk
theorem Sure.clo {m : Int} {v : Mac} (g : Sure m v) {n : Nat} : Fwd (clo n (hbPre m v.steps)) := g.fwd.clo
end Go.Jq
namespace Go.Jq
section
variable {m : Int} {v : Mac} (g : Sure m v) (hn : v.steps.length ≤ 64)
theorem hbR_of (hn : v.steps.length ≤ 64) : hbR m v.steps = clo v.steps.length (hbPre m v.steps) := by unfold hbR; rw [if_neg (by omega)]
theorem own_clo (hn : v.steps.length ≤ 64) : clo v.steps.length (hbR m v.steps) = hbR m v.steps := by rw [hbR_of hn, clo_clo]
include g
theorem own_acy (hn : v.steps.length ≤ 64) : acyM v.steps.length (hbR m v.steps) = true := by
  unfold acyM
  rw [own_clo hn, hbR_of hn, List.all_eq_true]
  intro i _
  cases e : (clo v.steps.length (hbPre m v.steps) i).testBit i with
  | false => rfl
  | true => exact absurd (g.clo i i e) (Nat.lt_irrefl i)
theorem own_back (hn : v.steps.length ≤ 64) {i k : Nat} (h : k ≤ i) : (hbR m v.steps i).testBit k = false := by
  rw [hbR_of hn]
  cases e : (clo v.steps.length (hbPre m v.steps) i).testBit k with
  | false => rfl
  | true => have := g.clo i k e; omega
end
theorem own_has {m : Int} {l : List Stp} (hn : l.length ≤ 64) {i k : Nat} (hik : i < k) (hk : k < l.length) (h : (atS l i).pick = (atS l k).pick ∨ ((atS l k).kind = 6 ∧ (atS l k).from' = i)) : (hbR m l i).testBit k = true := by
  unfold hbR
  rw [if_neg (by omega)]
  refine clo_more (hbPre_has hn hik hk ?_)
  unfold hbB
  rcases h with h | ⟨h1, h2⟩
  · simp [h]
  · simp [h1, h2]
end Go.Jq
