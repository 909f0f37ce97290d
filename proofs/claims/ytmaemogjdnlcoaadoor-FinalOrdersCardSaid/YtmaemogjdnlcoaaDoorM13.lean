/- More of the canonical course; stores that do not touch each other. -/
import Derived.Test.YtmaemogjdnlcoaaDoorM12
set_option linter.unusedSimpArgs false
set_option linter.unusedVariables false
namespace Go.Jq
open Go.RowKit

section
variable {C : Ctx} {N : Nat} {os : Array Oper} {l : List SOper} {F F1 : Fr} {h hK : AH} {past Y : List AH} {rs rs' : List Rec} {fl fl' : List (Nat × Nat × ABlk)} {T : List T1}

theorem DT.frees (d : DT C N os l F h past rs fl T F1 hK Y rs' fl') : ∀ t ∈ T, t.mv = false → t.fl = none → t.rd = none → ∀ h', Ex C N os t.s t.F t.val h' h' := by
  induction d with
  | nil => intro t ht; simp at ht
  | free hm hex _ ih =>
    intro t ht
    rcases List.mem_cons.1 ht with rfl | ht
    · intro _ _ _; exact hex
    · exact ih t ht
  | still _ _ _ _ _ ih =>
    intro t ht
    rcases List.mem_cons.1 ht with rfl | ht
    · intro _ _ h3; simp at h3
    · exact ih t ht
  | float _ _ _ ih =>
    intro t ht
    rcases List.mem_cons.1 ht with rfl | ht
    · intro _ h2; simp at h2
    · exact ih t ht
  | moves hm _ _ _ _ _ ih =>
    intro t ht
    rcases List.mem_cons.1 ht with rfl | ht
    · intro h1; simp [T1.mv, hm] at h1
    · exact ih t ht

theorem DT.kge (d : DT C N os l F h past rs fl T F1 hK Y rs' fl') : ∀ t ∈ T, past.length ≤ t.k := by
  intro t ht
  obtain ⟨A, B, e⟩ := List.append_of_mem ht
  rw [d.count A t B e]
  omega

theorem DT.floats (d : DT C N os l F h past rs fl T F1 hK Y rs' fl') : ∀ t ∈ T, ∀ b blk, t.fl = some (b, blk) → ∃ v, t.val = some v ∧ t.mv = false ∧ t.rd = none ∧ h.next ≤ b ∧ FlEx C N os t.s t.F v b blk ∧ (∀ j y, t.k ≤ j → (past.reverse ++ Y)[j]? = some y → b < y.next) ∧
    (∀ y, (past.reverse ++ Y)[t.k]? = some y → y.get b = blk) ∧ ∀ q ∈ T, q.mv = true → t.k ≤ q.k → q.s.dep.contains t.s.id = true ∨ ∀ y, (past.reverse ++ Y)[q.k + 1]? = some y → y.get b = blk := by
  induction d with
  | nil => intro t ht; simp at ht
  | free hm _ _ ih =>
    intro t ht b blk hb
    rcases List.mem_cons.1 ht with rfl | ht
    · simp at hb
    · obtain ⟨v, a1, a2, a3, a4, a5, a6, a7, a8⟩ := ih t ht b blk hb
      refine ⟨v, a1, a2, a3, a4, a5, a6, a7, fun q hq hmv => ?_⟩
      rcases List.mem_cons.1 hq with rfl | hq
      · simp [T1.mv, hm] at hmv
      · exact a8 q hq hmv
  | still hst _ _ _ _ ih =>
    intro t ht b blk hb
    rcases List.mem_cons.1 ht with rfl | ht
    · simp at hb
    · obtain ⟨v, a1, a2, a3, a4, a5, a6, a7, a8⟩ := ih t ht b blk hb
      refine ⟨v, a1, a2, a3, a4, a5, a6, a7, fun q hq hmv => ?_⟩
      rcases List.mem_cons.1 hq with rfl | hq
      · simp [T1.mv, SOper.moves, hst] at hmv
      · exact a8 q hq hmv
  | float hst hfx d ih =>
    rename_i s l F F1 h hK past Yy rs rs' fl fl' v blk0 T
    intro t ht b blk hb
    rcases List.mem_cons.1 ht with rfl | ht
    · simp only [Option.some.injEq, Prod.mk.injEq] at hb
      obtain ⟨rfl, rfl⟩ := hb
      obtain ⟨m1, m2⟩ := d.made (s.id, h.next, blk0) (List.mem_cons_self ..) (by show h.next < _; rw [AH.alloc_next]; omega)
      refine ⟨v, rfl, by simp [T1.mv, SOper.moves, hst], rfl, Nat.le_refl _, hfx, ?_, ?_, ?_⟩
      · intro j y hj hy
        rw [List.getElem?_append_right (by simpa using hj)] at hy
        have := d.next y (List.mem_of_getElem? hy)
        rw [AH.alloc_next] at this
        omega
      · intro y hy
        have : Yy[0]? = some y := by
          rw [List.getElem?_append_right (by simp)] at hy
          simpa using hy
        rw [m1 y this, AH.alloc_get, if_pos rfl]
      · intro q hq hmv _
        rcases List.mem_cons.1 hq with rfl | hq
        · simp [T1.mv, SOper.moves, hst] at hmv
        · obtain ⟨A, B, e⟩ := List.append_of_mem hq
          exact m2 A q B e hmv
    · obtain ⟨v', a1, a2, a3, a4, a5, a6, a7, a8⟩ := ih t ht b blk hb
      refine ⟨v', a1, a2, a3, by rw [AH.alloc_next] at a4; omega, a5, a6, a7, fun q hq hmv => ?_⟩
      rcases List.mem_cons.1 hq with rfl | hq
      · simp [T1.mv, SOper.moves, hst] at hmv
      · exact a8 q hq hmv
  | moves hm h2 hex hn h4 d ih =>
    rename_i s l F F1 h h1 hK past Yy rs rs' fl fl' val T
    intro t ht b blk hb
    rcases List.mem_cons.1 ht with rfl | ht
    · simp at hb
    · obtain ⟨v', a1, a2, a3, a4, a5, a6, a7, a8⟩ := ih t ht b blk hb
      refine ⟨v', a1, a2, a3, by omega, a5, fun j y hj hy => a6 j y hj (by simpa using hy), fun y hy => a7 y (by simpa using hy), fun q hq hmv hk => ?_⟩
      rcases List.mem_cons.1 hq with rfl | hq
      · have := d.kge t ht
        simp at this hk
        omega
      · rcases a8 q hq hmv hk with h0 | h0
        · exact .inl h0
        · exact .inr fun y hy => h0 y (by simpa using hy)

theorem DT.mvs (d : DT C N os l F h past rs fl T F1 hK Y rs' fl') : ∀ t ∈ T, t.mv = true → ∃ y h' z, (past.reverse ++ Y)[t.k]? = some y ∧ Ex C N os t.s t.F t.val y h' ∧ (past.reverse ++ Y)[t.k + 1]? = some z ∧ Grew h' z ∧ t.fl = none ∧ t.rd = none ∧ ∀ u ∈ T, ∀ b blk, u.fl = some (b, blk) → t.k < u.k → h'.next ≤ b := by
  induction d with
  | nil => intro t ht; simp at ht
  | free hm hex _ ih =>
    intro t ht hmv
    rcases List.mem_cons.1 ht with rfl | ht
    · simp [T1.mv, hm] at hmv
    · obtain ⟨y, h', z, e1, e2, e3, e4, e5, e6, e7⟩ := ih t ht hmv
      refine ⟨y, h', z, e1, e2, e3, e4, e5, e6, fun u hu b blk hb hk => ?_⟩
      rcases List.mem_cons.1 hu with rfl | hu
      · simp at hb
      · exact e7 u hu b blk hb hk
  | still hst _ _ _ _ ih =>
    intro t ht hmv
    rcases List.mem_cons.1 ht with rfl | ht
    · simp [T1.mv, SOper.moves, hst] at hmv
    · obtain ⟨y, h', z, e1, e2, e3, e4, e5, e6, e7⟩ := ih t ht hmv
      refine ⟨y, h', z, e1, e2, e3, e4, e5, e6, fun u hu b blk hb hk => ?_⟩
      rcases List.mem_cons.1 hu with rfl | hu
      · simp at hb
      · exact e7 u hu b blk hb hk
  | float hst hfx d ih =>
    intro t ht hmv
    rcases List.mem_cons.1 ht with rfl | ht
    · simp [T1.mv, SOper.moves, hst] at hmv
    · obtain ⟨y, h', z, e1, e2, e3, e4, e5, e6, e7⟩ := ih t ht hmv
      refine ⟨y, h', z, e1, e2, e3, e4, e5, e6, fun u hu b blk hb hk => ?_⟩
      rcases List.mem_cons.1 hu with rfl | hu
      · have := d.kge t ht
        simp at hk
        omega
      · exact e7 u hu b blk hb hk
  | moves hm h2 hex h3 h4 d ih =>
    rename_i s l F F1 h h1 hK past Yy rs rs' fl fl' val T
    intro t ht hmv
    rcases List.mem_cons.1 ht with rfl | ht
    · obtain ⟨y, Z, rfl, g⟩ := d.head
      refine ⟨h, h1, y, ?_, hex, ?_, g, rfl, rfl, ?_⟩
      · rw [List.getElem?_append_right (by simp)]; simp
      · rw [List.getElem?_append_right (by simp)]; simp
      · intro u hu b blk hb hk
        rcases List.mem_cons.1 hu with rfl | hu
        · simp at hb
        · obtain ⟨_, _, _, _, a4, _⟩ := d.floats u hu b blk hb
          exact a4
    · obtain ⟨y, h', z, e1, e2, e3, e4, e5, e6, e7⟩ := ih t ht hmv
      refine ⟨y, h', z, by simpa using e1, e2, by simpa using e3, e4, e5, e6, fun u hu b blk hb hk => ?_⟩
      rcases List.mem_cons.1 hu with rfl | hu
      · simp at hb
      · exact e7 u hu b blk hb hk

theorem DT.fl_float (d : DT C N os l F h past rs fl T F1 hK Y rs' fl') : ∀ t ∈ T, ∀ x, t.fl = some x → t.s.op.float = true := by
  induction d with
  | nil => intro t ht; simp at ht
  | free _ _ _ ih | still _ _ _ _ _ ih | moves _ _ _ _ _ _ ih =>
    intro t ht x hx
    rcases List.mem_cons.1 ht with rfl | ht
    · simp at hx
    · exact ih t ht x hx
  | float hf _ _ ih =>
    intro t ht x hx
    rcases List.mem_cons.1 ht with rfl | ht
    · exact hf
    · exact ih t ht x hx

theorem DT.kidx (d : DT C N os l F h past rs fl T F1 hK Y rs' fl') : ∀ (i : Nat) q, (T.filter (·.mv))[i]? = some q → q.k = past.length + i := by
  induction d with
  | nil => intro i q hq; simp at hq
  | free hm _ _ ih =>
    intro i q hq
    rw [List.filter_cons_of_neg (by simp [T1.mv, hm])] at hq
    exact ih i q hq
  | still hst _ _ _ _ ih =>
    intro i q hq
    rw [List.filter_cons_of_neg (by simp [T1.mv, SOper.moves, hst])] at hq
    exact ih i q hq
  | float hst _ _ ih =>
    intro i q hq
    rw [List.filter_cons_of_neg (by simp [T1.mv, SOper.moves, hst])] at hq
    exact ih i q hq
  | moves hm _ _ _ _ _ ih =>
    intro i q hq
    rw [List.filter_cons_of_pos (by simp [T1.mv, hm])] at hq
    cases i with
    | zero => simp at hq; subst hq; rfl
    | succ i =>
      simp only [List.getElem?_cons_succ] at hq
      rw [ih i q hq]
      simp only [List.length_cons]
      omega

theorem DT.fdist (d : DT C N os l F h past rs fl T F1 hK Y rs' fl') : ∀ A t B, T = A ++ t :: B → ∀ b blk, t.fl = some (b, blk) → ∀ u ∈ B, ∀ c clk, u.fl = some (c, clk) → b < c := by
  induction d with
  | nil => intro A t B e; cases A <;> simp at e
  | free _ _ _ ih | still _ _ _ _ _ ih | moves _ _ _ _ _ _ ih =>
    intro A t B e b blk hb
    cases A with
    | nil => simp only [List.nil_append, List.cons.injEq] at e; obtain ⟨rfl, _⟩ := e; simp at hb
    | cons x A => simp only [List.cons_append, List.cons.injEq] at e; exact ih A t B e.2 b blk hb
  | float _ _ d ih =>
    intro A t B e b blk hb
    cases A with
    | nil =>
      simp only [List.nil_append, List.cons.injEq] at e
      obtain ⟨rfl, rfl⟩ := e
      simp only [Option.some.injEq, Prod.mk.injEq] at hb
      obtain ⟨rfl, rfl⟩ := hb
      intro u hu c clk hc
      obtain ⟨_, _, _, _, a4, _⟩ := d.floats u hu c clk hc
      rw [AH.alloc_next] at a4
      omega
    | cons x A => simp only [List.cons_append, List.cons.injEq] at e; exact ih A t B e.2 b blk hb

theorem DT.all (d : DT C N os l F h past rs fl T F1 hK Y rs' fl') : (∀ x ∈ rs, x ∈ rs') ∧ (∀ x ∈ fl, x ∈ fl') ∧ (∀ t ∈ T, ∀ r, t.rd = some r → r ∈ rs') ∧ (∀ t ∈ T, ∀ b blk, t.fl = some (b, blk) → (t.s.id, b, blk) ∈ fl') := by
  induction d with
  | nil => exact ⟨fun _ h => h, fun _ h => h, fun t ht => by simp at ht, fun t ht => by simp at ht⟩
  | free _ _ _ ih | moves _ _ _ _ _ _ ih =>
    obtain ⟨a1, a2, a3, a4⟩ := ih
    refine ⟨a1, a2, fun t ht => ?_, fun t ht => ?_⟩
    · rcases List.mem_cons.1 ht with rfl | ht
      · intro r hr; simp at hr
      · exact a3 t ht
    · rcases List.mem_cons.1 ht with rfl | ht
      · intro b blk hr; simp at hr
      · exact a4 t ht
  | still _ _ _ _ _ ih =>
    obtain ⟨a1, a2, a3, a4⟩ := ih
    refine ⟨fun x hx => a1 x (List.mem_cons_of_mem _ hx), a2, fun t ht => ?_, fun t ht => ?_⟩
    · rcases List.mem_cons.1 ht with rfl | ht
      · intro r hr; simp only [Option.some.injEq] at hr; subst hr; exact a1 _ (List.mem_cons_self ..)
      · exact a3 t ht
    · rcases List.mem_cons.1 ht with rfl | ht
      · intro b blk hr; simp at hr
      · exact a4 t ht
  | float _ _ _ ih =>
    obtain ⟨a1, a2, a3, a4⟩ := ih
    refine ⟨a1, fun x hx => a2 x (List.mem_cons_of_mem _ hx), fun t ht => ?_, fun t ht => ?_⟩
    · rcases List.mem_cons.1 ht with rfl | ht
      · intro r hr; simp at hr
      · exact a3 t ht
    · rcases List.mem_cons.1 ht with rfl | ht
      · intro b blk hr; simp only [Option.some.injEq, Prod.mk.injEq] at hr; obtain ⟨rfl, rfl⟩ := hr; exact a2 _ (List.mem_cons_self ..)
      · exact a4 t ht
end

/-! Stores that do not touch each other may change places. -/

theorem getElem?_splice {c : List Value} {o : Nat} {v : List Value} (hle : o + v.length ≤ c.length) (j : Nat) : (splice c o v)[j]? = if o ≤ j ∧ j < o + v.length then v[j - o]? else c[j]? := by
  simp only [splice, List.getElem?_append, List.length_take, List.getElem?_take, List.getElem?_drop]
  have : min o c.length = o := by omega
  rw [this]
  by_cases h1 : j < o
  · rw [if_pos h1, if_pos h1, if_neg (by omega)]
  · rw [if_neg h1]
    by_cases h2 : j - o < v.length
    · rw [if_pos h2, if_pos (by omega)]
    · rw [if_neg h2, if_neg (by omega)]
      congr 1
      omega

theorem splice_comm {c : List Value} {o p : Nat} {u v : List Value} (h1 : o + u.length ≤ c.length) (h2 : p + v.length ≤ c.length) (h : o + u.length ≤ p ∨ p + v.length ≤ o) : splice (splice c o u) p v = splice (splice c p v) o u := by
  apply List.ext_getElem?
  intro j
  rw [getElem?_splice (by rw [splice_length h1]; exact h2), getElem?_splice h1, getElem?_splice (by rw [splice_length h2]; exact h1), getElem?_splice h2]
  by_cases a1 : o ≤ j ∧ j < o + u.length
  · rw [if_neg (show ¬ (p ≤ j ∧ j < p + v.length) by omega), if_pos a1, if_pos a1]
  · rw [if_neg a1, if_neg a1]

theorem AH.ext' {a b : AH} (h1 : a.next = b.next) (h2 : ∀ i, a.get i = b.get i) : a = b := by
  cases a; cases b
  simp only at h1 h2
  subst h1
  congr
  funext i
  exact h2 i

theorem St.put_next (h : AH) (s : St) : (St.put h s).next = h.next := by
  unfold St.put
  split
  · split <;> rfl
  · rfl

theorem St.put_get (h : AH) (s : St) (i : Nat) : (St.put h s).get i = if i = s.b then (match h.get i with
    | .cells c g ro => if s.off + s.cs.length ≤ c.length then .cells (splice c s.off s.cs) g ro else h.get i
    | o => o) else h.get i := by
  unfold St.put
  split
  · rename_i c g ro hc
    split
    · rename_i hle
      rw [AH.put_get]
      split
      · rename_i e; subst e; rw [hc]; simp [hle]
      · rfl
    · rename_i hle
      split
      · rename_i e; subst e; rw [hc]; simp [hle]
      · rfl
  · rename_i hc
    split
    · rename_i e; subst e
      cases ho : h.get s.b with
      | cells c g ro => exact absurd ho (hc c g ro)
      | map => rfl
      | dead => rfl
    · rfl

theorem St.get_ne (h : AH) (s : St) {i : Nat} (e : i ≠ s.b) : (St.put h s).get i = h.get i := by rw [St.put_get, if_neg e]
theorem St.get_cells {h : AH} {s : St} {c : List Value} {g ro : Bool} (ho : h.get s.b = .cells c g ro) : (St.put h s).get s.b = .cells (if s.off + s.cs.length ≤ c.length then splice c s.off s.cs else c) g ro := by
  rw [St.put_get, if_pos rfl, ho]
  simp only
  split <;> rfl
theorem St.get_other {h : AH} {s : St} (ho : ∀ c g ro, h.get s.b ≠ .cells c g ro) : (St.put h s).get s.b = h.get s.b := by
  rw [St.put_get, if_pos rfl]
  split
  · rename_i e; exact absurd e (ho _ _ _)
  · rfl

theorem St.put_comm {s t : St} (hap : s.apart t) (h : AH) : St.put (St.put h s) t = St.put (St.put h t) s := by
  refine AH.ext' (by simp [St.put_next]) fun i => ?_
  by_cases e1 : i = s.b
  · subst e1
    by_cases e2 : s.b = t.b
    · have hd : s.off + s.cs.length ≤ t.off ∨ t.off + t.cs.length ≤ s.off := by
        rcases hap with h | h
        · exact absurd e2 h
        · exact h
      by_cases hc : ∃ c g ro, h.get s.b = .cells c g ro
      · obtain ⟨c, g, ro, hc⟩ := hc
        have k1 := St.get_cells hc
        have k2 := St.get_cells (s := t) (h := St.put h s) (by rw [← e2]; exact k1)
        have k3 := St.get_cells (s := t) (h := h) (by rw [← e2]; exact hc)
        have k4 := St.get_cells (s := s) (h := St.put h t) (by rw [e2]; exact k3)
        rw [k4]
        rw [e2, k2]
        by_cases l1 : s.off + s.cs.length ≤ c.length
        · by_cases l2 : t.off + t.cs.length ≤ c.length
          · simp only [l1, l2, if_true, splice_length l1, splice_length l2, splice_comm l1 l2 hd]
          · simp only [l1, l2, if_true, if_false, splice_length l1]
        · by_cases l2 : t.off + t.cs.length ≤ c.length
          · simp only [l1, l2, if_true, if_false, splice_length l2]
          · simp only [l1, l2, if_false]
      · have n1 : ∀ c g ro, h.get s.b ≠ .cells c g ro := fun c g ro e => hc ⟨c, g, ro, e⟩
        have n2 : ∀ c g ro, h.get t.b ≠ .cells c g ro := by rw [← e2]; exact n1
        have k1 := St.get_other n1
        have k3 := St.get_other n2
        have k2 := St.get_other (s := t) (h := St.put h s) (by rw [← e2, k1]; exact n1)
        have k4 := St.get_other (s := s) (h := St.put h t) (by rw [e2, k3]; exact n2)
        rw [k4, e2, k2, k3, ← e2, k1]
    · rw [St.get_ne _ _ e2]
      by_cases hc : ∃ c g ro, h.get s.b = .cells c g ro
      · obtain ⟨c, g, ro, hc⟩ := hc
        rw [St.get_cells hc, St.get_cells (h := St.put h t) (by rw [St.get_ne _ _ e2]; exact hc)]
      · have n1 : ∀ c g ro, h.get s.b ≠ .cells c g ro := fun c g ro e => hc ⟨c, g, ro, e⟩
        rw [St.get_other n1, St.get_other (h := St.put h t) (by rw [St.get_ne _ _ e2]; exact n1), St.get_ne _ _ e2]
  · rw [St.get_ne (St.put h t) _ e1]
    by_cases e2 : i = t.b
    · subst e2
      by_cases hc : ∃ c g ro, h.get t.b = .cells c g ro
      · obtain ⟨c, g, ro, hc⟩ := hc
        rw [St.get_cells hc, St.get_cells (h := St.put h s) (by rw [St.get_ne _ _ e1]; exact hc)]
      · have n1 : ∀ c g ro, h.get t.b ≠ .cells c g ro := fun c g ro e => hc ⟨c, g, ro, e⟩
        rw [St.get_other n1, St.get_other (h := St.put h s) (by rw [St.get_ne _ _ e1]; exact n1), St.get_ne _ _ e1]
    · rw [St.get_ne _ _ e2, St.get_ne _ _ e1, St.get_ne _ _ e2]

theorem St.fits_put {s t : St} {h : AH} (hf : s.fits h) : s.fits (St.put h t) := by
  unfold St.fits at hf ⊢
  by_cases hc : ∃ c g ro, h.get s.b = .cells c g ro
  · obtain ⟨c, g, ro, hc⟩ := hc
    rw [hc] at hf
    obtain ⟨rfl, hle⟩ := hf
    by_cases e : s.b = t.b
    · have := St.get_cells (s := t) (h := h) (by rw [← e]; exact hc)
      rw [e, this]
      refine ⟨rfl, ?_⟩
      split
      · rename_i hl; rw [splice_length hl]; exact hle
      · exact hle
    · rw [St.get_ne _ _ e, hc]
      exact ⟨rfl, hle⟩
  · cases ho : h.get s.b with
    | dead => rw [ho] at hf; exact hf.elim
    | map => rw [ho] at hf; exact hf.elim
    | cells c g ro => exact absurd ⟨c, g, ro, ho⟩ hc

theorem St.store_of_fits {s : St} {h : AH} (hf : s.fits h) : h.store s.b s.off s.cs = some (St.put h s) := by
  unfold St.fits at hf
  unfold AH.store St.put
  cases ho : h.get s.b with
  | dead => rw [ho] at hf; exact hf.elim
  | map => rw [ho] at hf; exact hf.elim
  | cells c g ro =>
    rw [ho] at hf
    obtain ⟨rfl, hle⟩ := hf
    simp [hle]

theorem foldl_put_next (l : List St) (h : AH) : (l.foldl St.put h).next = h.next := by
  induction l generalizing h with
  | nil => rfl
  | cons s l ih => rw [List.foldl_cons, ih, St.put_next]

theorem foldl_put_get (l : List St) (h : AH) {b : Nat} (hb : ∀ s ∈ l, s.b ≠ b) : (l.foldl St.put h).get b = h.get b := by
  induction l generalizing h with
  | nil => rfl
  | cons s l ih => rw [List.foldl_cons, ih _ fun t ht => hb t (List.mem_cons_of_mem _ ht), St.put_get, if_neg fun e => hb s (List.mem_cons_self ..) e.symm]

theorem put_load {h : AH} {b o n : Nat} {s : St} {cs : List Value} (hl : h.load b o n = some cs) (hap : b ≠ s.b ∨ o + n ≤ s.off ∨ s.off + s.cs.length ≤ o) : (St.put h s).load b o n = some cs := by
  unfold AH.load at hl ⊢
  by_cases e : b = s.b
  · subst e
    cases ho : h.get s.b with
    | dead => rw [ho] at hl; simp at hl
    | map => rw [ho] at hl; simp at hl
    | cells c g ro =>
      rw [ho] at hl
      rw [St.get_cells ho]
      simp only at hl ⊢
      split at hl
      · rename_i hle
        simp only [Option.some.injEq] at hl
        subst hl
        by_cases hs : s.off + s.cs.length ≤ c.length
        · simp only [hs, if_true, splice_length hs, hle, Option.some.injEq]
          apply List.ext_getElem?
          intro j
          simp only [List.getElem?_take, List.getElem?_drop]
          split
          · rw [getElem?_splice hs, if_neg (by omega)]
          · rfl
        · simp only [hs, if_false, hle, if_true]
      · simp at hl
  · rw [St.get_ne _ _ e]; exact hl

theorem put_load1 {h : AH} {b o : Nat} {s : St} {v : Value} (hl : h.load1 b o = some v) (hap : b ≠ s.b ∨ o + 1 ≤ s.off ∨ s.off + s.cs.length ≤ o) : (St.put h s).load1 b o = some v := by
  unfold AH.load1 at hl ⊢
  by_cases e : b = s.b
  · subst e
    cases ho : h.get s.b with
    | dead => rw [ho] at hl; simp at hl
    | map => rw [ho] at hl; simp at hl
    | cells c g ro =>
      rw [ho] at hl
      rw [St.get_cells ho]
      simp only at hl ⊢
      split
      · rename_i hs
        rw [getElem?_splice hs, if_neg (by omega)]
        exact hl
      · exact hl
  · rw [St.get_ne _ _ e]; exact hl

/-- what was read apart from a store is the same behind it -/
theorem Rec.same_put {r : Rec} {s : St} {h : AH} (hs : r.same h) (hap : r.apart s) : r.same (St.put h s) := by
  unfold Rec.same at hs ⊢
  unfold Rec.apart at hap
  cases hop : r.op <;> rw [hop] at hs hap <;> simp only at hap
  case load1 a =>
    simp only [sop] at hs ⊢
    cases hb : (r.F.val a).bind ptr with
    | none => rw [hb] at hap; exact hap.elim
    | some p =>
      obtain ⟨b, o⟩ := p
      rw [hb] at hs hap
      simp only at hs hap ⊢
      split at hs
      · rename_i v hv
        simp only [Option.some.injEq, Out.val.injEq, and_true] at hs
        rw [put_load1 hv (by simpa [St.apart] using hap), hs]
      · simp at hs
  case loadN n a =>
    simp only [sop] at hs ⊢
    cases hb : (r.F.val a).bind ptr with
    | none => rw [hb] at hap; exact hap.elim
    | some p =>
      obtain ⟨b, o⟩ := p
      rw [hb] at hs hap
      simp only at hs hap ⊢
      split at hs
      · rename_i v hv
        simp only [Option.some.injEq, Out.val.injEq, and_true] at hs
        rw [put_load hv (by simpa [St.apart] using hap)]
        simp only [hs]
      · simp at hs
  case lenM x =>
    simp only [sop] at hs ⊢
    split at hs
    · simp only [Option.some.injEq, Out.val.injEq, and_true] at hs; rw [hs]
    · rename_i m hm
      split at hs
      · rename_i es clk hg
        simp only [Option.some.injEq, Out.val.injEq, and_true] at hs
        have : (St.put h s).get m = .map es clk := by
          rw [St.put_get, hg]; split <;> rfl
        rw [this]
        simp only [hs]
      · simp at hs
    · simp at hs

end Go.Jq
