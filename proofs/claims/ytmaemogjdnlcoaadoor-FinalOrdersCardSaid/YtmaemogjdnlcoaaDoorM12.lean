/- A region that draws its order: its canonical course. -/
import Derived.Test.YtmaemogjdnlcoaaDoorM11
set_option linter.unusedSimpArgs false
set_option linter.unusedVariables false
namespace Go.Jq
open Go.RowKit

/-- An operation and its small form, in a region. -/
def Comp (C : Ctx) (N : Nat) (os : Array Oper) (o : Oper) (s : SOper) : Prop :=
  s.dst = o.dst ∧ o.dst.toList.all (· < N) = true ∧ cGuard os o.guard = some s.guard ∧ (s.op = .bad ∨ cOp C.P C.ψ o = some s.op) ∧ (isStore s.op = true → o.dst = none)

theorem Comp.good {C : Ctx} {N : Nat} {os : Array Oper} {o : Oper} {s : SOper} (h : Comp C N os o s) {γ : Gm} {a : Act} {ρ : SOpd → Option Value} (hρ : OR C γ ρ a) : Good C γ o a ρ s.op := by
  obtain ⟨_, _, _, h1 | h1, _⟩ := h
  · rw [h1]; exact good_bad
  · exact good_all hρ h1

/-- What an operation does, from one memory to another, whatever stands behind it. -/
def Ex (C : Ctx) (N : Nat) (os : Array Oper) (s : SOper) (F : Fr) (val : Option Value) (h h' : AH) : Prop :=
  ∀ (o : Oper), Comp C N os o s → ∀ (γ : Gm) (w : World) (a : Act) (K : Act → World → Prop) (Q : Exit → Act → World → Prop), HR C γ h w → FR C γ N (F.keep s.uses) a →
    (∀ γ' w' v', GX h γ γ' h' → HR C γ' h' w' → (∀ v, val = some v → VR C γ' v v') → K (a.put o.dst v') w') →
    (if Region.wanted o (yielded os a.tmps) = true then o.wp C.P a w K Q else K (a.put o.dst undef) w)

section
variable {C : Ctx} {N : Nat} {os : Array Oper} {s : SOper} {F : Fr}

theorem ex_off (hg : gok (F.keep s.uses) s.guard = some false) (h : AH) : Ex C N os s F none h h := by
  intro o hc γ w a K Q H hF k
  rw [hF.guard hc.2.2.1 hg]
  simp only [Bool.false_eq_true, if_false]
  exact k γ w undef (.same (Nat.le_refl _)) H (by simp)

theorem ex_val (hg : gok (F.keep s.uses) s.guard = some true) {h h1 : AH} {v : Value} (hs : sop s.op (F.keep s.uses).val h = some (.val v h1)) : Ex C N os s F (some v) h h1 := by
  intro o hc γ w a K Q H hF k
  rw [hF.guard hc.2.2.1 hg]
  simp only [if_true]
  obtain ⟨v', w', γ', q1, q2, q3, q4⟩ := (hc.good hF.or).all h w H _ hs
  simp only [Oper.wp, q1, Oper.upon_value]
  exact k γ' w' v' q2 q3 (by intro u hu; simp only [Option.some.injEq] at hu; subst hu; exact q4)

theorem ex_quiet (hg : gok (F.keep s.uses) s.guard = some true) (hq : s.op.quiet = true) {h h1 : AH} {v : Value} (hs : sop s.op (F.keep s.uses).val h = some (.val v h1)) (h' : AH) : Ex C N os s F (some v) h' h' := by
  intro o hc γ w a K Q H hF k
  rw [hF.guard hc.2.2.1 hg]
  simp only [if_true]
  obtain ⟨u, hu, q⟩ := (hc.good hF.or).quiet hq h _ hs
  simp only [Out.val.injEq] at hu
  obtain ⟨rfl, rfl⟩ := hu
  obtain ⟨v', q1, q2⟩ := q w
  simp only [Oper.wp, q1, Oper.upon_value]
  exact k γ w v' (.same (Nat.le_refl _)) H (by intro u hu; simp only [Option.some.injEq] at hu; subst hu; exact q2)

theorem ex_skip (hg : gok (F.keep s.uses) s.guard = some true) {h h1 : AH} (hs : sop s.op (F.keep s.uses).val h = some (.skip h1)) : Ex C N os s F none h h1 := by
  intro o hc γ w a K Q H hF k
  rw [hF.guard hc.2.2.1 hg]
  simp only [if_true]
  obtain ⟨w', q1, q2, q3⟩ := (hc.good hF.or).all h w H _ hs
  simp only [Oper.wp, q1, Oper.upon_skip]
  exact k γ w' undef (.same q2) q3 (by simp)

theorem ex_call (hg : gok (F.keep s.uses) s.guard = some true) {h h1 : AH} {f : Nat} {args : List Value} {v : Value} (hs : sop s.op (F.keep s.uses).val h = some (.call f args))
    (hcall : ∀ (γ : Gm) (w : World) (args' : Array Value), C.L f = true → HR C γ h w → FA2 (VR C γ) args args'.toList → Calls C.P (C.φ f) args' w (Called C γ h v h1)) : Ex C N os s F (some v) h h1 := by
  intro o hc γ w a K Q H hF k
  rw [hF.guard hc.2.2.1 hg]
  simp only [if_true]
  obtain ⟨args', q1, q2, q3⟩ := (hc.good hF.or).all h w H _ hs
  simp only [Oper.wp, q1, Oper.upon_enter]
  refine (hcall γ w args' q3 H q2).mono fun e w'' hd => ?_
  obtain ⟨v', γ', rfl, g1, g2, g3⟩ := hd
  exact k γ' w'' v' g1 g2 (by intro u hu; simp only [Option.some.injEq] at hu; subst hu; exact g3)

/-- A block that the abstract memory has had for long is made at last. -/
def FlEx (C : Ctx) (N : Nat) (os : Array Oper) (s : SOper) (F : Fr) (v : Value) (b : Nat) (blk : ABlk) : Prop :=
  ∀ (o : Oper), Comp C N os o s → ∀ (γ : Gm) (h : AH) (w : World) (a : Act) (K : Act → World → Prop) (Q : Exit → Act → World → Prop), HR C γ h w → γ b = none → b < h.next → h.get b = blk → FR C γ N (F.keep s.uses) a →
    (∀ x w' v', HR C (gset γ b x) h w' → VR C (gset γ b x) v v' → K (a.put o.dst v') w') →
    (if Region.wanted o (yielded os a.tmps) = true then o.wp C.P a w K Q else K (a.put o.dst undef) w)

theorem ex_float (hg : gok (F.keep s.uses) s.guard = some true) (hf : s.op.float = true) {h : AH} {v : Value} {blk : ABlk} (hs : sop s.op (F.keep s.uses).val h = some (.val v (h.alloc blk))) : FlEx C N os s F v h.next blk := by
  intro o hc γ h' w a K Q H hb hlt hget hF k
  rw [hF.guard hc.2.2.1 hg]
  simp only [if_true]
  obtain ⟨u, blk', hu, fl⟩ := (hc.good hF.or).float hf h _ hs
  simp only [Out.val.injEq] at hu
  obtain ⟨rfl, hblk⟩ := hu
  have hbb : blk' = blk := by
    have := congrArg (fun x : AH => x.get h.next) hblk
    simpa [AH.alloc] using this.symm
  subst hbb
  obtain ⟨v', obj, M, q1, q2⟩ := fl.go w H.size
  obtain ⟨q3, q4⟩ := q2 (gset γ h.next (w.heap.size, 0, M)) (gset_sub hb) (by simp [gset])
  simp only [Oper.wp, q1, Oper.upon_value]
  exact k _ _ v' (H.map hb hlt (by rw [hget]; exact q4)) q3
end

/-- A step of the canonical course: the operation, what it reads, what it answers, how many have turned memory ahead of it, the block that it makes. -/
structure T1 where
  s : SOper
  F : Fr
  val : Option Value
  k : Nat
  fl : Option (Nat × ABlk)
  rd : Option Rec

def upd (F : Fr) (t : T1) : Fr := match t.val with
  | some v => F.put t.s.dst v
  | none => F.unput t.s.dst
def fin (F : Fr) (l : List T1) : Fr := l.foldl upd F
def T1.mv (t : T1) : Bool := t.s.moves

/-- The canonical course, from some step on. 'Y': memory ahead of each that turns it, and at the end. -/
inductive DT (C : Ctx) (N : Nat) (os : Array Oper) : List SOper → Fr → AH → List AH → List Rec → List (Nat × Nat × ABlk) → List T1 → Fr → AH → List AH → List Rec → List (Nat × Nat × ABlk) → Prop
  | nil {F : Fr} {h : AH} {past : List AH} {rs : List Rec} {fl : List (Nat × Nat × ABlk)} : (∀ x ∈ rs, past.length ≤ x.hi → x.same h) → DT C N os [] F h past rs fl [] F h [h] rs fl
  | free {s : SOper} {l : List SOper} {F F1 : Fr} {h hK : AH} {past Y : List AH} {rs rs' : List Rec} {fl fl' : List (Nat × Nat × ABlk)} {val : Option Value} {T : List T1} : s.moves = false →
      (∀ h', Ex C N os s F val h' h') → DT C N os l (upd F ⟨s, F, val, past.length, none, none⟩) h past rs fl T F1 hK Y rs' fl' →
      DT C N os (s :: l) F h past rs fl (⟨s, F, val, past.length, none, none⟩ :: T) F1 hK Y rs' fl'
  | still {s : SOper} {l : List SOper} {F F1 : Fr} {h hK : AH} {past Y : List AH} {rs rs' : List Rec} {fl fl' : List (Nat × Nat × ABlk)} {v : Value} {T : List T1} : s.op.still = true → s.op.quiet = false → gok (F.keep s.uses) s.guard = some true →
      (∀ x ∈ past.take (past.length - s.lo), Rec.same ⟨s.id, s.op, F.keep s.uses, v, s.hi⟩ x) →
      DT C N os l (F.put s.dst v) h past (⟨s.id, s.op, F.keep s.uses, v, s.hi⟩ :: rs) fl T F1 hK Y rs' fl' →
      DT C N os (s :: l) F h past rs fl (⟨s, F, some v, past.length, none, some ⟨s.id, s.op, F.keep s.uses, v, s.hi⟩⟩ :: T) F1 hK Y rs' fl'
  | float {s : SOper} {l : List SOper} {F F1 : Fr} {h hK : AH} {past Y : List AH} {rs rs' : List Rec} {fl fl' : List (Nat × Nat × ABlk)} {v : Value} {blk : ABlk} {T : List T1} : s.op.float = true → FlEx C N os s F v h.next blk →
      DT C N os l (F.put s.dst v) (h.alloc blk) past rs ((s.id, h.next, blk) :: fl) T F1 hK Y rs' fl' →
      DT C N os (s :: l) F h past rs fl (⟨s, F, some v, past.length, some (h.next, blk), none⟩ :: T) F1 hK Y rs' fl'
  | moves {s : SOper} {l : List SOper} {F F1 : Fr} {h h1 hK : AH} {past Y : List AH} {rs rs' : List Rec} {fl fl' : List (Nat × Nat × ABlk)} {val : Option Value} {T : List T1} : s.moves = true → (∀ x ∈ rs, past.length ≤ x.hi → x.same h) →
      Ex C N os s F val h h1 → h.next ≤ h1.next → (∀ x ∈ fl, s.dep.contains x.1 = true ∨ h1.get x.2.1 = x.2.2) →
      DT C N os l (upd F ⟨s, F, val, past.length, none, none⟩) h1 (h :: past) rs fl T F1 hK Y rs' fl' →
      DT C N os (s :: l) F h past rs fl (⟨s, F, val, past.length, none, none⟩ :: T) F1 hK (h :: Y) rs' fl'

section
variable {C : Ctx} {N : Nat} {os : Array Oper} {l : List SOper} {F F1 : Fr} {h hK : AH} {past Y : List AH} {rs rs' : List Rec} {fl fl' : List (Nat × Nat × ABlk)} {T : List T1}

theorem DT.map (d : DT C N os l F h past rs fl T F1 hK Y rs' fl') : T.map (·.s) = l := by
  induction d with
  | nil => rfl
  | free _ _ _ ih | still _ _ _ _ _ ih | float _ _ _ ih | moves _ _ _ _ _ _ ih => simp [ih]

theorem DT.fin (d : DT C N os l F h past rs fl T F1 hK Y rs' fl') : Go.Jq.fin F T = F1 := by
  induction d with
  | nil => rfl
  | free _ _ _ ih | still _ _ _ _ _ ih | float _ _ _ ih | moves _ _ _ _ _ _ ih => exact ih

theorem DT.frame (d : DT C N os l F h past rs fl T F1 hK Y rs' fl') : ∀ A t B, T = A ++ t :: B → t.F = Go.Jq.fin F A := by
  induction d with
  | nil => intro A t B e; cases A <;> simp at e
  | free _ _ _ ih | still _ _ _ _ _ ih | float _ _ _ ih | moves _ _ _ _ _ _ ih =>
    intro A t B e
    cases A with
    | nil => simp only [List.nil_append, List.cons.injEq] at e; obtain ⟨rfl, _⟩ := e; rfl
    | cons x A => simp only [List.cons_append, List.cons.injEq] at e; obtain ⟨rfl, e⟩ := e; exact ih A t B e

theorem still_moves {o : SOp} (h : o.still = true) : (!o.still && !o.float) = false := by rw [h]; rfl
theorem float_moves {o : SOp} (h : o.float = true) : (!o.still && !o.float) = false := by rw [h]; simp

theorem DT.count (d : DT C N os l F h past rs fl T F1 hK Y rs' fl') : ∀ A t B, T = A ++ t :: B → t.k = past.length + (A.filter (·.mv)).length := by
  induction d with
  | nil => intro A t B e; cases A <;> simp at e
  | free hm _ _ ih =>
    intro A t B e
    cases A with
    | nil => simp only [List.nil_append, List.cons.injEq] at e; obtain ⟨rfl, _⟩ := e; simp
    | cons x A => simp only [List.cons_append, List.cons.injEq] at e; obtain ⟨rfl, e⟩ := e; rw [ih A t B e]; simp [T1.mv, hm]
  | still hst _ _ _ _ ih =>
    intro A t B e
    cases A with
    | nil => simp only [List.nil_append, List.cons.injEq] at e; obtain ⟨rfl, _⟩ := e; simp
    | cons x A =>
      simp only [List.cons_append, List.cons.injEq] at e; obtain ⟨rfl, e⟩ := e; rw [ih A t B e]
      simp [T1.mv, SOper.moves, hst]
  | float hst _ _ ih =>
    intro A t B e
    cases A with
    | nil => simp only [List.nil_append, List.cons.injEq] at e; obtain ⟨rfl, _⟩ := e; simp
    | cons x A =>
      simp only [List.cons_append, List.cons.injEq] at e; obtain ⟨rfl, e⟩ := e; rw [ih A t B e]
      simp [T1.mv, SOper.moves, hst]
  | moves hm _ _ _ _ _ ih =>
    intro A t B e
    cases A with
    | nil => simp only [List.nil_append, List.cons.injEq] at e; obtain ⟨rfl, _⟩ := e; simp
    | cons x A =>
      simp only [List.cons_append, List.cons.injEq] at e; obtain ⟨rfl, e⟩ := e; rw [ih A t B e]
      simp [T1.mv, hm]; omega

/-- memory, grown by new blocks alone -/
def Grew (h h' : AH) : Prop := ∃ bs : List ABlk, h' = bs.foldl AH.alloc h
theorem Grew.refl (h : AH) : Grew h h := ⟨[], rfl⟩
theorem Grew.alloc {h h' : AH} {b : ABlk} (g : Grew (h.alloc b) h') : Grew h h' := let ⟨bs, e⟩ := g; ⟨b :: bs, e⟩
theorem Grew.get {h h' : AH} (g : Grew h h') : h.next ≤ h'.next ∧ ∀ b, b < h.next → h'.get b = h.get b := by
  obtain ⟨bs, rfl⟩ := g
  induction bs generalizing h with
  | nil => exact ⟨Nat.le_refl _, fun _ _ => rfl⟩
  | cons x bs ih =>
    obtain ⟨i1, i2⟩ := ih (h := h.alloc x)
    rw [AH.alloc_next] at i1 i2
    refine ⟨by simp only [List.foldl_cons]; omega, fun b hb => ?_⟩
    simp only [List.foldl_cons]
    rw [i2 b (by omega), AH.alloc_get, if_neg (by omega)]
theorem Grew.hr {C : Ctx} {γ : Gm} {h h' : AH} {w : World} (g : Grew h h') (H : HR C γ h w) : HR C γ h' w := by
  obtain ⟨bs, rfl⟩ := g
  induction bs generalizing h with
  | nil => exact H
  | cons x bs ih => exact ih (H.grow x)

theorem DT.head (d : DT C N os l F h past rs fl T F1 hK Y rs' fl') : ∃ y Z, Y = y :: Z ∧ Grew h y := by
  induction d with
  | nil => exact ⟨_, _, rfl, .refl _⟩
  | free _ _ _ ih | still _ _ _ _ _ ih => exact ih
  | float _ _ _ ih => obtain ⟨y, Z, e, g⟩ := ih; exact ⟨y, Z, e, g.alloc⟩
  | moves => exact ⟨_, _, rfl, .refl _⟩

theorem DT.len (d : DT C N os l F h past rs fl T F1 hK Y rs' fl') : Y.length = (T.filter (·.mv)).length + 1 := by
  induction d with
  | nil => rfl
  | free hm _ _ ih => rw [ih]; simp [T1.mv, hm]
  | still hst _ _ _ _ ih => rw [ih]; simp [T1.mv, SOper.moves, hst]
  | float hst _ _ ih => rw [ih]; simp [T1.mv, SOper.moves, hst]
  | moves hm _ _ _ _ _ ih => simp [ih, T1.mv, hm]

theorem DT.last (d : DT C N os l F h past rs fl T F1 hK Y rs' fl') : Y[(T.filter (·.mv)).length]? = some hK := by
  induction d with
  | nil => rfl
  | free hm _ _ ih => simpa [T1.mv, hm] using ih
  | still hst _ _ _ _ ih => simpa [T1.mv, SOper.moves, hst] using ih
  | float hst _ _ ih => simpa [T1.mv, SOper.moves, hst] using ih
  | moves hm _ _ _ _ _ ih => simpa [T1.mv, hm] using ih

/-- memory only grows in number along the course -/
theorem DT.next (d : DT C N os l F h past rs fl T F1 hK Y rs' fl') : ∀ y ∈ Y, h.next ≤ y.next := by
  induction d with
  | nil => intro y hy; simp at hy; subst hy; exact Nat.le_refl _
  | free _ _ _ ih | still _ _ _ _ _ ih => exact ih
  | float _ _ _ ih => intro y hy; have := ih y hy; rw [AH.alloc_next] at this; omega
  | moves _ _ _ hn _ _ ih =>
    intro y hy
    rcases List.mem_cons.1 hy with rfl | hy
    · exact Nat.le_refl _
    · exact Nat.le_trans hn (ih y hy)

/-- what was read ahead is the same at each later memory up to its bound -/
theorem DT.recs (d : DT C N os l F h past rs fl T F1 hK Y rs' fl') : ∀ x ∈ rs, ∀ i y, Y[i]? = some y → past.length + i ≤ x.hi → x.same y := by
  induction d with
  | nil hs =>
    intro x hx i y hy hle
    cases i with
    | zero => simp at hy; subst hy; exact hs x hx (by omega)
    | succ i => simp at hy
  | free _ _ _ ih => exact ih
  | still _ _ _ _ _ ih => exact fun x hx => ih x (List.mem_cons_of_mem _ hx)
  | float _ _ _ ih => exact ih
  | moves _ hs _ _ _ _ ih =>
    intro x hx i y hy hle
    cases i with
    | zero => simp at hy; subst hy; exact hs x hx (by omega)
    | succ i => simp at hy; exact ih x hx i y hy (by simp; omega)

theorem DT.reads (d : DT C N os l F h past rs fl T F1 hK Y rs' fl') : ∀ t ∈ T, ∀ r, t.rd = some r → r.id = t.s.id ∧ r.op = t.s.op ∧ r.F = t.F.keep t.s.uses ∧ t.val = some r.v ∧ t.s.op.still = true ∧ t.s.op.quiet = false ∧ gok (t.F.keep t.s.uses) t.s.guard = some true ∧
    ∀ j y, t.s.lo ≤ j → j ≤ t.s.hi → (past.reverse ++ Y)[j]? = some y → r.same y := by
  induction d with
  | nil => intro t ht; simp at ht
  | free _ _ _ ih =>
    intro t ht
    rcases List.mem_cons.1 ht with rfl | ht
    · intro r hr; simp at hr
    · exact ih t ht
  | float _ _ _ ih =>
    intro t ht
    rcases List.mem_cons.1 ht with rfl | ht
    · intro r hr; simp at hr
    · exact ih t ht
  | moves _ _ _ _ _ _ ih =>
    intro t ht
    rcases List.mem_cons.1 ht with rfl | ht
    · intro r hr; simp at hr
    · intro r hr
      obtain ⟨a1, a2, a3, a4, a5, a6, a7, a8⟩ := ih t ht r hr
      refine ⟨a1, a2, a3, a4, a5, a6, a7, fun j y h1 h2 h3 => a8 j y h1 h2 ?_⟩
      simpa using h3
  | still hst hq hg hp d ih =>
    rename_i s l F F1 h hK past Y rs rs' fl fl' v T
    intro t ht
    rcases List.mem_cons.1 ht with rfl | ht
    · intro r hr
      simp only [Option.some.injEq] at hr
      subst hr
      refine ⟨rfl, rfl, rfl, rfl, hst, hq, hg, fun j y h1 h2 h3 => ?_⟩
      rw [List.getElem?_append] at h3
      split at h3
      · rename_i hlt
        simp at hlt
        refine hp y ?_
        rw [List.getElem?_reverse (by simpa using hlt)] at h3
        refine List.mem_of_getElem? (i := past.length - 1 - j) ?_
        rw [List.getElem?_take, if_pos (by simp only at h1; omega)]
        exact h3
      · rename_i hlt
        simp at hlt h3
        exact d.recs _ (List.mem_cons_self ..) _ y h3 (by simp only at h2; simp; omega)
    · exact ih t ht

/-- the blocks made ahead, along the course -/
theorem DT.made (d : DT C N os l F h past rs fl T F1 hK Y rs' fl') : ∀ x ∈ fl, x.2.1 < h.next → (∀ y, Y[0]? = some y → y.get x.2.1 = h.get x.2.1) ∧ ∀ A t B, T = A ++ t :: B → t.mv = true → t.s.dep.contains x.1 = true ∨ ∀ y, (past.reverse ++ Y)[t.k + 1]? = some y → y.get x.2.1 = x.2.2 := by
  induction d with
  | nil => intro x _ _; exact ⟨fun y hy => by simp at hy; subst hy; rfl, fun A t B e => by cases A <;> simp at e⟩
  | free hm _ _ ih =>
    intro x hx hlt
    obtain ⟨i1, i2⟩ := ih x hx hlt
    refine ⟨i1, fun A t B e hmv => ?_⟩
    cases A with
    | nil => simp only [List.nil_append, List.cons.injEq] at e; obtain ⟨rfl, _⟩ := e; simp [T1.mv, hm] at hmv
    | cons z A => simp only [List.cons_append, List.cons.injEq] at e; exact i2 A t B e.2 hmv
  | still hst _ _ _ _ ih =>
    intro x hx hlt
    obtain ⟨i1, i2⟩ := ih x hx hlt
    refine ⟨i1, fun A t B e hmv => ?_⟩
    cases A with
    | nil => simp only [List.nil_append, List.cons.injEq] at e; obtain ⟨rfl, _⟩ := e; simp [T1.mv, SOper.moves, hst] at hmv
    | cons z A => simp only [List.cons_append, List.cons.injEq] at e; exact i2 A t B e.2 hmv
  | float hst _ _ ih =>
    rename_i s l F F1 h hK past Y rs rs' fl fl' v blk T
    intro x hx hlt
    obtain ⟨i1, i2⟩ := ih x (List.mem_cons_of_mem _ hx) (by rw [AH.alloc_next]; omega)
    refine ⟨fun y hy => by rw [i1 y hy, AH.alloc_get, if_neg (by omega)], fun A t B e hmv => ?_⟩
    cases A with
    | nil => simp only [List.nil_append, List.cons.injEq] at e; obtain ⟨rfl, _⟩ := e; simp [T1.mv, SOper.moves, hst] at hmv
    | cons z A => simp only [List.cons_append, List.cons.injEq] at e; exact i2 A t B e.2 hmv
  | moves hm _ _ hn hu d ih =>
    rename_i s l F F1 h h1 hK past Yy rs rs' fl fl' val T
    intro x hx hlt
    obtain ⟨i1, i2⟩ := ih x hx (by omega)
    refine ⟨fun y hy => by simp at hy; subst hy; rfl, fun A t B e hmv => ?_⟩
    cases A with
    | nil =>
      simp only [List.nil_append, List.cons.injEq] at e; obtain ⟨rfl, _⟩ := e
      rcases hu x hx with h0 | h0
      · exact .inl h0
      · refine .inr fun y hy => ?_
        have h7 := i1 y (by
          rw [List.getElem?_append_right (by simp)] at hy
          simpa using hy)
        rw [h7, h0]
    | cons z A =>
      simp only [List.cons_append, List.cons.injEq] at e
      rcases i2 A t B e.2 hmv with h0 | h0
      · exact .inl h0
      · exact .inr fun y hy => h0 y (by simpa using hy)
end
end Go.Jq
