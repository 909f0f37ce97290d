/- Runs, told backwards: codes, rows, calls. -/
import Derived.Test.YtmaemogjdnlcoaaDoorM20
set_option linter.unusedSimpArgs false
set_option linter.unusedVariables false
namespace Go.Jq

theorem still_out {op : SOp} {ρ : SOpd → Option Value} {h : AH} {o : Out} (hs : op.still = true) (H : sop op ρ h = some o) : ∃ v, o = .val v h := by
  cases op <;> simp [SOp.still, SOp.quiet] at hs <;> simp only [sop] at H <;> (repeat' split at H) <;> first | (simp only [Option.some.injEq] at H; exact ⟨_, H.symm⟩) | simp at H
theorem float_out {op : SOp} {ρ : SOpd → Option Value} {h : AH} {o : Out} (hs : op.float = true) (H : sop op ρ h = some o) : ∃ v blk, o = .val v (h.alloc blk) := by
  cases op <;> simp [SOp.float] at hs <;> simp only [sop] at H <;> (repeat' split at H) <;> first | (simp only [Option.some.injEq] at H; exact ⟨_, _, H.symm⟩) | simp at H

section
variable (G : Nat → SFunc)

/-- A call comes back, and then R. -/
def WC (f : Nat) (args : List Value) (h : AH) (R : Value → AH → Prop) : Prop := ∃ v h1, Run G (.call f args h) (.val v h1) ∧ R v h1

def wguard (t : Option Value) (w : Bool) (k : Bool → Prop) : Prop := match t with | some (.bool b) => k (b == w) | some (.tuple _) => k false | _ => False
/-- of a guard -/
def gd (F : Fr) (g : Option (Nat × Bool)) (k : Bool → Prop) : Prop := match g with | none => k true | some (t, w) => wguard (F.get t) w k
def wcond (t : Option Value) (k : Bool → Prop) : Prop := match t with | some (.bool b) => k b | _ => False
def pick2 (t : Bool) (a b : Prop) : Prop := match t with | true => a | false => b

def wO : List SOper → Fr → AH → (Fr → AH → Prop) → Prop
  | [], F, h, K => K F h
  | o :: l, F, h, K => gd F o.guard fun t => pick2 t
      (wop o.op F.val h (fun v h1 => wO l (F.put o.dst v) h1 K) (fun h1 => wO l (F.unput o.dst) h1 K) (fun f args => WC G f args h fun v h1 => wO l (F.put o.dst v) h1 K))
      (wO l (F.undo o.dst) h K)

def wQ : List SOper → Fr → AH → (Fr → AH → Prop) → Prop
  | [], F, h, K => K F h
  | o :: l, F, h, K => gd (F.keep o.uses) o.guard fun t => pick2 t
      (wop o.op (F.keep o.uses).val h (fun v h1 => h1 = h ∧ wQ l (F.put o.dst v) h K) (fun _ => False) (fun _ _ => False))
      (wQ l (F.unput o.dst) h K)

def recsOk (n : Nat) (h : AH) : List Rec → Prop
  | [] => True
  | r :: l => (n ≤ r.hi → r.same h) ∧ recsOk n h l
def stillOk (r : Rec) : List AH → Prop
  | [] => True
  | x :: l => r.same x ∧ stillOk r l
def flOk (dep : List Nat) (h : AH) : List (Nat × Nat × ABlk) → Prop
  | [] => True
  | x :: l => (dep.contains x.1 = true ∨ h.get x.2.1 = x.2.2) ∧ flOk dep h l
def getss (o : Option (List St)) (K : List St → Prop) : Prop := match o with | some ss => K ss | none => False

def wD (batch : List SOper) : List SOper → Fr → AH → List AH → List Rec → List (Nat × Nat × ABlk) → (Fr → AH → Prop) → Prop
  | [], F, h, past, rs, fl, K => recsOk past.length h rs ∧ getss (stsOf F batch) fun ss => stsOk h ss ∧ crossOk rs fl batch ss ∧ K F (ss.foldl St.put h)
  | o :: l, F, h, past, rs, fl, K =>
    match o.moves with
    | true => o.guard = none ∧ recsOk past.length h rs ∧ wop o.op (F.keep o.uses).val h
        (fun v h1 => flOk o.dep h1 fl ∧ wD batch l (F.put o.dst v) h1 (h :: past) rs fl K)
        (fun h1 => flOk o.dep h1 fl ∧ wD batch l (F.unput o.dst) h1 (h :: past) rs fl K)
        (fun f args => WC G f args h fun v h1 => flOk o.dep h1 fl ∧ wD batch l (F.put o.dst v) h1 (h :: past) rs fl K)
    | false => gd (F.keep o.uses) o.guard fun t => pick2 t
        (wop o.op (F.keep o.uses).val h
          (fun v h1 => match o.op.float, o.op.quiet with
            | true, _ => wD batch l (F.put o.dst v) h1 past rs ((o.id, h.next, h1.get h.next) :: fl) K
            | false, true => h1 = h ∧ wD batch l (F.put o.dst v) h past rs fl K
            | false, false => h1 = h ∧ stillOk ⟨o.id, o.op, F.keep o.uses, v, o.hi⟩ (past.take (past.length - o.lo)) ∧ wD batch l (F.put o.dst v) h past (⟨o.id, o.op, F.keep o.uses, v, o.hi⟩ :: rs) fl K)
          (fun _ => False) (fun _ _ => False))
        (wD batch l (F.unput o.dst) h past rs fl K)

def thenK (b : Fr → AH → (SExit → Fr → AH → Prop) → Prop) (R : SExit → Fr → AH → Prop) : SExit → Fr → AH → Prop
  | .normal, F, h => b F h R
  | .exit id, F, h => R (.exit id) F h
  | .ret, F, h => R .ret F h
def blockK (id : Nat) (R : SExit → Fr → AH → Prop) : SExit → Fr → AH → Prop
  | .normal, F, h => R .normal F h
  | .exit i, F, h => R (if i = id then .normal else .exit i) F h
  | .ret, F, h => R .ret F h

def W : SCode → Fr → AH → (SExit → Fr → AH → Prop) → Prop
  | .skip, F, h, R => R .normal F h
  | .reg live l, F, h, R => wO G l F h fun F h => R .normal (F.keep live) h
  | .qreg live l, F, h, R => wQ l F h fun F h => R .normal (F.keep live) h
  | .dreg live l b, F, h, R => wD G b l F h [] [] [] fun F h => R .normal (F.keep live) h
  | .seq a b, F, h, R => W a F h (thenK (W b) R)
  | .cond c a b, F, h, R => wcond (F.val c) fun t => pick2 t (W a F h R) (W b F h R)
  | .block id a, F, h, R => W a F h (blockK id R)
  | .loop live a, F, h, R => ∃ e F1 h1, Run G (.code (.loop live a) F h) (.code e F1 h1) ∧ R e F1 h1
  | .exit id, F, h, R => R (.exit id) F h
  | .ret, F, h, R => R .ret F h
  | .native _, _, _, _ => False
end

variable {G : Nat → SFunc}

theorem wguard_inv {t : Option Value} {w : Bool} {k : Bool → Prop} (h : wguard t w k) : (∃ b, t = some (.bool b) ∧ k (b == w)) ∨ ∃ vs, t = some (.tuple vs) ∧ k false := by
  unfold wguard at h; split at h
  · exact .inl ⟨_, rfl, h⟩
  · exact .inr ⟨_, rfl, h⟩
  · exact h.elim
theorem wcond_inv {t : Option Value} {k : Bool → Prop} (h : wcond t k) : ∃ b, t = some (.bool b) ∧ k b := by
  unfold wcond at h; split at h
  · exact ⟨_, rfl, h⟩
  · exact h.elim
theorem gd_inv {F : Fr} {g : Option (Nat × Bool)} {k : Bool → Prop} (h : gd F g k) : ∃ b, gok F g = some b ∧ k b := by
  unfold gd at h; split at h
  · exact ⟨true, rfl, h⟩
  · rcases wguard_inv h with ⟨b, h1, h2⟩ | ⟨vs, h1, h2⟩
    · exact ⟨_, by simp [gok, h1], h2⟩
    · exact ⟨_, by simp [gok, h1], h2⟩
theorem recsOk_all {n : Nat} {h : AH} {rs : List Rec} (H : recsOk n h rs) : ∀ x ∈ rs, n ≤ x.hi → x.same h := by
  induction rs with
  | nil => simp
  | cons r l ih =>
    intro x hx
    rcases List.mem_cons.1 hx with rfl | hx
    · exact H.1
    · exact ih H.2 x hx
theorem stillOk_all {r : Rec} {l : List AH} (H : stillOk r l) : ∀ x ∈ l, r.same x := by
  induction l with
  | nil => simp
  | cons y l ih =>
    intro x hx
    rcases List.mem_cons.1 hx with rfl | hx
    · exact H.1
    · exact ih H.2 x hx
theorem flOk_all {dep : List Nat} {h : AH} {fl : List (Nat × Nat × ABlk)} (H : flOk dep h fl) : ∀ x ∈ fl, dep.contains x.1 = true ∨ h.get x.2.1 = x.2.2 := by
  induction fl with
  | nil => simp
  | cons y l ih =>
    intro x hx
    rcases List.mem_cons.1 hx with rfl | hx
    · exact H.1
    · exact ih H.2 x hx

theorem wO_run {l : List SOper} {F : Fr} {h : AH} {K : Fr → AH → Prop} (H : wO G l F h K) : ∃ F1 h1, Run G (.ops l F h) (.ops F1 h1) ∧ K F1 h1 := by
  induction l generalizing F h with
  | nil => exact ⟨F, h, .nil, H⟩
  | cons o l ih =>
    obtain ⟨t, g, H⟩ := gd_inv H
    cases t with
    | false => obtain ⟨F1, h1, r, k⟩ := ih H; exact ⟨F1, h1, .off g r, k⟩
    | true =>
      obtain ⟨u, e, H⟩ := wop_sop H
      cases u with
      | val v h' => obtain ⟨F1, h1, r, k⟩ := ih H; exact ⟨F1, h1, .val g e r, k⟩
      | skip h' => obtain ⟨F1, h1, r, k⟩ := ih H; exact ⟨F1, h1, .stp g e r, k⟩
      | call f args => obtain ⟨v, h', c, H⟩ := H; obtain ⟨F1, h1, r, k⟩ := ih H; exact ⟨F1, h1, .call g e c r, k⟩

theorem wQ_run {l : List SOper} {F : Fr} {h : AH} {K : Fr → AH → Prop} (H : wQ l F h K) : ∃ F1 h1, Run G (.qops l F h) (.ops F1 h1) ∧ K F1 h1 := by
  induction l generalizing F h with
  | nil => exact ⟨F, h, .qnil, H⟩
  | cons o l ih =>
    obtain ⟨t, g, H⟩ := gd_inv H
    cases t with
    | false => obtain ⟨F1, h1, r, k⟩ := ih H; exact ⟨F1, h1, .qoff g r, k⟩
    | true =>
      obtain ⟨u, e, H⟩ := wop_sop H
      cases u with
      | val v h' => obtain ⟨rfl, H⟩ := H; obtain ⟨F1, h1, r, k⟩ := ih H; exact ⟨F1, h1, .qval g e r, k⟩
      | skip h' => exact H.elim
      | call f args => exact H.elim

theorem wD_run {batch l : List SOper} {F : Fr} {h : AH} {past : List AH} {rs : List Rec} {fl : List (Nat × Nat × ABlk)} {K : Fr → AH → Prop} (H : wD G batch l F h past rs fl K) :
    ∃ F1 h1, Run G (.dops l batch F h past rs fl) (.ops F1 h1) ∧ K F1 h1 := by
  induction l generalizing F h past rs fl with
  | nil =>
    obtain ⟨H1, H2⟩ := H
    unfold getss at H2
    split at H2
    · rename_i ss hss
      exact ⟨_, _, .dnil (recsOk_all H1) hss H2.1 H2.2.1, H2.2.2⟩
    · exact H2.elim
  | cons o l ih =>
    unfold wD at H
    split at H
    · rename_i hm
      obtain ⟨g0, H1, H⟩ := H
      have g : gok (F.keep o.uses) o.guard = some true := by rw [g0]; rfl
      obtain ⟨u, e, H⟩ := wop_sop H
      cases u with
      | val v h' => obtain ⟨H2, H⟩ := H; obtain ⟨F1, h1, r, k⟩ := ih H; exact ⟨F1, h1, .dval hm g (recsOk_all H1) e (flOk_all H2) r, k⟩
      | skip h' => obtain ⟨H2, H⟩ := H; obtain ⟨F1, h1, r, k⟩ := ih H; exact ⟨F1, h1, .dstp hm g (recsOk_all H1) e (flOk_all H2) r, k⟩
      | call f args => obtain ⟨v, h', c, H2, H⟩ := H; obtain ⟨F1, h1, r, k⟩ := ih H; exact ⟨F1, h1, .dcall hm g (recsOk_all H1) e c (flOk_all H2) r, k⟩
    · rename_i hm
      obtain ⟨t, g, H⟩ := gd_inv H
      cases t with
      | false => obtain ⟨F1, h1, r, k⟩ := ih H; exact ⟨F1, h1, .doff hm g r, k⟩
      | true =>
        obtain ⟨u, e, H⟩ := wop_sop H
        cases u with
        | skip h' => exact H.elim
        | call f args => exact H.elim
        | val v h' =>
          simp only [outK] at H
          split at H
          · rename_i _ hf
            obtain ⟨v', blk, e'⟩ := float_out hf e
            simp only [Out.val.injEq] at e'
            obtain ⟨rfl, rfl⟩ := e'
            simp only [AH.alloc_get, if_true] at H
            obtain ⟨F1, h1, r, k⟩ := ih H
            exact ⟨F1, h1, .dfloat hf g e r, k⟩
          · rename_i hf hq
            obtain ⟨rfl, H⟩ := H
            obtain ⟨F1, h1, r, k⟩ := ih H
            exact ⟨F1, h1, .dquiet hq g e r, k⟩
          · rename_i hf hq
            obtain ⟨rfl, H1, H⟩ := H
            obtain ⟨F1, h1, r, k⟩ := ih H
            have hst : o.op.still = true := by simpa [SOper.moves, hf] using hm
            exact ⟨F1, h1, .dstill hst hq g e (stillOk_all H1) r, k⟩

theorem W_run {c : SCode} {F : Fr} {h : AH} {R : SExit → Fr → AH → Prop} (H : W G c F h R) : ∃ e F1 h1, Run G (.code c F h) (.code e F1 h1) ∧ R e F1 h1 := by
  induction c generalizing F h R with
  | skip => exact ⟨_, _, _, .skip, H⟩
  | reg live l => obtain ⟨F1, h1, r, k⟩ := wO_run H; exact ⟨_, _, _, .reg r, k⟩
  | qreg live l => obtain ⟨F1, h1, r, k⟩ := wQ_run (G := G) H; exact ⟨_, _, _, .qreg r, k⟩
  | dreg live l b => obtain ⟨F1, h1, r, k⟩ := wD_run H; exact ⟨_, _, _, .dreg r, k⟩
  | seq a b ia ib =>
    obtain ⟨e, F1, h1, r, k⟩ := ia H
    cases e with
    | normal => obtain ⟨e2, F2, h2, r2, k2⟩ := ib k; exact ⟨_, _, _, .seqN r r2, k2⟩
    | exit id => exact ⟨_, _, _, .seqE r (by simp), k⟩
    | ret => exact ⟨_, _, _, .seqE r (by simp), k⟩
  | cond c a b ia ib =>
    obtain ⟨t, e, H⟩ := wcond_inv H
    cases t with
    | true => obtain ⟨e2, F2, h2, r2, k2⟩ := ia H; exact ⟨_, _, _, .cond e r2, k2⟩
    | false => obtain ⟨e2, F2, h2, r2, k2⟩ := ib H; exact ⟨_, _, _, .cond e r2, k2⟩
  | block id a ia =>
    obtain ⟨e, F1, h1, r, k⟩ := ia H
    refine ⟨_, _, _, .block r, ?_⟩
    cases e with
    | normal => exact k
    | ret => exact k
    | exit i => simp only [blockK] at k; by_cases hi : i = id <;> simp [hi] at k ⊢ <;> exact k
  | loop live a ia => exact H
  | exit id => exact ⟨_, _, _, .exit, H⟩
  | ret => exact ⟨_, _, _, .ret, H⟩
  | native k => exact H.elim

theorem WC_native {f k : Nat} {args : List Value} {h : AH} {v : Value} {R : Value → AH → Prop} (hb : (G f).body = .native k) (hv : natOf k h args = some v) (H : R v h) : WC G f args h R := ⟨v, h, .native hb hv, H⟩

theorem WC.mono {f : Nat} {args : List Value} {h : AH} {R R' : Value → AH → Prop} (H : WC G f args h R) (k : ∀ v h1, R v h1 → R' v h1) : WC G f args h R' := by
  obtain ⟨v, h1, r, q⟩ := H; exact ⟨v, h1, r, k _ _ q⟩

/-! The same, with names for what comes behind: so that 'simp' looks at nothing ahead of its time. -/
section
variable (G)
def keepK (live : List Nat) (R : SExit → Fr → AH → Prop) (F : Fr) (h : AH) : Prop := R .normal (F.keep live) h
def putK (l : List SOper) (d : Option Nat) (F : Fr) (K : Fr → AH → Prop) (v : Value) (h : AH) : Prop := wO G l (F.put d v) h K
def skipK (l : List SOper) (d : Option Nat) (F : Fr) (K : Fr → AH → Prop) (h : AH) : Prop := wO G l (F.unput d) h K
def callK (h : AH) (k : Value → AH → Prop) (f : Nat) (args : List Value) : Prop := WC G f args h k
def guardK (op : SOp) (l : List SOper) (d : Option Nat) (F : Fr) (h : AH) (K : Fr → AH → Prop) (t : Bool) : Prop :=
  pick2 t (wop op F.val h (putK G l d F K) (skipK G l d F K) (callK G h (putK G l d F K))) (wO G l (F.undo d) h K)
def putQ (l : List SOper) (d : Option Nat) (F : Fr) (h : AH) (K : Fr → AH → Prop) (v : Value) (h1 : AH) : Prop := h1 = h ∧ wQ l (F.put d v) h K
def noK (_ : AH) : Prop := False
def noC (_ : Nat) (_ : List Value) : Prop := False
def guardQ (op : SOp) (u : List Nat) (l : List SOper) (d : Option Nat) (F : Fr) (h : AH) (K : Fr → AH → Prop) (t : Bool) : Prop :=
  pick2 t (wop op (F.keep u).val h (putQ l d F h K) noK noC) (wQ l (F.unput d) h K)
def branchK (a b : SCode) (F : Fr) (h : AH) (R : SExit → Fr → AH → Prop) (t : Bool) : Prop := pick2 t (W G a F h R) (W G b F h R)
def putM (batch l : List SOper) (d : Option Nat) (dep : List Nat) (F : Fr) (h : AH) (past : List AH) (rs : List Rec) (fl : List (Nat × Nat × ABlk)) (K : Fr → AH → Prop) (v : Value) (h1 : AH) : Prop :=
  flOk dep h1 fl ∧ wD G batch l (F.put d v) h1 (h :: past) rs fl K
def skipM (batch l : List SOper) (d : Option Nat) (dep : List Nat) (F : Fr) (h : AH) (past : List AH) (rs : List Rec) (fl : List (Nat × Nat × ABlk)) (K : Fr → AH → Prop) (h1 : AH) : Prop :=
  flOk dep h1 fl ∧ wD G batch l (F.unput d) h1 (h :: past) rs fl K
def putF (batch l : List SOper) (d : Option Nat) (id : Nat) (F : Fr) (h : AH) (past : List AH) (rs : List Rec) (fl : List (Nat × Nat × ABlk)) (K : Fr → AH → Prop) (v : Value) (h1 : AH) : Prop :=
  wD G batch l (F.put d v) h1 past rs ((id, h.next, h1.get h.next) :: fl) K
def putS (batch l : List SOper) (d : Option Nat) (F : Fr) (h : AH) (past : List AH) (rs : List Rec) (fl : List (Nat × Nat × ABlk)) (K : Fr → AH → Prop) (v : Value) (h1 : AH) : Prop :=
  h1 = h ∧ wD G batch l (F.put d v) h past rs fl K
def putL (op : SOp) (u : List Nat) (id lo hi : Nat) (batch l : List SOper) (d : Option Nat) (F : Fr) (h : AH) (past : List AH) (rs : List Rec) (fl : List (Nat × Nat × ABlk)) (K : Fr → AH → Prop) (v : Value) (h1 : AH) : Prop :=
  h1 = h ∧ stillOk ⟨id, op, F.keep u, v, hi⟩ (past.take (past.length - lo)) ∧ wD G batch l (F.put d v) h past (⟨id, op, F.keep u, v, hi⟩ :: rs) fl K
def putD (op : SOp) (u : List Nat) (id lo hi : Nat) (batch l : List SOper) (d : Option Nat) (F : Fr) (h : AH) (past : List AH) (rs : List Rec) (fl : List (Nat × Nat × ABlk)) (K : Fr → AH → Prop) : Value → AH → Prop :=
  match op.float, op.quiet with
  | true, _ => putF G batch l d id F h past rs fl K
  | false, true => putS G batch l d F h past rs fl K
  | false, false => putL G op u id lo hi batch l d F h past rs fl K
def guardD (op : SOp) (u : List Nat) (id lo hi : Nat) (batch l : List SOper) (d : Option Nat) (F : Fr) (h : AH) (past : List AH) (rs : List Rec) (fl : List (Nat × Nat × ABlk)) (K : Fr → AH → Prop) (t : Bool) : Prop :=
  pick2 t (wop op (F.keep u).val h (putD G op u id lo hi batch l d F h past rs fl K) noK noC) (wD G batch l (F.unput d) h past rs fl K)
def endK (batch : List SOper) (F : Fr) (h : AH) (rs : List Rec) (fl : List (Nat × Nat × ABlk)) (K : Fr → AH → Prop) (ss : List St) : Prop := stsOk h ss ∧ crossOk rs fl batch ss ∧ K F (ss.foldl St.put h)
end
def loopK (J : Fr → AH → Prop) (R : SExit → Fr → AH → Prop) : SExit → Fr → AH → Prop
  | .normal, F, h => J F h
  | .exit i, F, h => R (.exit i) F h
  | .ret, F, h => R .ret F h
def getr (o : Option (List Value)) (K : Value → Prop) : Prop := match o with | some vs => K (oneOf vs) | none => False
def retK (rs : List SRes) (R : Value → AH → Prop) : SExit → Fr → AH → Prop
  | .exit _, _, _ => False
  | .normal, F, h => getr (resultsOf F h rs) (R · h)
  | .ret, F, h => getr (resultsOf F h rs) (R · h)

section
variable {F : Fr} {h h1 : AH} {R : SExit → Fr → AH → Prop} {K : Fr → AH → Prop} {l batch : List SOper} {d : Option Nat} {op : SOp} {u p dep live : List Nat} {id lo hi t : Nat} {w : Bool} {v : Value}
  {past : List AH} {rs : List Rec} {fl : List (Nat × Nat × ABlk)} {a b : SCode} {c : SOpd}
@[simp] theorem W_skip : W G .skip F h R = R .normal F h := rfl
@[simp] theorem W_exit : W G (.exit id) F h R = R (.exit id) F h := rfl
@[simp] theorem W_ret : W G .ret F h R = R .ret F h := rfl
@[simp] theorem W_reg : W G (.reg live l) F h R = wO G l F h (keepK live R) := rfl
@[simp] theorem W_qreg : W G (.qreg live l) F h R = wQ l F h (keepK live R) := rfl
@[simp] theorem W_dreg : W G (.dreg live l batch) F h R = wD G batch l F h [] [] [] (keepK live R) := rfl
@[simp] theorem W_seq : W G (.seq a b) F h R = W G a F h (thenK (W G b) R) := rfl
@[simp] theorem W_block : W G (.block id a) F h R = W G a F h (blockK id R) := rfl
@[simp] theorem W_cond : W G (.cond c a b) F h R = wcond (F.val c) (branchK G a b F h R) := rfl
@[simp] theorem keepK_eq : keepK live R F h = R .normal (F.keep live) h := rfl
@[simp] theorem thenK_n {B : Fr → AH → (SExit → Fr → AH → Prop) → Prop} : thenK B R .normal F h = B F h R := rfl
@[simp] theorem thenK_e {B : Fr → AH → (SExit → Fr → AH → Prop) → Prop} : thenK B R (.exit id) F h = R (.exit id) F h := rfl
@[simp] theorem thenK_r {B : Fr → AH → (SExit → Fr → AH → Prop) → Prop} : thenK B R .ret F h = R .ret F h := rfl
@[simp] theorem blockK_n : blockK id R .normal F h = R .normal F h := rfl
@[simp] theorem blockK_e {i : Nat} : blockK id R (.exit i) F h = R (if i = id then .normal else .exit i) F h := rfl
@[simp] theorem blockK_r : blockK id R .ret F h = R .ret F h := rfl
@[simp] theorem wguard_b {k : Bool → Prop} {x : Bool} : wguard (some (.bool x)) w k = k (x == w) := rfl
@[simp] theorem wguard_u {k : Bool → Prop} {vs : Array Value} : wguard (some (.tuple vs)) w k = k false := rfl
@[simp] theorem wcond_b {k : Bool → Prop} {x : Bool} : wcond (some (.bool x)) k = k x := rfl
@[simp] theorem branchK_t : branchK G a b F h R true = W G a F h R := rfl
@[simp] theorem branchK_f : branchK G a b F h R false = W G b F h R := rfl
@[simp] theorem wO_nil : wO G [] F h K = K F h := rfl
@[simp] theorem wO_cons : wO G (⟨d, op, none, u, id, p, lo, hi, dep⟩ :: l) F h K = wop op F.val h (putK G l d F K) (skipK G l d F K) (callK G h (putK G l d F K)) := rfl
@[simp] theorem wO_consg : wO G (⟨d, op, some (t, w), u, id, p, lo, hi, dep⟩ :: l) F h K = wguard (F.get t) w (guardK G op l d F h K) := rfl
@[simp] theorem guardK_t : guardK G op l d F h K true = wop op F.val h (putK G l d F K) (skipK G l d F K) (callK G h (putK G l d F K)) := rfl
@[simp] theorem guardK_f : guardK G op l d F h K false = wO G l (F.undo d) h K := rfl
@[simp] theorem putK_eq : putK G l d F K v h = wO G l (F.put d v) h K := rfl
@[simp] theorem skipK_eq : skipK G l d F K h = wO G l (F.unput d) h K := rfl
@[simp] theorem callK_eq {k : Value → AH → Prop} {f : Nat} {args : List Value} : callK G h k f args = WC G f args h k := rfl
@[simp] theorem wQ_nil : wQ [] F h K = K F h := rfl
@[simp] theorem wQ_cons : wQ (⟨d, op, none, u, id, p, lo, hi, dep⟩ :: l) F h K = wop op (F.keep u).val h (putQ l d F h K) noK noC := rfl
@[simp] theorem wQ_consg : wQ (⟨d, op, some (t, w), u, id, p, lo, hi, dep⟩ :: l) F h K = wguard ((F.keep u).get t) w (guardQ op u l d F h K) := rfl
@[simp] theorem guardQ_t : guardQ op u l d F h K true = wop op (F.keep u).val h (putQ l d F h K) noK noC := rfl
@[simp] theorem guardQ_f : guardQ op u l d F h K false = wQ l (F.unput d) h K := rfl
@[simp] theorem putQ_eq : putQ l d F h K v h1 = (h1 = h ∧ wQ l (F.put d v) h K) := rfl
@[simp] theorem noK_eq : noK h = False := rfl
@[simp] theorem noC_eq {f : Nat} {args : List Value} : noC f args = False := rfl
@[simp] theorem wD_nil : wD G batch [] F h past rs fl K = (recsOk past.length h rs ∧ getss (stsOf F batch) (endK batch F h rs fl K)) := rfl
theorem wD_move (hm : SOp.still op = false ∧ SOp.float op = false) : wD G batch (⟨d, op, none, u, id, p, lo, hi, dep⟩ :: l) F h past rs fl K =
    (recsOk past.length h rs ∧ wop op (F.keep u).val h (putM G batch l d dep F h past rs fl K) (skipM G batch l d dep F h past rs fl K) (callK G h (putM G batch l d dep F h past rs fl K))) := by
  simp only [wD, SOper.moves, hm.1, hm.2, Bool.not_false, Bool.and_self, true_and]
  rfl
theorem wD_keep (hm : (SOp.still op || SOp.float op) = true) : wD G batch (⟨d, op, none, u, id, p, lo, hi, dep⟩ :: l) F h past rs fl K =
    wop op (F.keep u).val h (putD G op u id lo hi batch l d F h past rs fl K) noK noC := by
  have : (!op.still && !op.float) = false := by cases h1 : op.still <;> cases h2 : op.float <;> simp [h1, h2] at hm ⊢
  simp only [wD, SOper.moves, this, gd, pick2]
  congr 1
  funext v h'
  unfold putD
  cases op.float <;> cases op.quiet <;> rfl
theorem wD_keepg (hm : (SOp.still op || SOp.float op) = true) : wD G batch (⟨d, op, some (t, w), u, id, p, lo, hi, dep⟩ :: l) F h past rs fl K =
    wguard ((F.keep u).get t) w (guardD G op u id lo hi batch l d F h past rs fl K) := by
  have : (!op.still && !op.float) = false := by cases h1 : op.still <;> cases h2 : op.float <;> simp [h1, h2] at hm ⊢
  simp only [wD, SOper.moves, this, gd]
  congr 1
  funext t
  unfold guardD
  congr 1
  congr 1
  funext v h'
  unfold putD
  cases op.float <;> cases op.quiet <;> rfl
@[simp] theorem guardD_t : guardD G op u id lo hi batch l d F h past rs fl K true = wop op (F.keep u).val h (putD G op u id lo hi batch l d F h past rs fl K) noK noC := rfl
@[simp] theorem guardD_f : guardD G op u id lo hi batch l d F h past rs fl K false = wD G batch l (F.unput d) h past rs fl K := rfl
@[simp] theorem putM_eq : putM G batch l d dep F h past rs fl K v h1 = (flOk dep h1 fl ∧ wD G batch l (F.put d v) h1 (h :: past) rs fl K) := rfl
@[simp] theorem skipM_eq : skipM G batch l d dep F h past rs fl K h1 = (flOk dep h1 fl ∧ wD G batch l (F.unput d) h1 (h :: past) rs fl K) := rfl
@[simp] theorem putF_eq : putF G batch l d id F h past rs fl K v h1 = wD G batch l (F.put d v) h1 past rs ((id, h.next, h1.get h.next) :: fl) K := rfl
@[simp] theorem putS_eq : putS G batch l d F h past rs fl K v h1 = (h1 = h ∧ wD G batch l (F.put d v) h past rs fl K) := rfl
@[simp] theorem putL_eq : putL G op u id lo hi batch l d F h past rs fl K v h1 =
    (h1 = h ∧ stillOk ⟨id, op, F.keep u, v, hi⟩ (past.take (past.length - lo)) ∧ wD G batch l (F.put d v) h past (⟨id, op, F.keep u, v, hi⟩ :: rs) fl K) := rfl
@[simp] theorem recsOk_nil {n : Nat} : recsOk n h [] = True := rfl
@[simp] theorem recsOk_cons {n : Nat} {r : Rec} : recsOk n h (r :: rs) = ((n ≤ r.hi → r.same h) ∧ recsOk n h rs) := rfl
@[simp] theorem stillOk_nil {r : Rec} : stillOk r [] = True := rfl
@[simp] theorem stillOk_cons {r : Rec} : stillOk r (h :: past) = (r.same h ∧ stillOk r past) := rfl
@[simp] theorem flOk_nil : flOk dep h [] = True := rfl
@[simp] theorem flOk_cons {x : Nat × Nat × ABlk} : flOk dep h (x :: fl) = ((dep.contains x.1 = true ∨ h.get x.2.1 = x.2.2) ∧ flOk dep h fl) := rfl
@[simp] theorem getss_some {k : List St → Prop} {ss : List St} : getss (some ss) k = k ss := rfl
@[simp] theorem endK_eq {ss : List St} : endK batch F h rs fl K ss = (stsOk h ss ∧ crossOk rs fl batch ss ∧ K F (ss.foldl St.put h)) := rfl
@[simp] theorem loopK_n {J : Fr → AH → Prop} : loopK J R .normal F h = J F h := rfl
@[simp] theorem loopK_e {J : Fr → AH → Prop} : loopK J R (.exit id) F h = R (.exit id) F h := rfl
@[simp] theorem loopK_r {J : Fr → AH → Prop} : loopK J R .ret F h = R .ret F h := rfl
@[simp] theorem getr_some {k : Value → Prop} {vs : List Value} : getr (some vs) k = k (oneOf vs) := rfl
@[simp] theorem retK_n {q : List SRes} {k : Value → AH → Prop} : retK q k .normal F h = getr (resultsOf F h q) (k · h) := rfl
@[simp] theorem retK_r {q : List SRes} {k : Value → AH → Prop} : retK q k .ret F h = getr (resultsOf F h q) (k · h) := rfl
@[simp] theorem retK_e {q : List SRes} {k : Value → AH → Prop} : retK q k (.exit id) F h = False := rfl
end

/-- A row of rounds: 'I n' stands at the head with at most n rounds to go. -/
theorem W_loop {live : List Nat} {a : SCode} {F : Fr} {h : AH} {R : SExit → Fr → AH → Prop} (I : Nat → Fr → AH → Prop) (n : Nat) (H0 : I n F h)
    (Hs : ∀ n F h, I n F h → W G a (F.keep live) h (loopK (fun F1 h1 => ∃ m, m < n ∧ I m F1 h1) R)) : W G (.loop live a) F h R := by
  induction n using Nat.strongRecOn generalizing F h with
  | _ n ih =>
    obtain ⟨e, F1, h1, r, k⟩ := W_run (Hs n F h H0)
    cases e with
    | normal =>
      obtain ⟨m, hm, k⟩ := k
      obtain ⟨e2, F2, h2, r2, k2⟩ := ih m hm k
      exact ⟨_, _, _, .loopN r r2, k2⟩
    | exit id => exact ⟨_, _, _, .loopE r (by simp), k⟩
    | ret => exact ⟨_, _, _, .loopE r (by simp), k⟩

/-- a function's call, over its code -/
theorem WC_enter {f : Nat} {args : List Value} {h : AH} {R : Value → AH → Prop} {s : SFunc} (hs : G f = s) (hn : args.length = s.nargs)
    (H : W G s.body (Fr.from 0 args) h (retK s.results R)) : WC G f args h R := by
  obtain ⟨e, F1, h1, r, k⟩ := W_run H
  subst hs
  have he : e = .normal ∨ e = .ret := by cases e <;> simp at k ⊢
  have k' : getr (resultsOf F1 h1 (G f).results) (R · h1) := by rcases he with rfl | rfl <;> exact k
  unfold getr at k'
  split at k'
  · rename_i vs hv; exact ⟨_, _, .enter hn r he hv, k'⟩
  · exact k'.elim

end Go.Jq
