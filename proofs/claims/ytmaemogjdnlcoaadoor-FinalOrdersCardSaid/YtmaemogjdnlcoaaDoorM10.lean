/- Each operation beside its small form. -/
import Derived.Test.YtmaemogjdnlcoaaDoorM9
set_option linter.unusedSimpArgs false
set_option linter.unusedVariables false
namespace Go.Jq
open Go.RowKit

/-- What is known of an operation and its small form. -/
structure Good (C : Ctx) (γ : Gm) (o : Oper) (a : Act) (ρ : SOpd → Option Value) (so : SOp) : Prop where
  quiet : so.quiet = true → ∀ h out, sop so ρ h = some out → ∃ v, out = .val v h ∧ Qt C γ o a v
  float : so.float = true → ∀ h out, sop so ρ h = some out → ∃ v blk, out = .val v (h.alloc blk) ∧ Fl C γ o a v h.next blk
  still : so.still = true → ∀ h w, HR C γ h w → ∀ out, sop so ρ h = some out → ∃ v, out = .val v h ∧ ∃ v', (execOp a.eval o).run C.P w = .ok (.value v') w ∧ VR C γ v v'
  all : ∀ h w, HR C γ h w → ∀ out, sop so ρ h = some out → OutOk C γ h o a w out

section
variable {C : Ctx} {γ : Gm} {a : Act} {ρ : SOpd → Option Value} {o : Oper} {so : SOp}

theorem Good.ofQuiet (hf : so.float = false) (k : ∀ h out, sop so ρ h = some out → ∃ v, out = .val v h ∧ Qt C γ o a v) : Good C γ o a ρ so :=
  ⟨fun _ => k, fun h => by rw [hf] at h; simp at h, fun _ h w _ out hs => by
    obtain ⟨v, rfl, q⟩ := k h out hs
    obtain ⟨v', q1, q2⟩ := q w
    exact ⟨v, rfl, v', q1, q2⟩, fun h w H out hs => by
    obtain ⟨v, rfl, q⟩ := k h out hs
    obtain ⟨v', q1, q2⟩ := q w
    exact ⟨v', w, γ, q1, .same (Nat.le_refl _), H, q2⟩⟩

theorem Good.ofFloat (hq : so.quiet = false) (hst : so.still = false) (k : ∀ h out, sop so ρ h = some out → ∃ v blk, out = .val v (h.alloc blk) ∧ Fl C γ o a v h.next blk) : Good C γ o a ρ so :=
  ⟨fun h => by rw [hq] at h; simp at h, fun _ => k, fun h => by rw [hst] at h; simp at h, fun h w H out hs => by
    obtain ⟨v, blk, rfl, fl⟩ := k h out hs
    obtain ⟨v', obj, N, q1, q2⟩ := fl.go w H.size
    have hsub := gset_sub (x := (w.heap.size, 0, N)) (H.dom _ (Nat.le_refl _))
    obtain ⟨q3, q4⟩ := q2 _ hsub (by simp [gset])
    obtain ⟨_, q5⟩ := H.alloc q4
    exact ⟨v', _, _, q1, ⟨hsub, fun b hb => by unfold gset; rw [if_neg (by omega)], by rw [AH.alloc_next]; omega⟩, q5, q3⟩⟩

theorem Good.ofStill (hq : so.quiet = false) (hf : so.float = false) (k : ∀ h w, HR C γ h w → ∀ out, sop so ρ h = some out → ∃ v, out = .val v h ∧ ∃ v', (execOp a.eval o).run C.P w = .ok (.value v') w ∧ VR C γ v v') : Good C γ o a ρ so :=
  ⟨fun h => by rw [hq] at h; simp at h, fun h => by rw [hf] at h; simp at h, fun _ => k, fun h w H out hs => by
    obtain ⟨v, rfl, v', q1, q2⟩ := k h w H out hs
    exact ⟨v', w, γ, q1, .same (Nat.le_refl _), H, q2⟩⟩

theorem Good.ofAll (hq : so.quiet = false) (hf : so.float = false) (hst : so.still = false) (k : ∀ h w, HR C γ h w → ∀ out, sop so ρ h = some out → OutOk C γ h o a w out) : Good C γ o a ρ so :=
  ⟨fun h => by rw [hq] at h; simp at h, fun h => by rw [hf] at h; simp at h, fun h => by rw [hst] at h; simp at h, k⟩

theorem good_mov {x : Operand} {sx : SOpd} (ho : o.op = .move x ∨ o.op = .assign x) (hρ : OR C γ ρ a) (hx : cOpd C.ψ x = some sx) : Good C γ o a ρ (.mov sx) := by
  refine .ofQuiet rfl fun h out hs => ?_
  simp only [sop] at hs
  split at hs
  · rename_i v hv
    simp only [Option.some.injEq] at hs; subst hs
    exact ⟨v, rfl, q_mov ho hρ hx hv⟩
  · simp at hs

theorem good_pick {c x y : Operand} {sc sx sy : SOpd} (ho : o.op = .pick c x y) (hρ : OR C γ ρ a) (hc : cOpd C.ψ c = some sc) (hx : cOpd C.ψ x = some sx) (hy : cOpd C.ψ y = some sy) : Good C γ o a ρ (.pick sc sx sy) := by
  refine .ofQuiet rfl fun h out hs => ?_
  simp only [sop] at hs
  split at hs
  · rename_i t u v e1 e2 e3
    simp only [Option.some.injEq] at hs; subst hs
    refine ⟨_, rfl, q_pick ho (hρ c sc _ hc e1) ?_⟩
    cases t
    · exact hρ y sy _ hy e3
    · exact hρ x sx _ hx e2
  · rename_i u e1 e2 e3
    simp only [Option.some.injEq] at hs; subst hs
    exact ⟨_, rfl, q_pick ho (hρ c sc _ hc e1) (hρ x sx _ hx e2)⟩
  · rename_i u e1 e2 e3
    simp only [Option.some.injEq] at hs; subst hs
    exact ⟨_, rfl, q_pick ho (hρ c sc _ hc e1) (hρ y sy _ hy e3)⟩
  · simp at hs

theorem good_bin {op : BinOp} {t u : TypeId} {x y : Operand} {sx sy : SOpd} (ho : o.op = .binOp op t x y u) (hρ : OR C γ ρ a) (hx : cOpd C.ψ x = some sx) (hy : cOpd C.ψ y = some sy) : Good C γ o a ρ (.bin op sx sy) := by
  refine .ofQuiet rfl fun h out hs => ?_
  simp only [sop] at hs
  split at hs
  · rename_i p q e1 e2
    split at hs
    · rename_i v hv
      simp only [Option.some.injEq] at hs; subst hs
      exact ⟨v, rfl, q_bin ho (hρ x sx _ hx e1) (hρ y sy _ hy e2) hv⟩
    · simp at hs
  · simp at hs

theorem cOpd_nil {k : Nat} {y : Operand} (h : isNil k y = true) : ∃ n, a.eval y = n ∧ snil k n = some true := by
  unfold isNil at h
  split at h <;> first | exact ⟨_, rfl, rfl⟩ | simp at h

theorem good_cbin {op : BinOp} {t u : TypeId} {x y : Operand} (ho : o.op = .binOp op t x y u) (hρ : OR C γ ρ a) (hc : cBin C.P C.ψ op t x y = some so) : Good C γ o a ρ so := by
  simp only [cBin, bind, Option.bind_eq_some_iff] at hc
  obtain ⟨sx, hx, sy, hy, hc⟩ := hc
  have eqs : (op = .eql ∨ op = .neq) → (match C.P.underlying t with
      | some (.int _) | some .string => some (SOp.bin op sx sy)
      | some .bool => some (.eqB (isNeq op) sx sy)
      | some (.struct _) | some (.array ..) =>
        match kindsT C.P 20 t with
        | some ks => if C.P.eqGuardType C.P.depth t then none else some (.eqN (isNeq op) ks sx sy)
        | none => none
      | some d => match nilKind d with
        | some k => if isNil k y then some (.isnil k (isNeq op) sx) else if isNil k x then some (.isnil k (isNeq op) sy) else none
        | none => none
      | none => none) = some so → Good C γ o a ρ so := by
    intro hop hc
    have agg : ∀ d, C.P.underlying t = some d → aggD d = true → (match kindsT C.P 20 t with
        | some ks => if C.P.eqGuardType C.P.depth t then none else some (.eqN (isNeq op) ks sx sy)
        | none => none) = some so → Good C γ o a ρ so := by
      intro d hu ha hc
      split at hc
      · rename_i ks hk
        split at hc
        · simp at hc
        · rename_i hg
          simp only [Option.some.injEq] at hc; subst hc
          refine .ofQuiet rfl fun h out hs => ?_
          simp only [sop] at hs
          split at hs
          · rename_i p q e1 e2
            split at hs
            · rename_i r hr
              simp only [Option.some.injEq] at hs; subst hs
              exact ⟨_, rfl, q_eqN ho hop hu ha hk (by simpa using hg) (hρ x sx _ hx e1) (hρ y sy _ hy e2) hr⟩
            · simp at hs
          · simp at hs
      · simp at hc
    split at hc
    · simp only [Option.some.injEq] at hc; subst hc; exact good_bin ho hρ hx hy
    · simp only [Option.some.injEq] at hc; subst hc; exact good_bin ho hρ hx hy
    · rename_i hu
      simp only [Option.some.injEq] at hc; subst hc
      refine .ofQuiet rfl fun h out hs => ?_
      simp only [sop] at hs
      split at hs
      · rename_i p q e1 e2
        simp only [Option.some.injEq] at hs; subst hs
        exact ⟨_, rfl, q_eqB ho hop hu (hρ x sx _ hx e1) (hρ y sy _ hy e2)⟩
      · simp at hs
    · rename_i fs hu; exact agg _ hu rfl hc
    · rename_i n e hu; exact agg _ hu rfl hc
    · rename_i d _ _ _ _ _ hu
      split at hc
      · rename_i k hk
        have one : ∀ {z zz : Operand} {sz : SOpd}, cOpd C.ψ z = some sz → ((z = x ∧ zz = y) ∨ (z = y ∧ zz = x)) → isNil k zz = true → Good C γ o a ρ (.isnil k (isNeq op) sz) := by
          intro z zz sz hz hzz hn
          refine .ofQuiet rfl fun h out hs => ?_
          simp only [sop] at hs
          split at hs
          · rename_i r hr
            simp only [Option.some.injEq] at hs; subst hs
            simp only [Option.bind_eq_some_iff] at hr
            obtain ⟨v, hv, hr⟩ := hr
            obtain ⟨n, hn1, hn2⟩ := cOpd_nil (a := a) hn
            have hV := hρ z sz _ hz hv
            rcases hzz with ⟨rfl, rfl⟩ | ⟨rfl, rfl⟩
            · exact ⟨_, rfl, q_isnil ho hop hu hk hr hn2 (.inl ⟨hV, hn1⟩)⟩
            · exact ⟨_, rfl, q_isnil ho hop hu hk hr hn2 (.inr ⟨hV, hn1⟩)⟩
          · simp at hs
        split at hc
        · rename_i hn
          simp only [Option.some.injEq] at hc; subst hc
          exact one hx (.inl ⟨rfl, rfl⟩) hn
        · split at hc
          · rename_i hn
            simp only [Option.some.injEq] at hc; subst hc
            exact one hy (.inr ⟨rfl, rfl⟩) hn
          · simp at hc
      · simp at hc
    · simp at hc
  split at hc
  · exact eqs (.inl rfl) hc
  · exact eqs (.inr rfl) hc
  · split at hc
    · simp only [Option.some.injEq] at hc; subst hc; exact good_bin ho hρ hx hy
    · simp only [Option.some.injEq] at hc; subst hc; exact good_bin ho hρ hx hy
    · simp at hc

theorem bind_ptr {x : Operand} {sx : SOpd} {b off : Nat} (hρ : OR C γ ρ a) (hx : cOpd C.ψ x = some sx) (h : (ρ sx).bind ptr = some (b, off)) : ∃ u, VR C γ u (a.eval x) ∧ ptr u = some (b, off) := by
  simp only [Option.bind_eq_some_iff] at h
  obtain ⟨u, hu, hp⟩ := h
  exact ⟨u, hρ x sx u hx hu, hp⟩

theorem good_build (hρ : OR C γ ρ a) {t : TypeId} {ps : Array (Nat × Operand)} (ho : o.op = .build t ps) (hc : cOp C.P C.ψ o = some so) : Good C γ o a ρ so := by
  simp only [cOp, ho, bind, Option.bind_eq_some_iff] at hc
  obtain ⟨zs, hz, hc⟩ := hc
  have ho' : o.op = .build t ps.toList.toArray := by rw [ho]
  split at hc
  · rename_i fs hu
    simp only [Option.bind_eq_some_iff] at hc
    obtain ⟨l, hl, hc⟩ := hc
    split at hc
    · rename_i hall
      simp only [Option.some.injEq] at hc; subst hc
      refine .ofQuiet rfl fun h out hs => ?_
      simp only [sop] at hs
      split at hs
      · rename_i l' hv
        split at hs
        · rename_i cs hf
          simp only [Option.some.injEq] at hs; subst hs
          exact ⟨_, rfl, q_build hρ ho' hz hl hv hf (.inl ⟨fs, hu, fun _ => rfl, List.all_eq_true.1 hall⟩)⟩
        · simp at hs
      · simp at hs
    · simp at hc
  · rename_i n e hu
    simp only [Option.bind_eq_some_iff, Option.some.injEq] at hc
    obtain ⟨k, hk, l, hl, rfl⟩ := hc
    refine .ofQuiet rfl fun h out hs => ?_
    simp only [sop] at hs
    split at hs
    · rename_i l' hv
      split at hs
      · rename_i cs hf
        simp only [Option.some.injEq] at hs; subst hs
        exact ⟨_, rfl, q_build hρ ho' hz hl hv hf (.inr ⟨n, e, k, hu, hk, fun _ => rfl⟩)⟩
      · simp at hs
    · simp at hs
  · simp at hc

theorem good_buildSlice (hρ : OR C γ ρ a) {t : TypeId} {len : Nat} {ps : Array (Nat × Operand)} (ho : o.op = .buildSlice t len ps) (hc : cOp C.P C.ψ o = some so) : Good C γ o a ρ so := by
  have ho' : o.op = .buildSlice t len ps.toList.toArray := by rw [ho]
  simp only [cOp, ho] at hc
  split at hc
  · rename_i e hu
    simp only [bind, Option.bind_eq_some_iff] at hc
    obtain ⟨n, hn, zs, hz, l, hl, hc⟩ := hc
    split at hc
    · rename_i hle
      simp only [Option.some.injEq] at hc; subst hc
      refine .ofFloat rfl rfl fun h out hs => ?_
      simp only [sop] at hs
      split at hs
      · rename_i l' hv
        split at hs
        · rename_i cs hf
          simp only [Option.some.injEq] at hs; subst hs
          exact ⟨_, _, rfl, fl_mkslice hρ ho' hu hn hz hl hle hv hf _⟩
        · simp at hs
      · simp at hs
    · simp at hc
  · simp at hc

theorem good_load (hρ : OR C γ ρ a) {t : TypeId} {x : Operand} (ho : o.op = .load t x) (hc : cOp C.P C.ψ o = some so) : Good C γ o a ρ so := by
  simp only [cOp, ho, bind, Option.bind_eq_some_iff] at hc
  obtain ⟨d, hu, n, hn, sx, hx, hc⟩ := hc
  split at hc
  · rename_i ha
    simp only [Option.some.injEq] at hc; subst hc
    refine .ofStill rfl rfl fun h w H out hs => ?_
    simp only [sop] at hs
    split at hs
    · rename_i b off hb
      split at hs
      · rename_i cs hl
        simp only [Option.some.injEq] at hs; subst hs
        obtain ⟨u, hV, hp⟩ := bind_ptr hρ hx hb
        exact ⟨_, rfl, s_loadN ho hu ha hn H hV hp hl⟩
      · simp at hs
    · simp at hs
  · rename_i ha
    simp only [Option.some.injEq] at hc; subst hc
    refine .ofStill rfl rfl fun h w H out hs => ?_
    simp only [sop] at hs
    split at hs
    · rename_i b off hb
      split at hs
      · rename_i v hl
        simp only [Option.some.injEq] at hs; subst hs
        obtain ⟨u, hV, hp⟩ := bind_ptr hρ hx hb
        exact ⟨_, rfl, s_load1 ho hu (by simpa using ha) H hV hp hl⟩
      · simp at hs
    · simp at hs

theorem good_store (hρ : OR C γ ρ a) {t : TypeId} {x y : Operand} (ho : o.op = .store t x y) (hc : cOp C.P C.ψ o = some so) : Good C γ o a ρ so := by
  simp only [cOp, ho, bind, Option.bind_eq_some_iff] at hc
  obtain ⟨n, hn, sx, hx, sy, hy, hc⟩ := hc
  split at hc
  · rename_i h1
    subst h1
    simp only [Option.some.injEq] at hc; subst hc
    refine .ofAll rfl rfl rfl fun h w H out hs => ?_
    simp only [sop] at hs
    split at hs
    · rename_i b off v hb hv
      split at hs
      · rename_i u hu
        split at hs
        · rename_i h' hst
          simp only [Option.some.injEq] at hs; subst hs
          obtain ⟨p, hV, hp⟩ := bind_ptr hρ hx hb
          obtain ⟨w', z1, z2⟩ := s_store ho hn H hV hp (hρ y sy _ hy hv) hu rfl (store_of_store1 hst)
          exact ⟨w', z1, by rw [store_next (store_of_store1 hst)]; exact Nat.le_refl _, z2⟩
        · simp at hs
      · simp at hs
    · simp at hs
  · simp only [Option.some.injEq] at hc; subst hc
    refine .ofAll rfl rfl rfl fun h w H out hs => ?_
    simp only [sop] at hs
    split at hs
    · rename_i b off v hb hv
      split at hs
      · rename_i cs hu
        split at hs
        · rename_i hl
          split at hs
          · rename_i h' hst
            simp only [Option.some.injEq] at hs; subst hs
            obtain ⟨p, hV, hp⟩ := bind_ptr hρ hx hb
            obtain ⟨w', z1, z2⟩ := s_store ho hn H hV hp (hρ y sy _ hy hv) hu hl hst
            exact ⟨w', z1, by rw [store_next hst]; exact Nat.le_refl _, z2⟩
          · simp at hs
        · simp at hs
      · simp at hs
    · simp at hs

theorem good_slice (hρ : OR C γ ρ a) {t : TypeId} {x : Operand} {lo hi mx : Option Operand} (ho : o.op = .slice t x lo hi mx) (hc : cOp C.P C.ψ o = some so) : Good C γ o a ρ so := by
  simp only [cOp, ho, bind, Option.bind_eq_some_iff] at hc
  obtain ⟨d, hu, sx, hx, sl, hl, sh, hh, sm, hm, hc⟩ := hc
  split at hc
  · split at hc
    · rename_i hmn
      simp only [Option.some.injEq] at hc; subst hc
      have hmx : mx = none := by
        cases mx with
        | none => rfl
        | some y => simp [cOpt] at hm; obtain ⟨z, _, rfl⟩ := hm; simp at hmn
      subst hmx
      refine .ofQuiet rfl fun h out hs => ?_
      simp only [sop] at hs
      split at hs
      · rename_i s vl vh e1 e2 e3
        split at hs
        · rename_i l u m hb
          simp only [Option.some.injEq] at hs; subst hs
          exact ⟨_, rfl, q_slstr hρ ho hu (hρ x sx _ hx e1) hl hh e2 e3 hb⟩
        · simp at hs
      · simp at hs
    · simp at hc
  · rename_i e
    simp only [Option.bind_eq_some_iff, Option.some.injEq] at hc
    obtain ⟨n, hn, rfl⟩ := hc
    refine .ofQuiet rfl fun h out hs => ?_
    simp only [sop] at hs
    split at hs
    · rename_i ad len cap vl vh vm e1 e2 e3 e4
      split at hs
      · rename_i v hv
        simp only [Option.some.injEq] at hs; subst hs
        exact ⟨_, rfl, q_slsl hρ ho hu hn (hρ x sx _ hx e1) hl hh hm e2 e3 e4 hv⟩
      · simp at hs
    · simp at hs
  · rename_i n e
    simp only [Option.bind_eq_some_iff, Option.some.injEq] at hc
    obtain ⟨k, hk, rfl⟩ := hc
    refine .ofQuiet rfl fun h out hs => ?_
    simp only [sop] at hs
    split at hs
    · rename_i b off vl vh vm e1 e2 e3 e4
      split at hs
      · rename_i v hv
        simp only [Option.some.injEq] at hs; subst hs
        obtain ⟨p, hV, hp⟩ := bind_ptr hρ hx e1
        exact ⟨_, rfl, q_slarr hρ ho hu hk hV hp hl hh hm e2 e3 e4 hv⟩
      · simp at hs
    · simp at hs
  · simp at hc

theorem good_fieldAddr (hρ : OR C γ ρ a) {s : TypeId} {x : Operand} {i : Nat} (ho : o.op = .fieldAddr s x i) (hc : cOp C.P C.ψ o = some so) : Good C γ o a ρ so := by
  simp only [cOp, ho] at hc
  split at hc
  · rename_i fs hu
    simp only [bind, Option.bind_eq_some_iff] at hc
    obtain ⟨f, hf, n, hn, hc⟩ := hc
    split at hc
    · rename_i h0
      simp only [Option.bind_eq_some_iff, Option.some.injEq] at hc
      obtain ⟨sx, hx, rfl⟩ := hc
      refine .ofQuiet rfl fun h out hs => ?_
      simp only [sop] at hs
      split at hs
      · rename_i b off hb
        simp only [Option.some.injEq] at hs; subst hs
        obtain ⟨p, hV, hp⟩ := bind_ptr hρ hx hb
        exact ⟨_, rfl, q_fld ho hu hf hn h0 hV hp⟩
      · simp at hs
    · simp at hc
  · simp at hc

theorem good_field (hρ : OR C γ ρ a) {s : TypeId} {x : Operand} {i : Nat} (ho : o.op = .field s x i) (hc : cOp C.P C.ψ o = some so) : Good C γ o a ρ so := by
  simp only [cOp, ho] at hc
  split at hc
  · rename_i fs hu
    simp only [bind, Option.bind_eq_some_iff] at hc
    obtain ⟨f, hf, n, hn, d, hd, hc⟩ := hc
    split at hc
    · rename_i ha
      simp only [Option.bind_eq_some_iff, Option.some.injEq] at hc
      obtain ⟨sx, hx, rfl⟩ := hc
      refine .ofQuiet rfl fun h out hs => ?_
      simp only [sop] at hs
      split at hs
      · rename_i cs hv
        simp only [Option.some.injEq] at hs; subst hs
        exact ⟨_, rfl, q_partN ho hu hf hd ha hn (hρ x sx _ hx hv)⟩
      · simp at hs
    · rename_i ha
      simp only [Option.bind_eq_some_iff, Option.some.injEq] at hc
      obtain ⟨sx, hx, rfl⟩ := hc
      refine .ofQuiet rfl fun h out hs => ?_
      simp only [sop] at hs
      split at hs
      · rename_i cs hv
        split at hs
        · rename_i v hg
          simp only [Option.some.injEq] at hs; subst hs
          exact ⟨_, rfl, q_part1 ho hu hf hd (by simpa using ha) (hρ x sx _ hx hv) hg⟩
        · simp at hs
      · simp at hs
  · simp at hc

theorem good_indexAddr (hρ : OR C γ ρ a) {t : TypeId} {x i : Operand} (ho : o.op = .indexAddr t x i) (hc : cOp C.P C.ψ o = some so) : Good C γ o a ρ so := by
  simp only [cOp, ho] at hc
  split at hc
  · rename_i e hu
    simp only [bind, Option.bind_eq_some_iff, Option.some.injEq] at hc
    obtain ⟨k, hk, sx, hx, si, hi, rfl⟩ := hc
    refine .ofQuiet rfl fun h out hs => ?_
    simp only [sop] at hs
    split at hs
    · rename_i ad len cap kk j e1 e2
      split at hs
      · rename_i hr
        simp only [Option.some.injEq] at hs; subst hs
        exact ⟨_, rfl, q_idxS ho hu hk (hρ x sx _ hx e1) (hρ i si _ hi e2) hr⟩
      · simp at hs
    · simp at hs
  · rename_i n e hu
    simp only [bind, Option.bind_eq_some_iff, Option.some.injEq] at hc
    obtain ⟨k, hk, sx, hx, si, hi, rfl⟩ := hc
    refine .ofQuiet rfl fun h out hs => ?_
    simp only [sop] at hs
    split at hs
    · rename_i b off kk j e1 e2
      split at hs
      · rename_i hr
        simp only [Option.some.injEq] at hs; subst hs
        obtain ⟨p, hV, hp⟩ := bind_ptr hρ hx e1
        exact ⟨_, rfl, q_idxA ho hu hk hV hp (hρ i si _ hi e2) hr⟩
      · simp at hs
    · simp at hs
  · simp at hc

theorem good_index (hρ : OR C γ ρ a) {t : TypeId} {x i : Operand} (ho : o.op = .index t x i) (hc : cOp C.P C.ψ o = some so) : Good C γ o a ρ so := by
  simp only [cOp, ho] at hc
  split at hc
  · rename_i hu
    simp only [bind, Option.bind_eq_some_iff, Option.some.injEq] at hc
    obtain ⟨sx, hx, si, hi, rfl⟩ := hc
    refine .ofQuiet rfl fun h out hs => ?_
    simp only [sop] at hs
    split at hs
    · rename_i s kk j e1 e2
      split at hs
      · rename_i hr
        split at hs
        · rename_i c hg
          simp only [Option.some.injEq] at hs; subst hs
          exact ⟨_, rfl, q_idxT ho hu (hρ x sx _ hx e1) (hρ i si _ hi e2) hr hg⟩
        · simp at hs
      · simp at hs
    · simp at hs
  · rename_i n e hu
    simp only [bind, Option.bind_eq_some_iff] at hc
    obtain ⟨k, hk, d, hd, hc⟩ := hc
    split at hc
    · rename_i ha
      simp only [Option.bind_eq_some_iff, Option.some.injEq] at hc
      obtain ⟨sx, hx, si, hi, rfl⟩ := hc
      refine .ofQuiet rfl fun h out hs => ?_
      simp only [sop] at hs
      split at hs
      · rename_i cs kk j e1 e2
        split at hs
        · rename_i hr
          simp only [Option.some.injEq] at hs; subst hs
          exact ⟨_, rfl, q_idxVN ho hu hd ha hk (hρ x sx _ hx e1) (hρ i si _ hi e2) hr⟩
        · simp at hs
      · simp at hs
    · rename_i ha
      split at hc
      · rename_i h1
        subst h1
        simp only [Option.bind_eq_some_iff, Option.some.injEq] at hc
        obtain ⟨sx, hx, si, hi, rfl⟩ := hc
        refine .ofQuiet rfl fun h out hs => ?_
        simp only [sop] at hs
        split at hs
        · rename_i cs kk j e1 e2
          split at hs
          · rename_i hr
            split at hs
            · rename_i v hg
              simp only [Option.some.injEq] at hs; subst hs
              exact ⟨_, rfl, q_idxV1 ho hu hd (by simpa using ha) hk (hρ x sx _ hx e1) (hρ i si _ hi e2) hr hg⟩
            · simp at hs
          · simp at hs
        · simp at hs
      · simp at hc
  · simp at hc

theorem good_makeSlice (hρ : OR C γ ρ a) {t : TypeId} {l c : Operand} (ho : o.op = .makeSlice t l c) (hc : cOp C.P C.ψ o = some so) : Good C γ o a ρ so := by
  simp only [cOp, ho] at hc
  split at hc
  · rename_i e hu
    simp only [bind, Option.bind_eq_some_iff] at hc
    obtain ⟨n, hn, b, hb, zs, hz, hc⟩ := hc
    split at hc
    · rename_i h0
      simp only [Option.bind_eq_some_iff, Option.some.injEq] at hc
      obtain ⟨sl, hl, sc, hcc, rfl⟩ := hc
      refine .ofFloat rfl rfl fun h out hs => ?_
      simp only [sop] at hs
      split at hs
      · rename_i k1 nl k2 nc e1 e2
        split at hs
        · rename_i hok
          simp only [Option.some.injEq] at hs; subst hs
          exact ⟨_, _, rfl, fl_mkrow hρ ho hu hn hb hz h0 hl hcc e1 e2 hok _⟩
        · simp at hs
      · simp at hs
    · simp at hc
  · simp at hc

theorem two_of {α : Type} {c : Array α} {x y : α} (h : c.toList = [x, y]) : c = #[x, y] := by
  apply Array.ext'; rw [h]
theorem one_of {α : Type} {c : Array α} {x : α} (h : c.toList = [x]) : c = #[x] := by
  apply Array.ext'; rw [h]

theorem good_call (hρ : OR C γ ρ a) {c : Call} (ho : o.op = .call c) (hc : cOp C.P C.ψ o = some so) : Good C γ o a ρ so := by
  obtain ⟨callee, args, ts⟩ := c
  simp only [cOp, ho] at hc
  split at hc
  · rename_i f
    simp only [bind, Option.bind_eq_some_iff, Option.some.injEq] at hc
    obtain ⟨g, hf, ss, hx, rfl⟩ := hc
    refine .ofAll rfl rfl rfl fun h w H out hs => ?_
    simp only [sop] at hs
    split at hs
    · rename_i l hv
      simp only [Option.some.injEq] at hs; subst hs
      exact s_call hρ (xs := args.toList) (by rw [ho]) hf hx hv
    · simp at hs
  · rename_i fo hcl
    simp only [bind, Option.bind_eq_some_iff, Option.some.injEq] at hc
    obtain ⟨sf, hf, ss, hx, rfl⟩ := hc
    refine .ofAll rfl rfl rfl fun h w H out hs => ?_
    simp only [sop] at hs
    split at hs
    · rename_i g fi ca l e1 hv
      simp only [Option.some.injEq] at hs; subst hs
      exact s_callv hρ (xs := args.toList) (by rw [ho]) hf hx e1 hv
    · simp at hs
  · split at hc
    · rename_i t u x y ht hx
      have ht := two_of ht
      have hx := two_of hx
      subst ht hx
      have main : ∀ e ud, C.P.underlying t = some (.slice e) → C.P.underlying u = some ud → (∀ k, ud ≠ .int k) → ((tsize C.P e).bind fun n => (tbytes C.P e).bind fun b => (tzero C.P e).bind fun z =>
          if n ≠ 0 ∧ b ≠ 0 ∧ b ≤ 65536 ∧ z.length = n then (cOpd C.ψ x).bind fun sx => (cOpd C.ψ y).bind fun sy => some (SOp.append n b sx sy) else none) = some so → Good C γ o a ρ so := by
        intro e ud hu hud hui hc
        simp only [Option.bind_eq_some_iff] at hc
        obtain ⟨n, hn, b, hb, z, hz, hc⟩ := hc
        split at hc
        · rename_i hk
          simp only [Option.bind_eq_some_iff, Option.some.injEq] at hc
          obtain ⟨sx, hx, sy, hy, rfl⟩ := hc
          refine .ofAll rfl rfl rfl fun h w H out hs => ?_
          simp only [sop] at hs
          split at hs
          · rename_i p q e1 e2
            split at hs
            · rename_i v h' hv
              simp only [Option.some.injEq] at hs; subst hs
              exact s_append ho hu hud hui hn hb hk.1 hk.2.1 hk.2.2.1 hz hk.2.2.2 H (hρ x sx _ hx e1) (hρ y sy _ hy e2) hv
            · simp at hs
          · simp at hs
        · simp at hc
      split at hc
      · rename_i e e2 hu hu2; exact main e _ hu hu2 (by simp) hc
      · rename_i e hu hu2; exact main e _ hu hu2 (by simp) hc
      · simp at hc
    · simp at hc
  · split at hc
    · rename_i t u x y ht hx
      have ht := two_of ht
      have hx := two_of hx
      subst ht hx
      split at hc
      · rename_i e hu
        simp only [bind, Option.bind_eq_some_iff, Option.some.injEq] at hc
        obtain ⟨n, hn, sx, hx, sy, hy, rfl⟩ := hc
        refine .ofAll rfl rfl rfl fun h w H out hs => ?_
        simp only [sop] at hs
        split at hs
        · rename_i p q e1 e2
          split at hs
          · rename_i v h' hv
            simp only [Option.some.injEq] at hs; subst hs
            exact s_copy ho hu hn H (hρ x sx _ hx e1) (hρ y sy _ hy e2) hv
          · simp at hs
        · simp at hs
      · simp at hc
    · simp at hc
  · split at hc
    · rename_i t x ht hx
      have ht := one_of ht
      have hx := one_of hx
      subst ht hx
      split at hc
      · rename_i hu
        simp only [Option.map_eq_some_iff] at hc
        obtain ⟨sx, hx, rfl⟩ := hc
        refine .ofQuiet rfl fun h out hs => ?_
        simp only [sop] at hs
        split at hs
        · rename_i s e1
          simp only [Option.some.injEq] at hs; subst hs
          exact ⟨_, rfl, q_lenT ho hu (hρ x sx _ hx e1)⟩
        · simp at hs
      · rename_i e hu
        simp only [Option.map_eq_some_iff] at hc
        obtain ⟨sx, hx, rfl⟩ := hc
        refine .ofQuiet rfl fun h out hs => ?_
        simp only [sop] at hs
        split at hs
        · rename_i ad l c e1
          simp only [Option.some.injEq] at hs; subst hs
          exact ⟨_, rfl, q_lenS ho hu (hρ x sx _ hx e1)⟩
        · simp at hs
      · rename_i k e hu
        simp only [Option.map_eq_some_iff] at hc
        obtain ⟨sx, hx, rfl⟩ := hc
        refine .ofStill rfl rfl fun h w H out hs => ?_
        have hsv : ∃ m v, ρ sx = some (.map m) ∧ out = .val v h := by
          simp only [sop] at hs
          split at hs
          · rename_i e1; simp only [Option.some.injEq] at hs; exact ⟨_, _, e1, hs.symm⟩
          · rename_i r e1
            split at hs
            · simp only [Option.some.injEq] at hs; exact ⟨_, _, e1, hs.symm⟩
            · simp at hs
          · simp at hs
        obtain ⟨m, v, e1, rfl⟩ := hsv
        obtain ⟨_, k2⟩ := s_lenM ho hu H (hρ x sx _ hx e1) e1 hs
        exact ⟨v, rfl, k2⟩
      · simp at hc
    · simp at hc
  · split at hc
    · rename_i t x ht hx
      have ht := one_of ht
      have hx := one_of hx
      subst ht hx
      split at hc
      · rename_i e hu
        simp only [bind, Option.bind_eq_some_iff, Option.some.injEq] at hc
        obtain ⟨zs, hz, sx, hx, rfl⟩ := hc
        refine .ofAll rfl rfl rfl fun h w H out hs => ?_
        simp only [sop] at hs
        split at hs
        · rename_i ad n cp e1
          split at hs
          · simp at hs
          · rename_i hn
            split at hs
            · rename_i h' hv
              simp only [Option.some.injEq] at hs; subst hs
              exact s_clear ho hu hz H (hρ x sx _ hx e1) hn hv
            · simp at hs
        · simp at hs
      · simp at hc
    · simp at hc
  · simp only [bind, Option.bind_eq_some_iff, Option.some.injEq] at hc
    obtain ⟨ss, hx, rfl⟩ := hc
    refine .ofQuiet rfl fun h out hs => ?_
    simp only [sop] at hs
    split at hs
    · rename_i x r hv
      split at hs
      · rename_i v hm
        simp only [Option.some.injEq] at hs; subst hs
        exact ⟨_, rfl, q_mm hρ false (b := .min) (ts := ts) (by simp) (xs := args.toList) (by rw [ho]) hx hv hm⟩
      · simp at hs
    · simp at hs
  · simp only [bind, Option.bind_eq_some_iff, Option.some.injEq] at hc
    obtain ⟨ss, hx, rfl⟩ := hc
    refine .ofQuiet rfl fun h out hs => ?_
    simp only [sop] at hs
    split at hs
    · rename_i x r hv
      split at hs
      · rename_i v hm
        simp only [Option.some.injEq] at hs; subst hs
        exact ⟨_, rfl, q_mm hρ true (b := .max) (ts := ts) (by simp) (xs := args.toList) (by rw [ho]) hx hv hm⟩
      · simp at hs
    · simp at hs
  · simp at hc

/-- The room behind a row is frozen: no cell of the row is. -/
theorem HR.refreeze {h : AH} {w : World} (H : HR C γ h w) {B lo hi lo' hi' : Nat} {D : Array Value} {E : TypeId} (hB : C.base ≤ B) (hD : w.heap[B]? = some (.cells D E (lo, hi))) {f : Obj → Obj} (hf : f (.cells D E (lo, hi)) = .cells D E (lo', hi')) (hk : hi' = lo' ∨ D.size ≤ lo') :
    HR C γ h { w with heap := w.heap.modify B f } := by
  refine ⟨Below.modify H.below hB _, H.low, ?_, H.inj, H.dom⟩
  intro b B' s N hb
  have hk0 := H.blk b B' s N hb
  by_cases hBB : B' = B
  · subst hBB
    have : (w.heap.modify B' f)[B']? = some (.cells D E (lo', hi')) := by
      rw [Array.getElem?_modify, if_pos rfl, hD, Option.map_some, hf]
    simp only [this]
    cases ho : h.get b with
    | dead => trivial
    | map es clk =>
      rw [ho] at hk0
      obtain ⟨es', k1, _⟩ := hk0
      rw [hD] at k1; simp at k1
    | cells c g ro =>
      rw [ho] at hk0
      obtain ⟨D0, E0, lo0, hi0, k1, k2, k3, k4, k5, k6, k7⟩ := hk0
      rw [hD] at k1
      simp only [Option.some.injEq, Obj.cells.injEq, Prod.mk.injEq] at k1
      obtain ⟨rfl, rfl, rfl, rfl⟩ := k1
      exact ⟨D, E, lo', hi', rfl, k2, k3, k4, k5, k6, fun e => ⟨(k7 e).1, by omega⟩⟩
  · have : (w.heap.modify B f)[B']? = w.heap[B']? := by rw [Array.getElem?_modify, if_neg (by omega)]
    simp only [this]
    exact hk0

theorem good_mark (hρ : OR C γ ρ a) {s t e : TypeId} {x : Operand} {sx : SOpd} (ho : o.op = .convert s t x) (hs : C.P.underlying s = some (.slice e)) (ht : s = t) (he : C.P.underlying e = some (.int .u8)) (hx : cOpd C.ψ x = some sx) : Good C γ o a ρ (.mark sx) := by
  subst ht
  refine .ofAll rfl rfl rfl fun h w H out hs' => ?_
  simp only [sop] at hs'
  split at hs'
  · rename_i ad n c hv
    split at hs'
    · rename_i c0 g hg
      simp only [Option.some.injEq] at hs'; subst hs'
      have hv2 := hρ x sx _ hx hv
      obtain ⟨B, s', N, o', c', hb, e1, e2⟩ := hv2.slice_inv
      obtain ⟨D, E, lo, hi, k1, k2, k3, k4, k5, k6, k7⟩ := H.cells hb hg
      have k8 := k7 rfl
      have hfr : HR C γ h (w.freeze ⟨B, D.size, none⟩ 1) := by
        unfold World.freeze
        rw [if_neg (by omega)]
        by_cases hl : lo == hi
        · exact H.refreeze (lo' := D.size) (hi' := D.size + 1) k8.1 k1 (by simp only [hl, if_true]) (.inr (Nat.le_refl _))
        · have hl' : lo ≠ hi := by simpa using hl
          exact H.refreeze (lo' := min lo D.size) (hi' := max hi (D.size + 1)) k8.1 k1 (by simp only [hl]; rfl) (.inr (by omega))
      refine ⟨a.eval x, w.freeze ⟨B, D.size, none⟩ 1, γ, ?_, .same (Nat.le_refl _), hfr, hv2⟩
      have hsh : w.shape? B = some (E, D.size) := by simp [World.shape?, k1]
      simp [execOp, ho, e1, convert, run_underlying hs, run_underlying he, markStringish, hsh]
    · simp at hs'
  · simp at hs'

theorem good_all (hρ : OR C γ ρ a) (hc : cOp C.P C.ψ o = some so) : Good C γ o a ρ so := by
  cases ho : o.op with
  | build t ps => exact good_build hρ ho hc
  | buildSlice t l ps => exact good_buildSlice hρ ho hc
  | load t x => exact good_load hρ ho hc
  | store t x y => exact good_store hρ ho hc
  | slice t x l h m => exact good_slice hρ ho hc
  | fieldAddr s x i => exact good_fieldAddr hρ ho hc
  | field s x i => exact good_field hρ ho hc
  | indexAddr t x i => exact good_indexAddr hρ ho hc
  | index t x i => exact good_index hρ ho hc
  | makeSlice t l c => exact good_makeSlice hρ ho hc
  | call c => exact good_call hρ ho hc
  | move x =>
    simp only [cOp, ho, Option.map_eq_some_iff] at hc
    obtain ⟨sx, hx, rfl⟩ := hc
    exact good_mov (.inl ho) hρ hx
  | assign x =>
    simp only [cOp, ho, Option.map_eq_some_iff] at hc
    obtain ⟨sx, hx, rfl⟩ := hc
    exact good_mov (.inr ho) hρ hx
  | pick c x y =>
    simp only [cOp, ho, bind, Option.bind_eq_some_iff, Option.some.injEq] at hc
    obtain ⟨sc, h1, sx, h2, sy, h3, rfl⟩ := hc
    exact good_pick ho hρ h1 h2 h3
  | alloc t =>
    simp only [cOp, ho, Option.map_eq_some_iff] at hc
    obtain ⟨zs, hz, rfl⟩ := hc
    refine .ofFloat rfl rfl fun h out hs => ?_
    simp only [sop, Option.some.injEq] at hs; subst hs
    exact ⟨_, _, rfl, fl_alloc ho hz _⟩
  | box t x =>
    simp only [cOp, ho, Option.map_eq_some_iff] at hc
    obtain ⟨sx, hx, rfl⟩ := hc
    refine .ofFloat rfl rfl fun h out hs => ?_
    simp only [sop] at hs
    split at hs
    · rename_i v hv
      split at hs
      · rename_i cs hcs
        simp only [Option.some.injEq] at hs; subst hs
        exact ⟨_, _, rfl, fl_box ho (hρ x sx _ hx hv) hcs _⟩
      · simp at hs
    · simp at hs
  | nilCheck x =>
    simp only [cOp, ho, Option.map_eq_some_iff] at hc
    obtain ⟨sx, hx, rfl⟩ := hc
    refine .ofQuiet rfl fun h out hs => ?_
    simp only [sop] at hs
    split at hs
    · rename_i ad hv
      simp only [Option.some.injEq] at hs; subst hs
      exact ⟨_, rfl, q_nilchk ho (hρ x sx _ hx hv)⟩
    · simp at hs
  | binOp op t x y u =>
    simp only [cOp, ho] at hc
    exact good_cbin ho hρ hc
  | unOp op t x =>
    simp only [cOp, ho, Option.map_eq_some_iff] at hc
    obtain ⟨sx, hx, rfl⟩ := hc
    refine .ofQuiet rfl fun h out hs => ?_
    simp only [sop] at hs
    split at hs
    · rename_i m hm
      split at hs
      · rename_i v hv
        simp only [Option.some.injEq] at hs; subst hs
        exact ⟨_, rfl, q_un ho (hρ x sx _ hx hm) hv⟩
      · simp at hs
    · simp at hs
  | convert s t x =>
    simp only [cOp, ho] at hc
    split at hc
    · rename_i k1 k2 h1 h2
      simp only [Option.map_eq_some_iff] at hc
      obtain ⟨sx, hx, rfl⟩ := hc
      refine .ofQuiet rfl fun h out hs => ?_
      simp only [sop] at hs
      split at hs
      · rename_i kk n hn
        simp only [Option.some.injEq] at hs; subst hs
        exact ⟨_, rfl, q_conv ho h1 h2 (hρ x sx _ hx hn)⟩
      · simp at hs
    · rename_i k1 h1 h2
      simp only [Option.map_eq_some_iff] at hc
      obtain ⟨sx, hx, rfl⟩ := hc
      refine .ofQuiet rfl fun h out hs => ?_
      simp only [sop] at hs
      split at hs
      · rename_i kk n hn
        simp only [Option.some.injEq] at hs; subst hs
        refine ⟨_, rfl, fun w => ⟨.string (Utf8.encode n), ?_, .str⟩⟩
        have hv := (hρ x sx _ hx hn).int_inv
        simp [execOp, ho, hv, convert, run_underlying h1, run_underlying h2, Conv.intToString]
      · simp at hs
    · rename_i e1 e2 h1 h2
      split at hc
      · rename_i he
        split at hc
        · rename_i hst
          simp only [Option.map_eq_some_iff] at hc
          obtain ⟨sx, hx, rfl⟩ := hc
          subst hst
          rw [h1] at h2
          simp only [Option.some.injEq, TypeDesc.slice.injEq] at h2
          subst h2
          exact good_mark hρ ho h1 rfl he hx
        · simp at hc
      · simp at hc
    · simp at hc
  | makeFunc fn first caps =>
    cases fn with
    | func f =>
      simp only [cOp, ho, bind, Option.bind_eq_some_iff, Option.some.injEq] at hc
      obtain ⟨g, hf, sa, ha, sb, hb, rfl⟩ := hc
      refine .ofQuiet rfl fun h out hs => ?_
      simp only [sop] at hs
      split at hs
      · rename_i l m e1 e2
        simp only [Option.some.injEq] at hs; subst hs
        exact ⟨_, rfl, q_mkfunc hρ (x := first.toList) (y := caps.toList) (by rw [ho]) hf ha hb e1 e2⟩
      · simp at hs
    | _ => simp [cOp, ho] at hc
  | makeMap t r =>
    cases r with
    | none =>
      simp only [cOp, ho, Option.some.injEq] at hc; subst hc
      refine .ofFloat rfl rfl fun h out hs => ?_
      simp only [sop, Option.some.injEq] at hs; subst hs
      exact ⟨_, _, rfl, fl_mkmap ho _⟩
    | some _ => simp [cOp, ho] at hc
  | extract x i =>
    simp only [cOp, ho, bind, Option.bind_eq_some_iff, Option.some.injEq] at hc
    obtain ⟨sx, hx, rfl⟩ := hc
    refine .ofQuiet rfl fun h out hs => ?_
    simp only [sop] at hs
    split at hs
    · rename_i vs hv
      split at hs
      · rename_i v hg
        simp only [Option.some.injEq] at hs; subst hs
        exact ⟨_, rfl, q_extr ho (hρ x sx _ hx hv) hg⟩
      · simp at hs
    · simp at hs
  | _ => simp [cOp, ho] at hc

/-- One that has no small form. -/
theorem good_bad : Good C γ o a ρ .bad := .ofQuiet rfl fun h out hs => by simp [sop] at hs
end
end Go.Jq
