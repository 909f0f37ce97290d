/- Equality, nil, memory, calls. -/
import Derived.Test.YtmaemogjdnlcoaaDoorM7
set_option linter.unusedSimpArgs false
set_option linter.unusedVariables false
namespace Go.Jq
open Go.RowKit

section
variable {C : Ctx} {γ : Gm} {h : AH} {w : World} {a : Act} {ρ : SOpd → Option Value} {o : Oper}

theorem cellEq_VR {k : Nat} {x y x' y' : Value} {r : Bool} (hx : VR C γ x x') (hy : VR C γ y y') (h : cellEq k x y = some r) : cellEq k x' y' = some r := by
  unfold cellEq at h
  split at h
  · rw [hx.int_inv, hy.int_inv]; exact h
  · rw [hx.bool_inv, hy.bool_inv]; exact h
  · rw [hx.str_inv, hy.str_inv]; exact h
  · simp at h

theorem cellsEq_VR : ∀ {ks : List Nat} {x y x' y' : List Value} {r : Bool}, FA2 (VR C γ) x x' → FA2 (VR C γ) y y' → cellsEq ks x y = some r → cellsEq ks x' y' = some r
  | [], _, _, _, _, _, .nil, .nil, h => h
  | k :: ks, _, _, _, _, r, .cons h1 h2, .cons h3 h4, h => by
    simp only [cellsEq] at h ⊢
    split at h
    · rename_i p q e1 e2
      rw [cellEq_VR h1 h3 e1, cellsEq_VR h2 h4 e2]
      exact h
    · simp at h
  | [], _, _, _, _, _, .cons _ _, _, h => by simp [cellsEq] at h
  | [], _, _, _, _, _, .nil, .cons _ _, h => by simp [cellsEq] at h
  | _ :: _, _, _, _, _, _, .nil, _, h => by simp [cellsEq] at h
  | _ :: _, _, _, _, _, _, .cons _ _, .nil, h => by simp [cellsEq] at h

theorem kinds_size {P : Program} {d : Nat} {t : TypeId} {ks : List Nat} (h : kindsT P d t = some ks) : tsize P t = some ks.length := by
  cases d with
  | zero => simp [kindsT] at h
  | succ d =>
    simp only [kindsT] at h
    split at h
    · rename_i hs; simp at h; subst h; exact hs
    · rename_i hs; simp at h; subst h; exact hs
    · rename_i hs; simp at h; subst h; exact hs
    · rename_i hs
      split at h
      · simp at h
      · split at h
        · split at h
          · rename_i hl; simp at h; subst h; rw [hs, hl]
          · simp at h
        · simp at h
    · rename_i hs
      split at h
      · split at h
        · rename_i hl; simp at h; subst h; rw [hs, hl.1]; simp
        · simp at h
      · simp at h
    · simp at h

theorem q_eqN {op : BinOp} {t u : TypeId} {x y : Operand} {m n : Array Value} {ks : List Nat} {d : TypeDesc} {r : Bool} (ho : o.op = .binOp op t x y u) (hop : op = .eql ∨ op = .neq) (hu : C.P.underlying t = some d) (ha : aggD d = true)
    (hk : kindsT C.P 20 t = some ks) (hg : C.P.eqGuardType C.P.depth t = false) (hm : VR C γ (.agg m) (a.eval x)) (hn : VR C γ (.agg n) (a.eval y)) (he : cellsEq ks m.toList n.toList = some r) :
    Qt C γ o a (.bool (if (isNeq op) then !r else r)) := by
  intro w
  obtain ⟨m', e1, hR1, _⟩ := hm.agg_inv
  obtain ⟨n', e2, hR2, _⟩ := hn.agg_inv
  have he' := cellsEq_VR hR1 hR2 he
  obtain ⟨l1, l2⟩ := cellsEq_len he'
  obtain ⟨s, hs, hsl⟩ : ∃ s, tsize C.P t = some s ∧ s = ks.length := ⟨_, kinds_size hk, rfl⟩
  obtain ⟨vx, vy, p1, p2, p3⟩ := eq_at 20 t ks hk m' n' 0 r w (by
    rw [List.drop_zero, List.drop_zero, ← l1, List.take_length, l1, ← l2, List.take_length]; exact he')
  rw [part_agg hu ha hs] at p1 p2
  simp only [Result.ok.injEq, and_true] at p1 p2
  have q1 : m'.extract 0 (0 + s) = m' := by
    rw [hsl, Nat.zero_add, ← l1, Array.length_toList]; simp
  have q2 : n'.extract 0 (0 + s) = n' := by
    rw [hsl, Nat.zero_add, ← l2, Array.length_toList]; simp
  rw [q1] at p1
  rw [q2] at p2
  subst p1 p2
  have := p3 9980
  refine ⟨_, ?_, .bool⟩
  rcases hop with rfl | rfl
  · simp only [execOp, ho, e1, e2, Sem.run_bind, run_eqGuard_agg w .eql t x y m' n' hg, Result.andThen_ok, run_eql_struct, this]; rfl
  · simp only [execOp, ho, e1, e2, Sem.run_bind, run_eqGuard_agg w .neq t x y m' n' hg, Result.andThen_ok, run_neq_struct, this]; rfl

theorem isNil_run {P : Program} {t : TypeId} {d : TypeDesc} {k : Nat} (hu : P.underlying t = some d) (hk : nilKind d = some k) {v n : Value} {r : Bool} (hv : snil k v = some r) (hn : snil k n = some true) (w : World) :
    (Op.equal t v n).run P w = .ok r w ∧ (Op.equal t n v).run P w = .ok r w := by
  suffices hd : ∀ d, (Op.equalIn (d + 1) t v n).run P w = .ok r w ∧ (Op.equalIn (d + 1) t n v).run P w = .ok r w from hd 9999
  intro dd
  unfold nilKind at hk
  split at hk <;> simp at hk <;> subst hk
  · cases v <;> simp [snil] at hv
    cases n <;> simp [snil] at hn
    subst hn hv
    rename_i p
    cases p <;> constructor <;> simp [Op.equalIn, run_underlying hu]
  · cases v <;> simp [snil] at hv
    cases n <;> simp [snil] at hn
    subst hn hv
    rename_i p _ _ _ _
    cases p <;> constructor <;> simp [Op.equalIn, run_underlying hu]
  · cases v <;> simp [snil] at hv
    cases n <;> simp [snil] at hn
    subst hn hv
    rename_i p
    cases p <;> constructor <;> simp [Op.equalIn, run_underlying hu]
  · cases n <;> simp [snil] at hn
    cases v <;> simp [snil] at hv <;> subst hv <;> constructor <;> simp [Op.equalIn, run_underlying hu]

theorem snil_VR {k : Nat} {v v' : Value} {r : Bool} (hv : VR C γ v v') (h : snil k v = some r) : snil k v' = some r := by
  unfold snil at h
  split at h
  · cases hv <;> simpa [snil] using h
  · cases hv <;> simpa [snil] using h
  · cases hv <;> simpa [snil] using h
  · cases hv; simpa [snil] using h
  · cases hv; simpa [snil] using h
  · simp at h

theorem eqGuard_nil {op : BinOp} {t : TypeId} {x y : Operand} {u v : Value} {k : Nat} {r : Bool} (hu : snil k u = some r) : eqGuard op t x y u v = pure () := by
  unfold snil at hu
  split at hu
  · exact eqGuard_at_pointer ..
  · exact eqGuard_at_slice ..
  · exact eqGuard_at_map ..
  · exact eqGuard_at_nilFunc ..
  · exact eqGuard_at_func ..
  · simp at hu

theorem binOp_nil {t : TypeId} {u v : Value} {k : Nat} {r s : Bool} (hu : snil k u = some r) (hv : snil k v = some s) :
    binOp .eql t u v = (do let r ← Op.equal t u v; pure (.bool r)) ∧ binOp .neq t u v = (do let r ← Op.equal t u v; pure (.bool (!r))) := by
  unfold snil at hu hv
  split at hu <;> first | (simp at hu; done) | (split at hv <;> first | exact ⟨rfl, rfl⟩ | (simp at hv; done) | simp_all)

theorem q_isnil {op : BinOp} {t u : TypeId} {x y : Operand} {d : TypeDesc} {k : Nat} {v n : Value} {r : Bool} (ho : o.op = .binOp op t x y u) (hop : op = .eql ∨ op = .neq) (hu : C.P.underlying t = some d) (hk : nilKind d = some k)
    (hs : snil k v = some r) (hn : snil k n = some true) (hxy : (VR C γ v (a.eval x) ∧ a.eval y = n) ∨ (VR C γ v (a.eval y) ∧ a.eval x = n)) : Qt C γ o a (.bool (if (isNeq op) then !r else r)) := by
  intro w
  refine ⟨_, ?_, .bool⟩
  rcases hxy with ⟨hv, he⟩ | ⟨hv, he⟩
  · have hs' := snil_VR hv hs
    obtain ⟨e1, e2⟩ := binOp_nil (t := t) hs' hn
    have hr := (isNil_run hu hk hs' hn w).1
    rcases hop with rfl | rfl
    · simp only [execOp, ho, he, eqGuard_nil hs', Sem.run_bind, Sem.run_pure, Result.andThen_ok, e1, hr]; rfl
    · simp only [execOp, ho, he, eqGuard_nil hs', Sem.run_bind, Sem.run_pure, Result.andThen_ok, e2, hr]; rfl
  · have hs' := snil_VR hv hs
    obtain ⟨e1, e2⟩ := binOp_nil (t := t) hn hs'
    have hr := (isNil_run hu hk hs' hn w).2
    rcases hop with rfl | rfl
    · simp only [execOp, ho, he, eqGuard_nil hn, Sem.run_bind, Sem.run_pure, Result.andThen_ok, e1, hr]; rfl
    · simp only [execOp, ho, he, eqGuard_nil hn, Sem.run_bind, Sem.run_pure, Result.andThen_ok, e2, hr]; rfl

/-! Memory. -/

theorem s_load1 {t : TypeId} {x : Operand} {d : TypeDesc} {v u : Value} {b off : Nat} (ho : o.op = .load t x) (hu : C.P.underlying t = some d) (ha : aggD d = false) (H : HR C γ h w) (hv : VR C γ u (a.eval x)) (hp : ptr u = some (b, off)) (hl : h.load1 b off = some v) :
    ∃ v', (execOp a.eval o).run C.P w = .ok (.value v') w ∧ VR C γ v v' := by
  obtain ⟨B, s, N, hb, he⟩ := hv.ptr_inv hp
  obtain ⟨v', hc, hr, _⟩ := H.load1 hb hl
  exact ⟨v', by simp [execOp, ho, he, Instr.loadAt, Instr.sureAddr, loadVar, run_agg hu, ha, hc], hr⟩

theorem s_loadN {t : TypeId} {x : Operand} {d : TypeDesc} {n : Nat} {u : Value} {cs : List Value} {b off : Nat} (ho : o.op = .load t x) (hu : C.P.underlying t = some d) (ha : aggD d = true) (hn : tsize C.P t = some n) (H : HR C γ h w) (hv : VR C γ u (a.eval x)) (hp : ptr u = some (b, off))
    (hl : h.load b off n = some cs) : ∃ v', (execOp a.eval o).run C.P w = .ok (.value v') w ∧ VR C γ (.agg cs.toArray) v' := by
  obtain ⟨B, s, N, hb, he⟩ := hv.ptr_inv hp
  obtain ⟨l', hc, hr, _, h1, _⟩ := H.load hb hl
  exact ⟨.agg l', by simp [execOp, ho, he, Instr.loadAt, Instr.sureAddr, loadVar, run_agg hu, ha, run_size hn, hc], .agg (by simpa using hr) (by simpa using h1)⟩

theorem q_lenS {t e : TypeId} {x : Operand} {ad : Option Addr} {l c : Nat} (ho : o.op = .call { callee := .builtin .len, args := #[x], argTypes := #[t] }) (hu : C.P.underlying t = some (.slice e)) (hv : VR C γ (.slice ad l c) (a.eval x)) : Qt C γ o a (.int .i64 l) := by
  intro w
  have hx' : ∃ ad' cap', a.eval x = .slice ad' l cap' := by generalize a.eval x = y at hv; cases hv <;> exact ⟨_, _, rfl⟩
  obtain ⟨ad', cap', hx'⟩ := hx'
  exact ⟨_, by simp [execOp, ho, resolve, invoke, builtin, Builtin.len_, run_underlying hu, hx', goInt], .int⟩

theorem q_lenT {t : TypeId} {x : Operand} {s : ByteArray} (ho : o.op = .call { callee := .builtin .len, args := #[x], argTypes := #[t] }) (hu : C.P.underlying t = some .string) (hv : VR C γ (.string s) (a.eval x)) : Qt C γ o a (.int .i64 s.size) := by
  intro w
  exact ⟨_, by simp [execOp, ho, resolve, invoke, builtin, Builtin.len_, run_underlying hu, hv.str_inv, goInt], .int⟩

theorem s_lenM {t k e : TypeId} {x : Operand} {m : Option Nat} {v : Value} {h1 : AH} {sx : SOpd} (ho : o.op = .call { callee := .builtin .len, args := #[x], argTypes := #[t] }) (hu : C.P.underlying t = some (.map k e)) (H : HR C γ h w) (hv : VR C γ (.map m) (a.eval x)) (hx : ρ sx = some (.map m))
    (hs : sop (.lenM sx) ρ h = some (.val v h1)) : h1 = h ∧ ∃ v', (execOp a.eval o).run C.P w = .ok (.value v') w ∧ VR C γ v v' := by
  simp only [sop, hx] at hs
  cases m with
  | none =>
    simp only [Option.some.injEq, Out.val.injEq] at hs
    obtain ⟨rfl, rfl⟩ := hs
    exact ⟨rfl, _, by simp [execOp, ho, resolve, invoke, builtin, Builtin.len_, run_underlying hu, hv.map0_inv, goInt], .int⟩
  | some r =>
    simp only at hs
    split at hs
    · rename_i es clk hg
      simp only [Option.some.injEq, Out.val.injEq] at hs
      obtain ⟨rfl, rfl⟩ := hs
      obtain ⟨B, N, hV, hb⟩ := hv.map_inv
      have hB := H.blk r B 0 N hb
      rw [hg] at hB
      obtain ⟨es', k1, _, _, k4⟩ := hB
      have hgo : (getObj B).run C.P w = .ok (.map es' clk) w := by simp [getObj, Sem.run, k1]
      exact ⟨rfl, _, by simp [execOp, ho, resolve, invoke, builtin, Builtin.len_, run_underlying hu, hV, goInt, hgo, k4.length], .int⟩
    · simp at hs

theorem s_store {t : TypeId} {x y : Operand} {n : Nat} {u v : Value} {cs : List Value} {b off : Nat} {h' : AH} (ho : o.op = .store t x y) (hn : tsize C.P t = some n) (H : HR C γ h w) (hu : VR C γ u (a.eval x)) (hp : ptr u = some (b, off)) (hv : VR C γ v (a.eval y)) (hc : vcells v = some cs)
    (hl : cs.length = n) (hs : h.store b off cs = some h') : ∃ w', (execOp a.eval o).run C.P w = .ok .skip w' ∧ HR C γ h' w' := by
  obtain ⟨B, s, N, hb, he⟩ := hu.ptr_inv hp
  obtain ⟨hR, h1⟩ := hv.cells hc
  obtain ⟨w', k1, k2⟩ := H.store hb hR h1 hs
  refine ⟨w', ?_, k2⟩
  have hsz : (a.eval y).cells.size = n := by rw [← Array.length_toList, ← hR.length, hl]
  simp [execOp, ho, he, Instr.storeAt, Instr.sureAddr, storeVar, run_size hn, hsz, k1]

theorem store_of_store1 {b off : Nat} {u : Value} {h' : AH} (hs : h.store1 b off u = some h') : h.store b off [u] = some h' := by
  unfold AH.store1 at hs
  unfold AH.store
  split at hs
  · rename_i c g hc
    split at hs
    · rename_i hlt
      simp at hs
      simp only [List.length_cons, List.length_nil]
      rw [if_pos (by omega), splice_set hlt, hs]
    · simp at hs
  · simp at hs

theorem s_call (hρ : OR C γ ρ a) {f : FuncId} {g : Nat} {xs : List Operand} {ss : List SOpd} {l : List Value} {ts : Array TypeId} (ho : o.op = .call { callee := .value (.func f), args := xs.toArray, argTypes := ts }) (hf : C.ψ f = some g)
    (hx : cOpds C.ψ xs = some ss) (hv : vals ρ ss = some l) : OutOk C γ h o a w (.call g l) := by
  obtain ⟨e, hL⟩ := C.back f g hf
  refine ⟨(xs.map a.eval).toArray, ?_, by simpa using hρ.vals hx hv, hL⟩
  subst e
  simp [execOp, ho, resolve, Act.eval, Deferred.ofValue, invoke, C.calls g hL]

theorem s_callv (hρ : OR C γ ρ a) {fo : Operand} {sf : SOpd} {g : Nat} {fi ca : Array Value} {xs : List Operand} {ss : List SOpd} {l : List Value} {ts : Array TypeId} (ho : o.op = .call { callee := .value fo, args := xs.toArray, argTypes := ts }) (hf : cOpd C.ψ fo = some sf)
    (hx : cOpds C.ψ xs = some ss) (vf : ρ sf = some (.func (.func g) fi ca)) (hv : vals ρ ss = some l) : OutOk C γ h o a w (.call g (fi.toList ++ (l ++ ca.toList))) := by
  obtain ⟨fi', ca', he, hL, h1, h2⟩ := (hρ fo sf _ hf vf).func_inv
  refine ⟨fi' ++ (xs.map a.eval).toArray ++ ca', ?_, ?_, hL⟩
  · simp [execOp, ho, resolve, he, Deferred.ofValue, invoke, C.calls g hL]
  · have := h1.append ((hρ.vals hx hv).append h2)
    simpa using this
end
end Go.Jq
