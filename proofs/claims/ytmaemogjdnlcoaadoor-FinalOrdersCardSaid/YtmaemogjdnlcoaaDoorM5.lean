/- The operations that leave memory alone. -/
import Derived.Test.YtmaemogjdnlcoaaDoorM4
import Derived.Laws.Small
set_option linter.unusedSimpArgs false
set_option linter.unusedVariables false
namespace Go.Jq
open Go.RowKit

/-- The blocks of before stand where they stood; there are no fewer. -/
def GX (h : AH) (γ γ' : Gm) (h1 : AH) : Prop := Sub γ γ' ∧ (∀ b, b < h.next → γ' b = γ b) ∧ h.next ≤ h1.next
theorem GX.same {h h1 : AH} {γ : Gm} (hn : h.next ≤ h1.next) : GX h γ γ h1 := ⟨Sub.refl γ, fun _ _ => rfl, hn⟩
theorem GX.trans {h h1 h2 : AH} {a b c : Gm} (x : GX h a b h1) (y : GX h1 b c h2) : GX h a c h2 :=
  ⟨x.1.trans y.1, fun i hi => (y.2.1 i (by have := x.2.2; omega)).trans (x.2.1 i hi), Nat.le_trans x.2.2 y.2.2⟩
theorem store_next {h h1 : AH} {b o : Nat} {l : List Value} (hs : h.store b o l = some h1) : h1.next = h.next := by
  unfold AH.store at hs
  split at hs
  · split at hs
    · simp only [Option.some.injEq] at hs; subst hs; rfl
    · simp at hs
  · simp at hs

/-- What an operation of the model comes to, beside what its small form says. -/
def OutOk (C : Ctx) (γ : Gm) (h : AH) (o : Oper) (a : Act) (w : World) : Out → Prop
  | .val v h1 => ∃ v' w' γ', (execOp a.eval o).run C.P w = .ok (.value v') w' ∧ GX h γ γ' h1 ∧ HR C γ' h1 w' ∧ VR C γ' v v'
  | .skip h1 => ∃ w', (execOp a.eval o).run C.P w = .ok .skip w' ∧ h.next ≤ h1.next ∧ HR C γ h1 w'
  | .call f args => ∃ args', (execOp a.eval o).run C.P w = .ok (.enter (C.φ f) args') w ∧ FA2 (VR C γ) args args'.toList ∧ C.L f = true

section
variable {C : Ctx} {γ : Gm} {h : AH} {w : World} {a : Act} {ρ : SOpd → Option Value} {o : Oper}

/-- The same, of one that leaves memory alone: for whatever memory. -/
def Qt (C : Ctx) (γ : Gm) (o : Oper) (a : Act) (v : Value) : Prop := ∀ w : World, ∃ v', (execOp a.eval o).run C.P w = .ok (.value v') w ∧ VR C γ v v'

theorem q_mov {x : Operand} {sx : SOpd} {v : Value} (ho : o.op = .move x ∨ o.op = .assign x) (hρ : OR C γ ρ a) (hx : cOpd C.ψ x = some sx) (hv : ρ sx = some v) : Qt C γ o a v :=
  fun w => ⟨a.eval x, by rcases ho with ho | ho <;> simp [execOp, ho], hρ x sx v hx hv⟩

theorem q_pick {c x y : Operand} {t : Bool} {v : Value} (ho : o.op = .pick c x y) (hc : VR C γ (.bool t) (a.eval c)) (hv : VR C γ v (if t then a.eval x else a.eval y)) : Qt C γ o a v :=
  fun w => ⟨_, by simp [execOp, ho, hc.bool_inv, asBool], hv⟩

theorem q_build (hρ : OR C γ ρ a) {t : TypeId} {ps : List (Nat × Operand)} {zs : List Value} {ss : List (Nat × Nat × SOpd)} {l : List (Nat × Nat × Value)} {cs : List Value} {place : Nat → Option (Nat × Nat)}
    (ho : o.op = .build t ps.toArray) (hz : tzero C.P t = some zs) (hp : cParts C.ψ place ps = some ss) (hv : vparts ρ ss = some l) (hf : sfill l zs = some cs)
    (hu : (∃ fs, C.P.underlying t = some (.struct fs) ∧ (∀ i, place i = (fs[i]?).bind fun f => (tsize C.P f.type).map fun n => (f.offset, n)) ∧ ∀ f ∈ fs.toList, (tsize C.P f.type).isSome) ∨
      (∃ n e k, C.P.underlying t = some (.array n e) ∧ tsize C.P e = some k ∧ ∀ i, place i = some (i * k, k))) : Qt C γ o a (.agg cs.toArray) := by
  obtain ⟨i, z, h1, h2, h3, h4, h5⟩ := tzero_some hz
  obtain ⟨k1, k2⟩ := zeros_VR (C := C) (γ := γ) h3 h4
  obtain ⟨D', f1, f2, f3, f4⟩ := fill_sound (hρ.parts hp hv) k1 k2 hf
  intro w
  refine ⟨.agg D', ?_, .agg (by simpa using f2) (by simpa using f3)⟩
  rcases hu with ⟨fs, hu, hpl, hsz⟩ | ⟨n, e, k, hu, hk, hpl⟩
  · have hm : ∀ (l : List Field) (w : World), (∀ f ∈ l, (tsize C.P f.type).isSome) → (l.mapM fun f => (do pure (f.offset, ← sizeOf f.type) : Sem (Nat × Nat))).run C.P w = .ok (l.map fun f => (f.offset, (tsize C.P f.type).getD 0)) w := by
      intro l
      induction l with
      | nil => intro w _; simp
      | cons f l ih =>
        intro w hs
        have := hs f (by simp)
        obtain ⟨n, hn⟩ := Option.isSome_iff_exists.1 this
        simp only [List.mapM_cons, Sem.run_bind, run_size hn, Result.andThen_ok, Sem.run_pure, ih w (fun f hf => hs f (by simp [hf]))]
        simp [hn]
    have hm2 : ∀ w : World, (fs.mapM fun f => (do pure (f.offset, ← sizeOf f.type) : Sem (Nat × Nat))).run C.P w = .ok (fs.map fun f => (f.offset, (tsize C.P f.type).getD 0)) w := by
      intro w
      rw [Array.mapM_eq_mapM_toList, Sem.run_map, hm fs.toList w hsz]
      simp only [Result.andThen_ok]
      congr 1
      apply Array.ext'
      simp
    have hfill : Instr.fill ((fs.map fun f => (f.offset, (tsize C.P f.type).getD 0))[·]?) z.cells (ps.map fun p => (p.1, a.eval p.2)) = some D' := by
      rw [← f1]
      congr 1
      funext i
      rw [hpl, Array.getElem?_map]
      cases hf : fs[i]? with
      | none => rfl
      | some f =>
        have := hsz f (Array.mem_toList_iff.2 (Array.mem_of_getElem? hf))
        obtain ⟨n, hn⟩ := Option.isSome_iff_exists.1 this
        simp [hn]
    simp only [execOp, ho, Instr.build, Sem.run_bind, run_zero h1 h2, Result.andThen_ok, run_underlying hu, hm2, List.map_toArray]
    rw [hfill]
    simp
  · have : (fun i => some (i * k, k)) = place := by funext i; rw [hpl]
    simp only [execOp, ho, Instr.build, Sem.run_bind, run_zero h1 h2, Result.andThen_ok, run_underlying hu, run_size hk, List.map_toArray, this]
    rw [f1]
    simp

theorem q_nilchk {x : Operand} {ad : Addr} (ho : o.op = .nilCheck x) (hv : VR C γ (.pointer (some ad)) (a.eval x)) : Qt C γ o a (.pointer (some ad)) := by
  intro w
  generalize he : a.eval x = y at hv
  cases hv
  case ptr hb => exact ⟨_, by simp only [execOp, ho, he]; rfl, .ptr hb⟩

theorem sint_run {op : BinOp} {k : IntKind} {x y : Int} {v : Value} (hop : op ≠ .shl ∧ op ≠ .shr) (hs : sint op k x y = some v) (t : TypeId) (w : World) (P : Program) :
    (binOp op t (.int k x) (.int k y)).run P w = .ok v w := by
  unfold sint at hs
  split at hs <;> first
    | (simp at hs; subst hs; simp [binOp, Op.intArith, Op.intBits, Op.intCmp]; done)
    | (split at hs
       · simp at hs
       · rename_i hy; simp at hs; subst hs; simp [binOp, Op.intDiv, hy]; done)
    | simp at hs

theorem sbin_run {op : BinOp} {x y v : Value} (hs : sbin op x y = some v) (t : TypeId) (w : World) (P : Program) :
    (∃ k m kk n, x = .int k m ∧ y = .int kk n ∨ (∃ s u, x = .string s ∧ y = .string u)) ∧ (binOp op t x y).run P w = .ok v w := by
  unfold sbin at hs
  split at hs
  · rename_i k m kk n
    refine ⟨⟨k, m, kk, n, .inl ⟨rfl, rfl⟩⟩, ?_⟩
    split at hs
    · split at hs
      · simp at hs
      · rename_i hn; simp at hs; subst hs; simp [binOp, Op.shift, hn]
    · split at hs
      · simp at hs
      · rename_i hn; simp at hs; subst hs; simp [binOp, Op.shift, hn]
    · rename_i n1 n2
      split at hs
      · rename_i e; subst e; exact sint_run ⟨n1, n2⟩ hs t w P
      · simp at hs
  · rename_i s u
    refine ⟨⟨.i64, 0, .i64, 0, .inr ⟨s, u, rfl, rfl⟩⟩, ?_⟩
    unfold sstr at hs
    split at hs <;> first
      | (simp at hs; subst hs; simp [binOp, Op.stringOp]; done)
      | (split at hs
         · simp at hs
         · rename_i hy
           simp at hs; subst hs
           have : ¬ (((s.size + u.size : Nat) : Int) > IntKind.i64.max) := by simpa [IntKind.max, IntKind.signed, IntKind.bits] using hy
           simp only [binOp, Op.stringOp, this, if_false]; rfl)
      | simp at hs
  · simp at hs

theorem VR_scalar {x v : Value} (hx : (∃ k n, x = .int k n) ∨ (∃ s, x = .string s) ∨ (∃ b, x = .bool b)) (hv : VR C γ x v) : v = x := by
  rcases hx with ⟨k, n, rfl⟩ | ⟨s, rfl⟩ | ⟨b, rfl⟩
  · exact hv.int_inv
  · exact hv.str_inv
  · exact hv.bool_inv

theorem sbin_VR {op : BinOp} {x y v : Value} (hs : sbin op x y = some v) : VR C γ v v := by
  unfold sbin at hs
  split at hs
  · split at hs
    · split at hs <;> simp at hs; subst hs; exact .int
    · split at hs <;> simp at hs; subst hs; exact .int
    · split at hs
      · unfold sint at hs
        split at hs <;> first
          | (simp at hs; subst hs; first | exact .int | exact .bool)
          | (split at hs
             · simp at hs
             · simp at hs; subst hs; exact .int)
          | simp at hs
      · simp at hs
  · unfold sstr at hs
    split at hs <;> first
      | (simp at hs; subst hs; first | exact .bool | exact .str)
      | (split at hs
         · simp at hs
         · simp at hs; subst hs; exact .str)
      | simp at hs
  · simp at hs

theorem eqGuard_scalar {op : BinOp} {t : TypeId} {x y : Operand} {u v : Value} (hu : (∃ k n, u = .int k n) ∨ (∃ s, u = .string s) ∨ (∃ b, u = .bool b)) : eqGuard op t x y u v = pure () := by
  rcases hu with ⟨k, n, rfl⟩ | ⟨s, rfl⟩ | ⟨b, rfl⟩
  · exact eqGuard_at_int ..
  · exact eqGuard_at_string ..
  · exact eqGuard_at_bool ..

theorem q_bin {op : BinOp} {t u : TypeId} {x y : Operand} {m n v : Value} (ho : o.op = .binOp op t x y u) (hm : VR C γ m (a.eval x)) (hn : VR C γ n (a.eval y)) (hs : sbin op m n = some v) : Qt C γ o a v := by
  intro w
  obtain ⟨⟨k, p, kk, q, hk⟩, hr⟩ := sbin_run hs t w C.P
  have h1 : (∃ k n, m = .int k n) ∨ (∃ s, m = .string s) ∨ (∃ b, m = .bool b) := by
    rcases hk with ⟨rfl, _⟩ | ⟨s, _, rfl, _⟩
    · exact .inl ⟨_, _, rfl⟩
    · exact .inr (.inl ⟨_, rfl⟩)
  have h2 : (∃ k q, n = .int k q) ∨ (∃ s, n = .string s) ∨ (∃ b, n = .bool b) := by
    rcases hk with ⟨_, rfl⟩ | ⟨_, s, _, rfl⟩
    · exact .inl ⟨_, _, rfl⟩
    · exact .inr (.inl ⟨_, rfl⟩)
  refine ⟨v, ?_, sbin_VR hs⟩
  simp only [execOp, ho, VR_scalar h1 hm, VR_scalar h2 hn, eqGuard_scalar h1, Sem.run_bind, Sem.run_pure, Result.andThen_ok, hr]

theorem q_eqB {op : BinOp} {t u : TypeId} {x y : Operand} {m n : Bool} (ho : o.op = .binOp op t x y u) (hop : op = .eql ∨ op = .neq) (hu : C.P.underlying t = some .bool) (hm : VR C γ (.bool m) (a.eval x)) (hn : VR C γ (.bool n) (a.eval y)) :
    Qt C γ o a (.bool (if (isNeq op) then !(m == n) else (m == n))) := by
  intro w
  refine ⟨_, ?_, .bool⟩
  have e1 : binOp .eql t (.bool m) (.bool n) = (do pure (.bool (← Op.equal t (.bool m) (.bool n)))) := rfl
  have e2 : binOp .neq t (.bool m) (.bool n) = (do pure (.bool (!(← Op.equal t (.bool m) (.bool n))))) := rfl
  rcases hop with rfl | rfl
  · simp only [execOp, ho, hm.bool_inv, hn.bool_inv, eqGuard_scalar (.inr (.inr ⟨m, rfl⟩)), Sem.run_bind, Sem.run_pure, Result.andThen_ok, e1, run_equal_bool w t m n hu]
    rfl
  · simp only [execOp, ho, hm.bool_inv, hn.bool_inv, eqGuard_scalar (.inr (.inr ⟨m, rfl⟩)), Sem.run_bind, Sem.run_pure, Result.andThen_ok, e2, run_equal_bool w t m n hu]
    rfl

theorem q_un {op : UnOp} {t : TypeId} {x : Operand} {m v : Value} (ho : o.op = .unOp op t x) (hm : VR C γ m (a.eval x)) (hs : sun op m = some v) : Qt C γ o a v := by
  intro w
  unfold sun at hs
  split at hs
  · simp at hs; subst hs
    exact ⟨_, by simp [execOp, ho, hm.int_inv, Op.unary, Op.intArith], .int⟩
  · simp [sint] at hs; subst hs
    exact ⟨_, by simp [execOp, ho, hm.int_inv, Op.unary, Op.intBits], .int⟩
  · simp at hs; subst hs
    exact ⟨_, by simp [execOp, ho, hm.bool_inv, Op.unary], .bool⟩
  · simp at hs

theorem q_conv {s t : TypeId} {x : Operand} {k k' kk : IntKind} {n : Int} (ho : o.op = .convert s t x) (hs : C.P.underlying s = some (.int k')) (ht : C.P.underlying t = some (.int k)) (hm : VR C γ (.int kk n) (a.eval x)) :
    Qt C γ o a (.int k (k.wrap n)) := by
  intro w
  exact ⟨_, by simp [execOp, ho, hm.int_inv, convert, run_underlying hs, run_underlying ht, Conv.intToInt], .int⟩

theorem q_mkfunc (hρ : OR C γ ρ a) {f : FuncId} {g : Nat} {x y : List Operand} {sx sy : List SOpd} {l m : List Value} (ho : o.op = .makeFunc (.func f) x.toArray y.toArray) (hf : C.ψ f = some g)
    (hx : cOpds C.ψ x = some sx) (hy : cOpds C.ψ y = some sy) (vx : vals ρ sx = some l) (vy : vals ρ sy = some m) : Qt C γ o a (.func (.func g) l.toArray m.toArray) := by
  intro w
  obtain ⟨e, hL⟩ := C.back f g hf
  refine ⟨.func (.func f) (x.map a.eval).toArray (y.map a.eval).toArray, by simp [execOp, ho, Instr.makeFunc], ?_⟩
  rw [← e]
  exact .func hL (by simpa using hρ.vals hx vx) (by simpa using hρ.vals hy vy)

theorem q_fld {s : TypeId} {x : Operand} {i b off n : Nat} {f : Field} {fs : Array Field} {v : Value} (ho : o.op = .fieldAddr s x i) (hu : C.P.underlying s = some (.struct fs)) (hf : fs[i]? = some f) (hn : tsize C.P f.type = some n) (h0 : n ≠ 0)
    (hv : VR C γ v (a.eval x)) (hp : ptr v = some (b, off)) : Qt C γ o a (.pointer (some ⟨b, off + f.offset, none⟩)) := by
  intro w
  obtain ⟨B, s', N, hb, he⟩ := hv.ptr_inv hp
  refine ⟨.pointer (some ⟨B, s' + (off + f.offset), none⟩), ?_, .ptr hb⟩
  simp only [execOp, ho, he, Instr.fieldAt, Sem.run_bind, run_underlying hu, Result.andThen_ok, hf, Instr.sureAddr, Sem.run_pure, fieldPlace, run_size hn]
  rw [if_neg h0]
  simp only [Sem.run_pure, Result.andThen_ok, Addr.add]
  split
  · rename_i e; rw [e]; rfl
  · simp [Nat.add_assoc]

theorem addr_add {B o n : Nat} : (⟨B, o, none⟩ : Addr).add n = ⟨B, o + n, none⟩ := by unfold Addr.add; split <;> simp_all

theorem q_idxA {t e : TypeId} {x i : Operand} {n k b off : Nat} {kk : IntKind} {j : Int} {v : Value} (ho : o.op = .indexAddr t x i) (hu : C.P.underlying t = some (.array n e)) (hk : tsize C.P e = some k)
    (hv : VR C γ v (a.eval x)) (hp : ptr v = some (b, off)) (hj : VR C γ (.int kk j) (a.eval i)) (hr : 0 ≤ j ∧ j < n) : Qt C γ o a (.pointer (some ⟨b, off + j.toNat * k, none⟩)) := by
  intro w
  obtain ⟨B, s', N, hb, he⟩ := hv.ptr_inv hp
  refine ⟨.pointer (some ⟨B, s' + (off + j.toNat * k), none⟩), ?_, .ptr hb⟩
  simp [execOp, ho, he, hj.int_inv, Instr.indexAt, asIntOf, run_underlying hu, Instr.sureAddr, hr, run_size hk, addr_add, Nat.add_assoc]

/-- A slice's address, whatever is known of its room. -/
theorem VR.slice_inv {ad : Addr} {l c : Nat} {v : Value} (hv : VR C γ (.slice (some ad) l c) v) : ∃ B s N o' c', γ ad.block = some (B, s, N) ∧ v = .slice (some ⟨B, o', none⟩) l c' ∧ (o' = s + ad.off ∨ l = 0) := by
  cases hv
  case slX hb => exact ⟨_, _, _, _, _, hb, rfl, .inl rfl⟩
  case slI hb _ _ _ => exact ⟨_, _, _, _, _, hb, rfl, .inl rfl⟩
  case slE hb => exact ⟨_, _, _, _, _, hb, rfl, .inr rfl⟩

theorem q_idxS {t e : TypeId} {x i : Operand} {k l c : Nat} {ad : Addr} {kk : IntKind} {j : Int} (ho : o.op = .indexAddr t x i) (hu : C.P.underlying t = some (.slice e)) (hk : tsize C.P e = some k)
    (hv : VR C γ (.slice (some ad) l c) (a.eval x)) (hj : VR C γ (.int kk j) (a.eval i)) (hr : 0 ≤ j ∧ j < l) : Qt C γ o a (.pointer (some ⟨ad.block, ad.off + j.toNat * k, none⟩)) := by
  intro w
  obtain ⟨B, s, N, o', c', hb, he, ho'⟩ := hv.slice_inv
  have : o' = s + ad.off := by
    rcases ho' with h | h
    · exact h
    · omega
  subst this
  refine ⟨.pointer (some ⟨B, s + (ad.off + j.toNat * k), none⟩), ?_, .ptr hb⟩
  simp [execOp, ho, he, hj.int_inv, Instr.indexAt, asIntOf, run_underlying hu, hr, run_size hk, addr_add, Nat.add_assoc]

theorem q_idxV1 {t e : TypeId} {x i : Operand} {n : Nat} {d : TypeDesc} {cs : Array Value} {kk : IntKind} {j : Int} {v : Value} (ho : o.op = .index t x i) (hu : C.P.underlying t = some (.array n e)) (hd : C.P.underlying e = some d) (hag : aggD d = false)
    (hk : tsize C.P e = some 1) (hv : VR C γ (.agg cs) (a.eval x)) (hj : VR C γ (.int kk j) (a.eval i)) (hr : 0 ≤ j ∧ j < n) (hg : cs.toList[j.toNat]? = some v) : Qt C γ o a v := by
  intro w
  obtain ⟨ds, he, hR, _⟩ := hv.agg_inv
  obtain ⟨v', hv', hr'⟩ := hR.get hg
  refine ⟨v', ?_, hr'⟩
  simp only [Array.getElem?_toList] at hv'
  simp [execOp, ho, he, hj.int_inv, Instr.index, asIntOf, run_underlying hu, hr, run_size hk, part, run_agg hd, hag, hv']

theorem q_idxVN {t e : TypeId} {x i : Operand} {n k : Nat} {d : TypeDesc} {cs : Array Value} {kk : IntKind} {j : Int} (ho : o.op = .index t x i) (hu : C.P.underlying t = some (.array n e)) (hd : C.P.underlying e = some d) (hag : aggD d = true)
    (hk : tsize C.P e = some k) (hv : VR C γ (.agg cs) (a.eval x)) (hj : VR C γ (.int kk j) (a.eval i)) (hr : 0 ≤ j ∧ j < n) : Qt C γ o a (.agg ((cs.toList.drop (j.toNat * k)).take k).toArray) := by
  intro w
  obtain ⟨ds, he, hR, h1⟩ := hv.agg_inv
  refine ⟨.agg (ds.extract (j.toNat * k) (j.toNat * k + k)), ?_, .agg ?_ ?_⟩
  · simp [execOp, ho, he, hj.int_inv, Instr.index, asIntOf, run_underlying hu, hr, run_size hk, part, run_agg hd, hag]
  · simp only [Array.toList_extract, List.extract_eq_take_drop, Nat.add_sub_cancel_left]
    exact (hR.drop _).take _
  · intro y hy
    exact h1 y (List.mem_of_mem_drop (List.mem_of_mem_take (by simpa using hy)))

theorem q_idxT {t : TypeId} {x i : Operand} {s : ByteArray} {kk : IntKind} {j : Int} {c : UInt8} (ho : o.op = .index t x i) (hu : C.P.underlying t = some .string)
    (hv : VR C γ (.string s) (a.eval x)) (hj : VR C γ (.int kk j) (a.eval i)) (hr : 0 ≤ j) (hg : s.data.toList[j.toNat]? = some c) : Qt C γ o a (.int .u8 c.toNat) := by
  intro w
  refine ⟨_, ?_, .int⟩
  have hlt : j.toNat < s.size := by
    have := (List.getElem?_eq_some_iff.1 hg).1
    simpa using this
  have hb : s[j.toNat]? = some c := by
    rw [getElem?_pos s j.toNat hlt]
    rw [Array.getElem?_toList] at hg
    rw [Array.getElem?_eq_getElem (by simpa using hlt)] at hg
    simp only [Option.some.injEq] at hg ⊢
    rw [← hg]; rfl
  simp [execOp, ho, hv.str_inv, hj.int_inv, Instr.index, asIntOf, run_underlying hu, hr, hb]

theorem q_part1 {s : TypeId} {x : Operand} {i : Nat} {f : Field} {fs : Array Field} {d : TypeDesc} {cs : Array Value} {v : Value} (ho : o.op = .field s x i) (hu : C.P.underlying s = some (.struct fs)) (hf : fs[i]? = some f) (hd : C.P.underlying f.type = some d)
    (hag : aggD d = false) (hv : VR C γ (.agg cs) (a.eval x)) (hg : cs.toList[f.offset]? = some v) : Qt C γ o a v := by
  intro w
  obtain ⟨ds, he, hR, _⟩ := hv.agg_inv
  obtain ⟨v', hv', hr'⟩ := hR.get hg
  simp only [Array.getElem?_toList] at hv'
  exact ⟨v', by simp [execOp, ho, he, Instr.field, run_underlying hu, hf, part, run_agg hd, hag, hv', asAgg], hr'⟩

theorem q_partN {s : TypeId} {x : Operand} {i n : Nat} {f : Field} {fs : Array Field} {d : TypeDesc} {cs : Array Value} (ho : o.op = .field s x i) (hu : C.P.underlying s = some (.struct fs)) (hf : fs[i]? = some f) (hd : C.P.underlying f.type = some d)
    (hag : aggD d = true) (hn : tsize C.P f.type = some n) (hv : VR C γ (.agg cs) (a.eval x)) : Qt C γ o a (.agg ((cs.toList.drop f.offset).take n).toArray) := by
  intro w
  obtain ⟨ds, he, hR, h1⟩ := hv.agg_inv
  refine ⟨.agg (ds.extract f.offset (f.offset + n)), ?_, .agg ?_ ?_⟩
  · simp [execOp, ho, he, Instr.field, run_underlying hu, hf, part, run_agg hd, hag, asAgg, run_size hn]
  · simp only [Array.toList_extract, List.extract_eq_take_drop, Nat.add_sub_cancel_left]
    exact (hR.drop _).take _
  · intro y hy
    exact h1 y (List.mem_of_mem_drop (List.mem_of_mem_take (by simpa using hy)))

theorem q_extr {x : Operand} {i : Nat} {vs : Array Value} {v : Value} (ho : o.op = .extract x i) (hv : VR C γ (.tuple vs) (a.eval x)) (hg : vs.toList[i]? = some v) : Qt C γ o a v := by
  intro w
  obtain ⟨ds, he, hR⟩ := hv.tuple_inv
  obtain ⟨v', hv', hr'⟩ := hR.get hg
  simp only [Array.getElem?_toList] at hv'
  exact ⟨v', by simp [execOp, ho, he, Instr.extract, hv'], hr'⟩
end

end Go.Jq
