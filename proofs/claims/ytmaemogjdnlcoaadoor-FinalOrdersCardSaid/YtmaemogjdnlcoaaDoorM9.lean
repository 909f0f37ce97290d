/- append and copy. -/
import Derived.Test.YtmaemogjdnlcoaaDoorM8
set_option linter.unusedSimpArgs false
set_option linter.unusedVariables false
namespace Go.Jq
open Go.RowKit

section
variable {C : Ctx} {γ : Gm} {h : AH} {w : World} {a : Act} {ρ : SOpd → Option Value} {o : Oper}

theorem HR.kill (H : HR C γ h w) (b : Nat) : HR C γ (h.put b .dead) w := by
  refine ⟨H.below, H.low, ?_, ?_, H.dom⟩
  · intro b' B s N hb
    simp only [AH.put]
    split
    · trivial
    · exact H.blk b' B s N hb
  · intro b1 b2 B s1 N1 s2 N2 q1 q2 w1 w2
    simp only [AH.put] at w1 w2
    split at w1
    · simp [ABlk.wr] at w1
    · split at w2
      · simp [ABlk.wr] at w2
      · exact H.inj b1 b2 B s1 N1 s2 N2 q1 q2 w1 w2

theorem kget (h : AH) (b : Nat) (o : ABlk) (i : Nat) : ((h.put b .dead).alloc o).get i = if i = h.next then o else if i = b then .dead else h.get i := rfl

/-- A row that is written in its true block, and goes by a new number. -/
theorem HR.retarget (H : HR C γ h w) {b B s N s2 : Nat} (hb : γ b = some (B, s, N)) {c : List Value} {g : Bool} (hc : h.get b = .cells c g false)
    {D : Array Value} {E : TypeId} {f : Nat × Nat} (hD : w.heap[B]? = some (.cells D E f)) {c' : List Value} {D' : Array Value} (hs : D'.size = D.size) (hle : s2 + c'.length ≤ N)
    (hR : FA2 (VR C γ) c' ((D'.toList.drop s2).take c'.length)) (h1 : ∀ x ∈ c', x.oneCell' = true) :
    Sub γ (gset γ h.next (B, s2, N)) ∧ HR C (gset γ h.next (B, s2, N)) ((h.put b .dead).alloc (.cells c' true false)) { w with heap := w.heap.modify B fun _ => .cells D' E f } := by
  obtain ⟨D0, E0, lo, hi, e1, e2, e3, e4, e5, _, e6⟩ := H.cells hb hc
  rw [hD] at e1
  simp only [Option.some.injEq, Obj.cells.injEq] at e1
  obtain ⟨rfl, rfl, rfl⟩ := e1
  have e7 := e6 rfl
  have hsub : Sub γ (gset γ h.next (B, s2, N)) := gset_sub (H.dom _ (Nat.le_refl _))
  refine ⟨hsub, ⟨Below.modify H.below e7.1 _, H.low, ?_, ?_, ?_⟩⟩
  · intro b' B' s' N' hb'
    unfold gset at hb'
    rw [kget]
    split at hb'
    · rename_i e
      subst e
      simp only [Option.some.injEq, Prod.mk.injEq] at hb'
      obtain ⟨rfl, rfl, rfl⟩ := hb'
      rw [if_pos rfl]
      exact ⟨D', E, lo, hi, by simp [Array.getElem?_modify, hD], by omega, hle, VR.monoL hsub hR, h1, by simp, fun _ => e7⟩
    · rename_i hne
      rw [if_neg hne]
      by_cases hbb : b' = b
      · rw [if_pos hbb]; trivial
      · rw [if_neg hbb]
        have hk := (H.blk b' B' s' N' hb')
        by_cases hBB : B' = B
        · subst hBB
          cases ho : h.get b' with
          | dead => trivial
          | map es clk =>
            rw [ho] at hk
            obtain ⟨es', k1, _⟩ := hk
            rw [hD] at k1; simp at k1
          | cells c2 g2 ro2 =>
            rw [ho] at hk
            obtain ⟨_, _, _, _, _, _, _, _, _, k6, k7⟩ := hk
            cases ro2 with
            | true => have := k6 rfl; omega
            | false => exact absurd (H.inj b' b _ _ _ _ _ hb' hb (by simp [ABlk.wr, ho]) (by simp [ABlk.wr, hc])) hbb
        · have : (w.heap.modify B fun _ => Obj.cells D' E (lo, hi))[B']? = w.heap[B']? := by
            rw [Array.getElem?_modify, if_neg (by omega)]
          simp only [this]
          exact hk.mono hsub
  · have key : ∀ b' s' N', b' ≠ h.next → γ b' = some (B, s', N') → (((h.put b .dead).alloc (.cells c' true false)).get b').wr = true → False := by
      intro b' s' N' hne hb' hw
      rw [kget, if_neg hne] at hw
      split at hw
      · simp [ABlk.wr] at hw
      · rename_i hbb
        exact hbb (H.inj b' b _ _ _ _ _ hb' hb hw (by simp [ABlk.wr, hc]))
    intro b1 b2 B' s1 N1 s2' N2 q1 q2 w1 w2
    unfold gset at q1 q2
    split at q1 <;> split at q2
    · rename_i e1 e2; rw [e1, e2]
    · rename_i hne
      simp only [Option.some.injEq, Prod.mk.injEq] at q1
      obtain ⟨rfl, rfl, rfl⟩ := q1
      exact (key b2 _ _ hne q2 w2).elim
    · rename_i hne _
      simp only [Option.some.injEq, Prod.mk.injEq] at q2
      obtain ⟨rfl, rfl, rfl⟩ := q2
      exact (key b1 _ _ hne q1 w1).elim
    · rename_i n1 n2
      rw [kget, if_neg n1] at w1
      rw [kget, if_neg n2] at w2
      split at w1
      · simp [ABlk.wr] at w1
      · split at w2
        · simp [ABlk.wr] at w2
        · exact H.inj b1 b2 B' s1 N1 s2' N2 q1 q2 w1 w2
  · intro b' hb'
    simp only [AH.alloc_next, AH.put_next] at hb'
    unfold gset
    rw [if_neg (by omega)]
    exact H.dom b' (by omega)

theorem firstOf_run (H : HR C γ h w) {y y' : Value} {size n m : Nat} {cs : List Value} (hv : VR C γ y y') (hm : lenOf y = some m) (hn : n ≤ m) (hf : firstOf h size n y = some cs) :
    ∃ cs', (Builtin.firstCells size n y').run C.P w = .ok cs' w ∧ FA2 (VR C γ) cs cs'.toList ∧ cs.length = n * size ∧ (∀ x ∈ cs, x.oneCell' = true) ∧ (Builtin.lenOf y').run C.P w = .ok m w := by
  unfold firstOf at hf
  split at hf
  · split at hf
    · rename_i h0
      simp at hf; subst hf h0
      cases hv
      simp [lenOf] at hm; subst hm
      exact ⟨#[], by simp [Builtin.firstCells], .nil, by simp, by simp, by simp [Builtin.lenOf]⟩
    · simp at hf
  · rename_i ad l c
    simp [lenOf] at hm; subst hm
    obtain ⟨B, s, N, o', c', hb, he, ho⟩ := hv.slice_inv
    subst he
    rcases ho with ho | ho
    · subst ho
      obtain ⟨l', k1, k2, k3, k4, _⟩ := H.load hb hf
      exact ⟨l', by simp [Builtin.firstCells, k1], k2, k3, k4, by simp [Builtin.lenOf]⟩
    · have h0 : n = 0 := by omega
      subst h0
      obtain ⟨l', k1, k2, k3, k4, _⟩ := H.load hb hf
      have hc0 : cs = [] := by simpa using k3
      subst hc0
      exact ⟨#[], by simp [Builtin.firstCells, loadCells, loadCellsFrom], .nil, by simp, by simp, by simp [Builtin.lenOf]⟩
  · rename_i s
    split at hf
    · rename_i hh
      simp only [Option.some.injEq] at hf; subst hf
      simp [lenOf] at hm; subst hm
      obtain ⟨rfl, hle⟩ := hh
      rw [hv.str_inv]
      refine ⟨_, rfl, ?_, by simp; omega, ?_, by simp [Builtin.lenOf]⟩
      · simp only [Array.toList_map, ByteArray.data_extract, Array.toList_extract, List.extract_eq_take_drop, List.drop_zero, Nat.sub_zero]
        generalize s.data.toList.take n = l
        induction l with
        | nil => exact .nil
        | cons x l ih => exact .cons .int ih
      · intro x hx
        simp only [List.mem_map] at hx
        obtain ⟨b, _, rfl⟩ := hx
        rfl
    · simp at hf
  · simp at hf

theorem nextcap_le (need cap : Nat) (h : cap < need) : Builtin.nextslicecap need cap ≤ 2 * need + 1000 := by
  unfold Builtin.nextslicecap
  split
  · omega
  · split
    · omega
    · have key : ∀ (r c : Nat), c < need + (need + 768) / 4 + 1 → Builtin.growBy need r c ≤ need + (need + 768) / 4 := by
        intro r
        induction r with
        | zero => intro c hc; simp only [Builtin.growBy]; omega
        | succ r ih =>
          intro c hc
          simp only [Builtin.growBy]
          split
          · omega
          · exact ih _ (by omega)
      have := key 4 cap (by omega)
      omega

theorem zeroCells_size (z : Array Value) (n : Nat) : (Builtin.zeroCells z n).size = n * z.size := by simp [Builtin.zeroCells]

/-- A new row, made by append. -/
theorem run_grow {t u e : TypeId} {ud : TypeDesc} {size bytes len n cap : Nat} {zs : List Value} {base' : Option Addr} {y' : Value} {old new : Array Value} {x y : Operand}
    (ho : o.op = .call { callee := .builtin .append, args := #[x, y], argTypes := #[t, u] }) (hu : C.P.underlying t = some (.slice e)) (hud : C.P.underlying u = some ud) (hui : ∀ k, ud ≠ .int k) (hk : tsize C.P e = some size) (hb : tbytes C.P e = some bytes) (hb0 : bytes ≠ 0) (hb1 : bytes ≤ 65536)
    (hz : tzero C.P e = some zs) (hzl : zs.length = size) (ex : a.eval x = .slice base' len cap) (ey : a.eval y = y') (hl : ∀ w : World, (Builtin.lenOf y').run C.P w = .ok n w) (hcap : cap < len + n) (hsm : (len + n) * bytes ≤ 70368744177664)
    (hold : (Builtin.firstCells size len (.slice base' len cap)).run C.P { w with drawn := w.drawn + 1 } = .ok old { w with drawn := w.drawn + 1 }) (hnew : (Builtin.firstCells size n y').run C.P { w with drawn := w.drawn + 1 } = .ok new { w with drawn := w.drawn + 1 })
    (h1 : old.size = len * size) (h2 : new.size = n * size) :
    ∃ D newCap, (execOp a.eval o).run C.P w = .ok (.value (.slice (some ⟨w.heap.size, 0, none⟩) (len + n) newCap)) { w with drawn := w.drawn + 1, heap := w.heap.push (.cells D e) } ∧ len + n ≤ newCap ∧ D.size = newCap * size ∧ D.toList.take (old.size + new.size) = (old ++ new).toList := by
  obtain ⟨i, z, g1, g2, g3, g4, g5⟩ := tzero_some hz
  have hbi : i.bytes = bytes := by simp [tbytes, g1] at hb; exact hb
  have hzc := vcells_cells g3
  have hzs : z.cells.size = size := by rw [← hzl, ← hzc]; simp
  have hnc := nextcap_le (len + n) cap hcap
  have hbound : ¬ (Builtin.nextslicecap (len + n) cap * bytes > 2 ^ 48) := by
    have : Builtin.nextslicecap (len + n) cap * bytes ≤ (2 * (len + n) + 1000) * bytes := Nat.mul_le_mul_right _ hnc
    have e : (2 * (len + n) + 1000) * bytes = 2 * ((len + n) * bytes) + 1000 * bytes := by rw [Nat.add_mul, Nat.mul_assoc]
    have : 1 * bytes ≤ (len + n) * bytes := Nat.mul_le_mul_right _ (by omega)
    omega
  let q : Question := .appendCap (len + n) cap e
  let newCap := q.cut (w.tape w.drawn q)
  have hge : len + n ≤ newCap := by
    show len + n ≤ len + n + _
    omega
  refine ⟨old ++ new ++ Builtin.zeroCells z.cells (newCap - (len + n)), newCap, ?_, hge, ?_, ?_⟩
  · have hm : ((ud matches TypeDesc.int _) : Bool) = false := by cases ud <;> first | rfl | exact absurd rfl (hui _)
    simp only [execOp, ho, resolve, List.map_toArray, List.map_cons, List.map_nil, invoke, builtin, Builtin.append_, Sem.run_bind, Sem.run_pure, Result.andThen_ok, ex, ey]
    simp only [Builtin.append_, List.getElem?_toArray, List.getElem?_cons_zero, List.getElem?_cons_succ, Array.map, Sem.run_bind, run_underlying hu, Result.andThen_ok, run_size hk, run_underlying hud, Sem.run_pure, hl]
    simp only [Bool.false_eq_true, if_false, Sem.run_bind, hl, Result.andThen_ok]
    rw [if_neg (by omega)]
    simp only [Sem.run_bind, run_typeInfo g1, Result.andThen_ok, hbi]
    rw [if_neg (by simp [hb0])]
    simp only [Sem.run_bind, run_typeInfo g1, Result.andThen_ok, hbi]
    rw [if_neg hbound]
    simp only [Sem.run_bind, run_typeInfo g1, Result.andThen_ok, hbi, run_choose, Question.forced, Bool.false_eq_true, if_false, run_askRoom, hold, hnew, Bool.not_false, if_true, run_zero g1 g2, Sem.run_pure, run_newRow]
    rfl
  · simp only [Array.size_append, h1, h2, zeroCells_size, hzs]
    rw [← Nat.add_mul, ← Nat.add_mul]
    congr 1
    omega
  · simp only [Array.toList_append]
    rw [List.take_left' (by simp)]

/-- An append that stays where it is. -/
theorem run_stay {t u e : TypeId} {ud : TypeDesc} {size len n cap : Nat} {base' : Option Addr} {y' : Value} {new : Array Value} {x y : Operand} {w' : World}
    (ho : o.op = .call { callee := .builtin .append, args := #[x, y], argTypes := #[t, u] }) (hu : C.P.underlying t = some (.slice e)) (hud : C.P.underlying u = some ud) (hui : ∀ k, ud ≠ .int k) (hk : tsize C.P e = some size)
    (ex : a.eval x = .slice base' len cap) (ey : a.eval y = y') (hl : ∀ w : World, (Builtin.lenOf y').run C.P w = .ok n w) (hcap : len + n ≤ cap)
    (hnew : (Builtin.firstCells size n y').run C.P w = .ok new w) (hst : ∀ ad, base' = some ad → (storeCells (ad.add (len * size)) new.toList).run C.P w = .ok () w') (hno : base' = none → w' = w) :
    (execOp a.eval o).run C.P w = .ok (.value (.slice base' (len + n) cap)) w' := by
  have hm : ((ud matches TypeDesc.int _) : Bool) = false := by cases ud <;> first | rfl | exact absurd rfl (hui _)
  simp only [execOp, ho, resolve, List.map_toArray, List.map_cons, List.map_nil, invoke, builtin, Builtin.append_, Sem.run_bind, Sem.run_pure, Result.andThen_ok, ex, ey]
  simp only [Builtin.append_, List.getElem?_toArray, List.getElem?_cons_zero, List.getElem?_cons_succ, Array.map, Sem.run_bind, run_underlying hu, Result.andThen_ok, run_size hk, run_underlying hud, Sem.run_pure, hl]
  simp only [Bool.false_eq_true, if_false, Sem.run_bind, hl, Result.andThen_ok]
  rw [if_pos hcap]
  simp only [Sem.run_bind, Bool.not_false, if_true, hnew, Result.andThen_ok]
  cases base' with
  | none => rw [hno rfl]; rfl
  | some ad => simp only [Sem.run_bind, hst ad rfl, Result.andThen_ok, Sem.run_pure]

theorem s_append {t u e : TypeId} {ud : TypeDesc} {size bytes : Nat} {zs : List Value} {x y : Operand} {xv yv v : Value} {h1 : AH}
    (ho : o.op = .call { callee := .builtin .append, args := #[x, y], argTypes := #[t, u] }) (hu : C.P.underlying t = some (.slice e)) (hud : C.P.underlying u = some ud) (hui : ∀ k, ud ≠ .int k) (hk : tsize C.P e = some size) (hb : tbytes C.P e = some bytes) (hs0 : size ≠ 0) (hb0 : bytes ≠ 0) (hb1 : bytes ≤ 65536)
    (hz : tzero C.P e = some zs) (hzl : zs.length = size) (H : HR C γ h w) (hx : VR C γ xv (a.eval x)) (hy : VR C γ yv (a.eval y)) (hs : sappend h size bytes xv yv = some (v, h1)) : OutOk C γ h o a w (.val v h1) := by
  unfold sappend at hs
  split at hs
  · rename_i base len cap n hn
    split at hs
    · simp at hs
    · rename_i new hf
      split at hs
      · simp at hs
      · rename_i hsm
        obtain ⟨new', f1, f2, f3, f4, _⟩ := firstOf_run H hy hn (Nat.le_refl n) hf
        have f5 : ∀ w : World, (Builtin.lenOf (a.eval y)).run C.P w = .ok n w := by
          intro w
          generalize a.eval y = yy at hy
          cases hy <;> simp [lenOf] at hn <;> subst hn <;> simp [Builtin.lenOf]
        have HW := H.drew (w.drawn + 1)
        obtain ⟨new2, g1, g2, g3, g4, _⟩ := firstOf_run HW hy hn (Nat.le_refl n) hf
        have hsz2 : new2.size = n * size := by rw [← Array.length_toList, ← g2.length, g3]
        -- a new row
        have grow : ∀ {cap' : Nat} {base' : Option Addr} {old : List Value} {old' : Array Value} {hh : AH}, a.eval x = .slice base' len cap' → cap' < len + n →
            (Builtin.firstCells size len (.slice base' len cap')).run C.P { w with drawn := w.drawn + 1 } = .ok old' { w with drawn := w.drawn + 1 } → FA2 (VR C γ) old old'.toList → old.length = len * size → (∀ x ∈ old, x.oneCell' = true) →
            HR C γ hh { w with drawn := w.drawn + 1 } → hh.next = h.next → OutOk C γ h o a w (.val (.slice (some ⟨hh.next, 0, some size⟩) (len + n) (len + n)) (hh.alloc (.cells (old ++ new) true false))) := by
          intro cap' base' old old' hh ex hcap hold hR hl h1 HH hhn
          have hosz : old'.size = len * size := by rw [← Array.length_toList, ← hR.length, hl]
          obtain ⟨D, newCap, k1, k2, k3, k4⟩ := run_grow ho hu hud hui hk hb hb0 hb1 hz hzl ex rfl f5 hcap (by omega) hold g1 hosz hsz2
          have hRR : FA2 (VR C γ) (old ++ new) (D.toList.take (old ++ new).length) := by
            rw [List.length_append, hl, g3, ← hosz, ← hsz2, k4, Array.toList_append]
            exact hR.append g2
          have hDl : (old ++ new).length ≤ D.size := by
            rw [List.length_append, hl, g3, k3, ← Nat.add_mul]
            exact Nat.mul_le_mul_right _ k2
          have hlow : C.base ≤ ({ w with drawn := w.drawn + 1 } : World).heap.size := HH.size
          have hs0' := gset_sub (x := (({ w with drawn := w.drawn + 1 } : World).heap.size, 0, D.size)) (HH.dom _ (Nat.le_refl _))
          obtain ⟨q1, q2⟩ := HH.alloc (o := .cells (old ++ new) true false) (obj := .cells D e) (N := D.size) (BR.new (VR.monoL hs0' hRR) hDl (by
            intro x hx
            rcases List.mem_append.1 hx with hx | hx
            · exact h1 x hx
            · exact g4 x hx) hlow)
          refine ⟨_, _, _, k1, ⟨q1, fun b hb => by unfold gset; rw [if_neg (by omega)], by rw [AH.alloc_next]; omega⟩, q2, ?_⟩
          have hg : gset γ hh.next (({ w with drawn := w.drawn + 1 } : World).heap.size, 0, D.size) hh.next = some (w.heap.size, 0, D.size) := by simp [gset]
          exact VR.slI (s := 0) (o := 0) hg (Nat.le_refl _) k2 (by rw [k3]; omega)
        cases base with
        | none =>
          simp only at hs
          split at hs
          · rename_i h00
            obtain ⟨rfl, rfl⟩ := h00
            have hxe : a.eval x = .slice none 0 0 := by generalize a.eval x = y at hx; cases hx; rfl
            split at hs
            · rename_i hn0
              subst hn0
              simp only [Option.some.injEq, Prod.mk.injEq] at hs
              obtain ⟨rfl, rfl⟩ := hs
              have := run_stay (w' := w) ho hu hud hui hk hxe rfl f5 (Nat.le_refl 0) f1 (by simp) (by simp)
              exact ⟨_, _, γ, this, .same (Nat.le_refl _), H, .sl0⟩
            · rename_i hn0
              simp only [Option.some.injEq, Prod.mk.injEq] at hs
              obtain ⟨rfl, rfl⟩ := hs
              have := grow (old := []) (old' := #[]) (hh := h) hxe (by omega) (by simp [Builtin.firstCells]) .nil (by simp) (by simp) HW rfl
              simpa using this
          · simp at hs
        | some ad =>
          simp only at hs
          obtain ⟨b0, o0, spot⟩ := ad
          have nilcase : n = 0 → len ≤ cap → ∀ {base' : Option Addr} {c' : Nat}, a.eval x = .slice base' len c' → len ≤ c' → OutOk C γ h o a w (.val (.slice (some ⟨b0, o0, spot⟩) len cap) h) := by
            intro hn0 _ base' c' hxe hcc
            subst hn0
            have hnil : new'.toList = [] := by
              have := f2.length
              rw [f3] at this
              exact List.eq_nil_of_length_eq_zero (by omega)
            have := run_stay (w' := w) ho hu hud hui hk hxe rfl f5 (by omega) f1 (by intro ad _; rw [hnil]; simp [storeCells]) (by simp)
            rw [Nat.add_zero] at this
            refine ⟨_, _, γ, this, .same (Nat.le_refl _), H, ?_⟩
            rw [← hxe]
            exact hx
          have staycase : ∀ {B s N c' : Nat} {h2 : AH}, γ b0 = some (B, s, N) → a.eval x = .slice (some ⟨B, s + o0, none⟩) len c' → len + n ≤ c' → h.store b0 (o0 + len * size) new = some h2 → VR C γ (.slice (some ⟨b0, o0, spot⟩) (len + n) cap) (.slice (some ⟨B, s + o0, none⟩) (len + n) c') →
              OutOk C γ h o a w (.val (.slice (some ⟨b0, o0, spot⟩) (len + n) cap) h2) := by
            intro B s N c' h2 hgb hxe hcc hst hv
            obtain ⟨w', m1, m2⟩ := H.store hgb f2 f4 hst
            have := run_stay (w' := w') ho hu hud hui hk hxe rfl f5 hcc f1 (by
              intro ad2 e2
              simp at e2
              subst e2
              rw [addr_add, Nat.add_assoc]
              exact m1) (by simp)
            exact ⟨_, _, γ, this, .same (by rw [store_next hst]; exact Nat.le_refl _), m2, hv⟩
          split at hs
          · rename_i hle
            split at hs
            · rename_i hn0
              simp only [Option.some.injEq, Prod.mk.injEq] at hs
              obtain ⟨rfl, rfl⟩ := hs
              generalize hxe : a.eval x = xx at hx
              cases hx with
              | slX hh => exact nilcase hn0 (by omega) hxe (by omega)
              | slI hh q1 q2 q3 => exact nilcase hn0 (by omega) hxe (by omega)
              | slE hh => exact nilcase hn0 (by omega) hxe (by omega)
            · rename_i hn0
              split at hs
              · rename_i h2 hst
                simp only [Option.some.injEq, Prod.mk.injEq] at hs
                obtain ⟨rfl, rfl⟩ := hs
                simp only at hst
                generalize hxe : a.eval x = xx at hx
                cases hx with
                | slX hh => exact staycase hh hxe hle hst (.slX hh)
                | slI hh q1 q2 q3 => exact staycase hh hxe (by omega) hst (.slI hh hle q2 q3)
                | slE hh => omega
              · simp at hs
          · rename_i hgt
            split at hs
            · rename_i old c g ro hold hget
              simp only at hold hget hs
              split at hs
              · simp only [Option.some.injEq, Prod.mk.injEq] at hs
                obtain ⟨rfl, rfl⟩ := hs
                generalize hxe : a.eval x = xx at hx
                cases hx with
                | slX hh =>
                  obtain ⟨l', r1, r2, r3, r4, _⟩ := HW.load hh hold
                  exact grow hxe (by omega) (by simpa [Builtin.firstCells] using r1) r2 r3 r4 HW rfl
              · rename_i k
                split at hs
                · rename_i hk2
                  obtain ⟨rfl, rfl⟩ := hk2
                  simp only [Option.some.injEq, Prod.mk.injEq] at hs
                  obtain ⟨rfl, rfl⟩ := hs
                  generalize hxe : a.eval x = xx at hx
                  cases hx with
                  | slE hh =>
                    have hl0 : old = [] := by
                      obtain ⟨_, _, _, r3, _⟩ := HW.load hh hold
                      simpa using r3
                    subst hl0
                    exact grow (old := []) (old' := #[]) hxe (by omega) (by simp [Builtin.firstCells, loadCells, loadCellsFrom]) .nil (by simp) (by simp) (HW.kill _) rfl
                  | slI hh q1 q2 q3 =>
                    rename_i B s N c'
                    by_cases hfit : len + n ≤ c'
                    · obtain ⟨D, E, lo, hi, e1, e2, e3, e4, e5, _, e6⟩ := H.cells hh hget
                      have e7 := e6 rfl
                      have q5 : (len + n) * k ≤ c' * k := Nat.mul_le_mul_right _ hfit
                      rw [Nat.add_mul] at q5
                      have hlen := f2.length
                      have hnl0 : new'.toList.length = n * k := by omega
                      have hnl1 : new'.size = n * k := by rw [← Array.length_toList]; exact hnl0
                      have hDl : D.toList.length = D.size := by simp
                      have hone : ∀ x ∈ new'.toList, x.oneCell' = true := by
                        intro x hx
                        obtain ⟨i, hi⟩ := List.getElem?_of_mem hx
                        have hlt := (List.getElem?_eq_some_iff.1 hi).1
                        obtain ⟨y, hy, hr⟩ := f2.get (List.getElem?_eq_getElem (by omega : i < new.length))
                        rw [hi] at hy
                        simp only [Option.some.injEq] at hy; subst hy
                        rw [hr.one]
                        exact f4 _ (List.getElem_mem _)
                      have hst := run_storeCells (P := C.P) (B := B) (o := s + o0 + len * k) (E := E) e7.2 new'.toList 0 D w e1 e2 (by omega) hone
                      obtain ⟨oldl, r1, r2, r3, r4, r5⟩ := H.load hh hold
                      have hD2 : (old ++ new).length = len * k + n * k := by rw [List.length_append, r3, f3]
                      have hR : FA2 (VR C γ) (old ++ new) ((((splice D.toList (s + o0 + len * k + 0) new'.toList).toArray.toList.drop (s + o0)).take (old ++ new).length)) := by
                        have e9 : ((splice D.toList (s + o0 + len * k + 0) new'.toList).toArray.toList.drop (s + o0)).take (old ++ new).length = ((D.toList.drop (s + o0)).take (len * k)) ++ new'.toList := by
                          apply List.ext_getElem?
                          intro j
                          simp only [splice, hD2, Nat.add_zero, List.getElem?_take, List.getElem?_drop, List.getElem?_append, List.length_take, List.length_drop, Array.length_toList]
                          have m1 : min (s + o0 + len * k) D.size = s + o0 + len * k := by omega
                          have m2 : min (len * k) (D.size - (s + o0)) = len * k := by omega
                          rw [m1, m2]
                          have hnl : new'.toList.length = n * k := by omega
                          by_cases j1 : j < len * k
                          · simp [j1, show s + o0 + j < s + o0 + len * k by omega, show j < len * k + n * k by omega]
                          · rw [if_neg (show ¬ s + o0 + j < s + o0 + len * k by omega), if_neg j1]
                            have q : s + o0 + j - (s + o0 + len * k) = j - len * k := by omega
                            rw [q]
                            by_cases j2 : j < len * k + n * k
                            · simp only [j2, if_true, show j - len * k < new'.size by omega]
                            · rw [if_neg j2]
                              rw [List.getElem?_eq_none (by omega)]
                        rw [e9]
                        refine FA2.append ?_ f2
                        have e10 : oldl.toList = (D.toList.drop (s + o0)).take (len * k) := by
                          have := run_loadCells_list (P := C.P) w ⟨B, s + o0, none⟩ ((D.toList.drop (s + o0)).take (len * k)) (fun j v hj => by
                            have hj2 : j < len * k := by
                              have := (List.getElem?_eq_some_iff.1 hj).1
                              simp at this; omega
                            rw [List.getElem?_take, if_pos hj2, List.getElem?_drop] at hj
                            rw [addr_add, cell_of e1]
                            simpa [Nat.add_assoc] using hj)
                          have hl : ((D.toList.drop (s + o0)).take (len * k)).length = len * k := by simp; omega
                          rw [hl, r1] at this
                          simp only [Result.ok.injEq, and_true] at this
                          rw [this]
                        rw [← e10]
                        exact r2
                      obtain ⟨z1, z2⟩ := H.retarget (s2 := s + o0) hh hget e1 (c' := old ++ new) (D' := (splice D.toList (s + o0 + len * k + 0) new'.toList).toArray) (by rw [List.size_toArray, splice_length (by omega)]; simp) (by omega) hR (by
                        intro x hx
                        rcases List.mem_append.1 hx with hx | hx
                        · exact r4 x hx
                        · exact f4 x hx)
                      have := run_stay ho hu hud hui hk hxe rfl f5 hfit f1 (by
                        intro ad2 e2
                        simp at e2
                        subst e2
                        rw [addr_add]
                        exact hst) (by simp)
                      refine ⟨_, _, _, this, ⟨z1, fun b hb => by unfold gset; rw [if_neg (by omega)], by rw [AH.alloc_next, AH.put_next]; omega⟩, z2, ?_⟩
                      have hg : gset γ h.next (B, s + o0, N) h.next = some (B, s + o0, N) := by simp [gset]
                      exact VR.slI (o := 0) hg (Nat.le_refl _) hfit (by omega)
                    · obtain ⟨l', r1, r2, r3, r4, _⟩ := HW.load hh hold
                      exact grow hxe (by omega) (by simpa [Builtin.firstCells] using r1) r2 r3 r4 (HW.kill _) rfl
                · simp at hs
            · simp at hs
  · simp at hs

theorem s_copy {t u e : TypeId} {size : Nat} {x y : Operand} {xv yv v : Value} {h1 : AH}
    (ho : o.op = .call { callee := .builtin .copy, args := #[x, y], argTypes := #[t, u] }) (hu : C.P.underlying t = some (.slice e)) (hk : tsize C.P e = some size)
    (H : HR C γ h w) (hx : VR C γ xv (a.eval x)) (hy : VR C γ yv (a.eval y)) (hs : scopy h size xv yv = some (v, h1)) : OutOk C γ h o a w (.val v h1) := by
  unfold scopy at hs
  split at hs
  · rename_i base len cap n hn
    split at hs
    · simp at hs
    · rename_i new hf
      obtain ⟨new', f1, f2, f3, f4, f5⟩ := firstOf_run H hy hn (Nat.min_le_left n len) hf
      have run : ∀ {base' : Option Addr} {c' : Nat} {w' : World}, a.eval x = .slice base' len c' → (∀ ad, base' = some ad → (storeCells ad new'.toList).run C.P w = .ok () w') → (base' = none → w' = w) →
          (execOp a.eval o).run C.P w = .ok (.value (.int .i64 (min n len : Nat))) w' := by
        intro base' c' w' ex hst hno
        simp only [execOp, ho, resolve, List.map_toArray, List.map_cons, List.map_nil, invoke, builtin, Sem.run_bind, Sem.run_pure, Result.andThen_ok, ex]
        simp only [Builtin.copy_, List.getElem?_toArray, List.getElem?_cons_zero, List.getElem?_cons_succ, Array.map, Sem.run_bind, run_underlying hu, Result.andThen_ok, run_size hk, Sem.run_pure, f5, Nat.min_def]
        have e1 : (if n ≤ len then n else len) = min n len := by rw [Nat.min_def]
        simp only [e1, f1, Result.andThen_ok]
        cases base' with
        | none => rw [hno rfl]; simp [goInt]
        | some ad => simp [hst ad rfl, goInt]
      cases base with
      | none =>
        simp only [Option.some.injEq, Prod.mk.injEq] at hs
        obtain ⟨rfl, rfl⟩ := hs
        have hxe : ∃ c', a.eval x = .slice none len c' := by generalize a.eval x = xx at hx; cases hx; exact ⟨_, rfl⟩
        obtain ⟨c', hxe⟩ := hxe
        exact ⟨_, _, γ, run (w' := w) hxe (by simp) (by simp), .same (Nat.le_refl _), H, .int⟩
      | some ad =>
        obtain ⟨b0, o0, spot⟩ := ad
        simp only at hs
        obtain ⟨B, s, N, o', c', hgb, hxe, ho'⟩ := hx.slice_inv
        split at hs
        · rename_i h0
          simp only [Option.some.injEq, Prod.mk.injEq] at hs
          obtain ⟨rfl, rfl⟩ := hs
          have hnil : new'.toList = [] := by
            have := f2.length
            rw [f3, h0] at this
            exact List.eq_nil_of_length_eq_zero (by omega)
          have := run (w' := w) hxe (by intro ad _; rw [hnil]; simp [storeCells]) (by simp)
          rw [h0] at this
          exact ⟨_, _, γ, this, .same (Nat.le_refl _), H, .int⟩
        · rename_i h0
          split at hs
          · rename_i h2 hst
            simp only [Option.some.injEq, Prod.mk.injEq] at hs
            obtain ⟨rfl, rfl⟩ := hs
            have hoo : o' = s + o0 := by
              rcases ho' with e | e
              · exact e
              · omega
            subst hoo
            obtain ⟨w', m1, m2⟩ := H.store hgb f2 f4 hst
            exact ⟨_, _, γ, run hxe (by intro ad e2; simp at e2; subst e2; exact m1) (by simp), .same (by rw [store_next hst]; exact Nat.le_refl _), m2, .int⟩
          · simp at hs
  · simp at hs

theorem s_clear {t e : TypeId} {x : Operand} {zs : List Value} {ad : Addr} {n cp : Nat} {h1 : AH} (ho : o.op = .call { callee := .builtin .clear, args := #[x], argTypes := #[t] }) (hu : C.P.underlying t = some (.slice e)) (hz : tzero C.P e = some zs)
    (H : HR C γ h w) (hx : VR C γ (.slice (some ad) n cp) (a.eval x)) (hn : n ≠ 0) (hs : h.store ad.block ad.off (Builtin.zeroCells zs.toArray n).toList = some h1) : OutOk C γ h o a w (.val (.tuple #[]) h1) := by
  obtain ⟨B, s, N, o', c', hgb, hxe, ho'⟩ := hx.slice_inv
  obtain ⟨i, z, g1, g2, g3, g4, g5⟩ := tzero_some hz
  have hoo : o' = s + ad.off := by
    rcases ho' with e | e
    · exact e
    · omega
  subst hoo
  have hzc : z.cells = zs.toArray := by
    have := vcells_cells g3
    rw [← this]
  have hmem : ∀ y ∈ (Builtin.zeroCells zs.toArray n).toList, y ∈ zs := by
    intro y hy
    simp only [Builtin.zeroCells, Array.toList_map, List.mem_map, Array.mem_toList_iff, Array.mem_range] at hy
    obtain ⟨k, hk, rfl⟩ := hy
    simp only [List.size_toArray] at hk ⊢
    have hpos : 0 < zs.length := by
      rcases Nat.eq_zero_or_pos zs.length with e | e
      · rw [e] at hk; simp at hk
      · exact e
    have hlt : k % zs.length < zs.length := Nat.mod_lt _ hpos
    rw [getElem!_pos zs.toArray _ (by simpa using hlt)]
    simp
  have hp : (Builtin.zeroCells zs.toArray n).toList.all plain1 = true := by
    rw [List.all_eq_true]
    intro y hy
    exact List.all_eq_true.1 g4 y (hmem y hy)
  obtain ⟨w', m1, m2⟩ := H.store hgb (plains_VR hp) (fun y hy => plain1_one (List.all_eq_true.1 hp y hy)) hs
  refine ⟨.tuple #[], w', γ, ?_, .same (by rw [store_next hs]; exact Nat.le_refl _), m2, .tuple .nil⟩
  simp only [execOp, ho, resolve, List.map_toArray, List.map_cons, List.map_nil, invoke, builtin, Sem.run_bind, Sem.run_pure, Result.andThen_ok]
  have e1 : Array.map a.eval #[x] = #[.slice (some ⟨B, s + ad.off, none⟩) n c'] := by simp [hxe]
  cases n with
  | zero => exact absurd rfl hn
  | succ n =>
    simp [Builtin.clear_, hxe, run_underlying hu, run_zero g1 g2, hzc, m1]
end
end Go.Jq
