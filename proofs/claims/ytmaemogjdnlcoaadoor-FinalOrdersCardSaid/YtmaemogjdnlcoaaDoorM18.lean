/- The small code's runs are the model's: the theorem. -/
import Derived.Test.YtmaemogjdnlcoaaDoorM17
set_option linter.unusedSimpArgs false
set_option linter.unusedVariables false
namespace Go.Jq
open Go.RowKit

section
variable {C : Ctx} {N : Nat} {os : Array Oper}

theorem cOpers_get {P : Program} {ψ : FuncId → Option Nat} : ∀ {ol : List Oper} {l : List SOper}, cOpers P ψ N os ol = some l → l.length = ol.length ∧ ∀ (i : Nat) (s : SOper), l[i]? = some s → ∃ o, ol[i]? = some o ∧ cOper P ψ N os o = some s
  | [], l, h => by simp [cOpers] at h; subst h; simp
  | o :: ol, l, h => by
    simp only [cOpers] at h
    split at h
    · rename_i a r h1 h2
      simp only [Option.some.injEq] at h; subst h
      obtain ⟨i1, i2⟩ := cOpers_get h2
      refine ⟨by simp [i1], fun i s hs => ?_⟩
      cases i with
      | zero => simp at hs; subst hs; exact ⟨o, rfl, h1⟩
      | succ i => simp at hs; obtain ⟨o', e1, e2⟩ := i2 i s hs; exact ⟨o', by simpa using e1, e2⟩
    · simp at h

/-- Where a member of a region's row comes from. -/
def Src (C : Ctx) (N : Nat) (os : Array Oper) (s : SOper) : Prop := ∃ o s0, os[s.id]? = some o ∧ cOper C.P C.ψ N os o = some s0 ∧ s.op = s0.op ∧ s.dst = s0.dst ∧ s.guard = s0.guard ∧ s.pre = (o.after.toList.filter (Region.binds .any)).map (·.on)

theorem Src.comp {s : SOper} (h : Src C N os s) : ∃ o, os[s.id]? = some o ∧ Comp C N os o s ∧ s.pre = (o.after.toList.filter (Region.binds .any)).map (·.on) := by
  obtain ⟨o, s0, h1, h2, h3, h4, h5, h6⟩ := h
  obtain ⟨g1, g2, g3, g4, g5, _⟩ := cOper_parts h2
  exact ⟨o, h1, ⟨by rw [h4]; exact g1, g2, by rw [h5]; exact g3, by rw [h3]; exact g4, by rw [h3]; exact g5⟩, h6⟩

theorem dSort_mem (rank : SOper → Nat) : ∀ (n : Nat) (l : List SOper) (seen : List Nat) (x : SOper), x ∈ dSort rank n l seen → x ∈ l
  | 0, l, seen, x, h => by simp [dSort] at h
  | n + 1, l, seen, x, h => by
    simp only [dSort] at h
    split at h
    · rename_i o ho
      rcases List.mem_cons.1 h with rfl | h
      · have hr : x ∈ l.filter fun o => o.pre.all seen.contains := by
          generalize (l.filter fun o => o.pre.all seen.contains) = r at ho
          simp only [Option.orElse] at ho
          split at ho
          · rename_i y hy; simp only [Option.some.injEq] at ho; subst ho; exact List.mem_of_find?_eq_some hy
          · split at ho
            · rename_i y hy; simp only [Option.some.injEq] at ho; subst ho; exact List.mem_of_find?_eq_some hy
            · exact List.mem_of_mem_head? ho
        exact (List.mem_filter.1 hr).1
      · exact (List.mem_filter.1 (dSort_mem rank n _ _ x h)).1
    · simp at h

theorem l0_src {l : List SOper} (h : cOpers C.P C.ψ N os os.toList = some l) : ∀ s ∈ ((os.toList.zip l).zipIdx).map (fun ((o, s), i) => dOper o s i), Src C N os s := by
  intro s hs
  obtain ⟨x, hx, rfl⟩ := List.mem_map.1 hs
  obtain ⟨⟨o, s0⟩, i⟩ := x
  obtain ⟨h1, h2⟩ := cOpers_get h
  have hi := List.mem_zipIdx_iff_getElem?.1 hx
  simp only at hi
  rw [List.getElem?_zip_eq_some] at hi
  simp only at hi
  obtain ⟨o', e1, e2⟩ := h2 i s0 hi.2
  rw [hi.1] at e1
  simp only [Option.some.injEq] at e1
  subst e1
  refine ⟨o, s0, ?_, e2, rfl, rfl, rfl, rfl⟩
  show os[i]? = some o
  rw [← Array.getElem?_toList]
  exact hi.1

theorem dBounds_src {l b : List SOper} (h1 : ∀ s ∈ l, Src C N os s) (h2 : ∀ s ∈ b, Src C N os s) : (∀ s ∈ (dBounds l b).1, Src C N os s) ∧ ∀ s ∈ (dBounds l b).2, Src C N os s := by
  constructor
  · intro s hs
    simp only [dBounds] at hs
    obtain ⟨t, ht, rfl⟩ := List.mem_map.1 hs
    have := h1 t ht
    split
    · exact this
    · split
      · exact this
      · exact this
  · intro s hs
    simp only [dBounds] at hs
    obtain ⟨t, ht, rfl⟩ := List.mem_map.1 hs
    exact h2 t ht

theorem dSplit_src {l : List SOper} (h : cOpers C.P C.ψ N os os.toList = some l) : (∀ x r, dSplit os l = .qreg x r → ∀ s ∈ r, Src C N os s) ∧ ∀ x r b, dSplit os l = .dreg x r b → ∀ s ∈ r ++ b, Src C N os s := by
  have h0 := l0_src h
  unfold dSplit
  simp only
  generalize ((os.toList.zip l).zipIdx).map (fun ((o, s), i) => dOper o s i) = l0 at h0
  split
  · refine ⟨fun x r e => ?_, fun x r b e => by simp at e⟩
    simp only [SCode.qreg.injEq] at e; obtain ⟨-, rfl⟩ := e; exact h0
  · refine ⟨fun x r e => by simp at e, fun x r b e => ?_⟩
    simp only [SCode.dreg.injEq] at e
    obtain ⟨-, rfl, rfl⟩ := e
    obtain ⟨k1, k2⟩ := dBounds_src (C := C) (N := N) (os := os) (l := dSort (fun o => if o.moves = true then 1 else 0) l0.length (l0.filter fun o => !isLast (ancs l0) l0 o) ((l0.filter (isLast (ancs l0) l0)).map (·.id))) (b := l0.filter (isLast (ancs l0) l0))
      (fun s hs => h0 s (List.mem_filter.1 (dSort_mem _ _ _ _ s hs)).1) (fun s hs => h0 s (List.mem_filter.1 hs).1)
    intro s hs
    rcases List.mem_append.1 hs with hs | hs
    · exact k1 s hs
    · exact k2 s hs
end

section
variable {C : Ctx} {N : Nat} {os : Array Oper}

/-- A drawn region, from its canonical course. -/
theorem draw_wp {id : Nat} {L B : List SOper} {F F1 : Fr} {h hK : AH} {Y : List AH} {rs : List Rec} {fl : List (Nat × Nat × ABlk)} {T : List T1} {ss : List St} (R : Reg C N os L B F F1 h hK Y rs fl T ss) (hm : C.P.follows .mixedOrders = true)
    {γ : Gm} {w : World} {a : Act} (H : HR C γ h w) (hF : FR C γ N F a) : (Code.region id os true).wp C.P (Post C γ h N .normal F1 (ss.foldl St.put hK)) a w := by
  refine wp_region_any hm ?_
  obtain ⟨y, Z, e, g⟩ := R.d.head
  have hf0 : ∀ i, Dl (Array.replicate os.size false) i = false := by
    intro i
    unfold Dl
    rw [Array.getD_eq_getD_getElem?, Array.getElem?_replicate]
    split <;> rfl
  have hz : (T.filter fun t => Dl (Array.replicate os.size false) t.s.id) = [] := by
    rw [List.filter_eq_nil_iff]; intro t _; rw [hf0]; simp
  have hk : kOf T (Dl (Array.replicate os.size false)) = 0 := by
    unfold kOf
    have : ((T.filter (·.mv)).filter fun t => Dl (Array.replicate os.size false) t.s.id) = [] := by
      rw [List.filter_eq_nil_iff]; intro t _; rw [hf0]; simp
    rw [this]; rfl
  refine R.any (γ0 := γ) (fun γ' w' a' h1 h2 h3 => ⟨rfl, γ', h1, h2, h3⟩) os.size (Array.replicate os.size false) a { w with drawn := w.drawn + 1 } γ y [] (by simp) (fun i hi => .inr (placesOk_spec R.pl i hi)) (by simp) ?_
  refine ⟨fun s _ hD => by rw [hf0] at hD; simp at hD, by rw [hk, e]; rfl, ⟨Sub.refl γ, fun _ _ => rfl, g.get.1⟩, g.hr (H.drew _), by rw [hz]; exact hF, ?_, ?_⟩
  · intro t ht b blk hb _
    obtain ⟨_, _, _, _, h4, _⟩ := R.d.floats t ht b blk hb
    exact H.dom b h4
  · have : ((B.zip ss).filter fun x => Dl (Array.replicate os.size false) x.1.id) = [] := by
      rw [List.filter_eq_nil_iff]; intro t _; rw [hf0]; simp
    rw [this]

theorem results_run {γ : Gm} {h : AH} {w : World} {F : Fr} {a : Act} (H : HR C γ h w) (hF : FR C γ N F a) : ∀ {rv : List ResultVar} {rs : List SRes} {vs : List Value}, cRes C.P N rv = some rs → resultsOf F h rs = some vs →
    ∃ vs', (rv.mapM fun | .tmp t => pure (a.tmps.getD t undef) | .cell ad t => do loadVar t (← asAddr (a.tmps.getD ad undef)) : Sem (List Value)).run C.P w = .ok vs' w ∧ FA2 (VR C γ) vs vs'
  | [], rs, vs, h1, h2 => by
    simp [cRes] at h1; subst h1
    simp [resultsOf] at h2; subst h2
    exact ⟨[], by simp, .nil⟩
  | .tmp t :: rv, rs, vs, h1, h2 => by
    simp only [cRes] at h1
    split at h1
    · rename_i l hl
      split at h1
      · simp only [Option.some.injEq] at h1; subst h1
        simp only [resultsOf] at h2
        split at h2
        · rename_i v l' e1 e2
          simp only [Option.some.injEq] at h2; subst h2
          obtain ⟨vs', k1, k2⟩ := results_run H hF hl e2
          obtain ⟨v', g1, g2⟩ := hF.get t v e1
          refine ⟨v' :: vs', ?_, .cons g2 k2⟩
          simp only [List.mapM_cons, Sem.run_bind, Sem.run_pure, Result.andThen_ok, k1]
          rw [Array.getD_eq_getD_getElem?, g1]
          rfl
        · simp at h2
      · simp at h1
    · simp at h1
  | .cell ad t :: rv, rs, vs, h1, h2 => by
    simp only [cRes] at h1
    split at h1
    · rename_i d n l hu hn hl
      simp only [Option.some.injEq] at h1; subst h1
      simp only [resultsOf] at h2
      split at h2
      · rename_i v l' e1 e2
        simp only [Option.some.injEq] at h2; subst h2
        obtain ⟨vs', k1, k2⟩ := results_run H hF hl e2
        have key : ∃ v', (do loadVar t (← asAddr (a.tmps.getD ad undef)) : Sem Value).run C.P w = .ok v' w ∧ VR C γ v v' := by
          cases ha : aggD d with
          | true =>
            rw [ha] at e1
            simp only [if_true, resultOf] at e1
            split at e1
            · rename_i b off hb
              split at e1
              · rename_i cs hcs
                simp only [Option.some.injEq] at e1; subst e1
                simp only [Option.bind_eq_some_iff] at hb
                obtain ⟨u, hu1, hu2⟩ := hb
                obtain ⟨u', g1, g2⟩ := hF.get ad u hu1
                obtain ⟨Bk, s, M, q1, rfl⟩ := g2.ptr_inv hu2
                obtain ⟨l', m1, m2, _, m4, _⟩ := H.load q1 hcs
                refine ⟨.agg l', ?_, .agg (by simpa using m2) (by simpa using m4)⟩
                rw [Array.getD_eq_getD_getElem?, g1]
                simp [asAddr, loadVar, run_agg hu, ha, run_size hn, m1]
              · simp at e1
            · simp at e1
          | false =>
            rw [ha] at e1
            simp only [Bool.false_eq_true, if_false, resultOf] at e1
            split at e1
            · rename_i b off hb
              simp only [Option.bind_eq_some_iff] at hb
              obtain ⟨u, hu1, hu2⟩ := hb
              obtain ⟨u', g1, g2⟩ := hF.get ad u hu1
              obtain ⟨Bk, s, M, q1, rfl⟩ := g2.ptr_inv hu2
              obtain ⟨v', m1, m2, _⟩ := H.load1 q1 e1
              refine ⟨v', ?_, m2⟩
              rw [Array.getD_eq_getD_getElem?, g1]
              simp [asAddr, loadVar, run_agg hu, ha, m1]
            · simp at e1
        obtain ⟨v', g1, g2⟩ := key
        refine ⟨v' :: vs', ?_, .cons g2 k2⟩
        simp only [List.mapM_cons, Sem.run_bind] at g1 ⊢
        simp only [g1, Result.andThen_ok, k1, Sem.run_pure]
      · simp at h2
    · simp at h1

theorem oneOf_VR {γ : Gm} {vs vs' : List Value} (h : FA2 (VR C γ) vs vs') : VR C γ (oneOf vs) (if hh : vs'.toArray.size = 1 then vs'.toArray[0] else .tuple vs'.toArray) := by
  cases h with
  | nil => exact .tuple .nil
  | cons h1 h2 =>
    cases h2 with
    | nil => exact h1
    | cons h3 h4 => exact .tuple (.cons h1 (.cons h3 h4))
end
end Go.Jq
