/- A region that draws its order, whole. -/
import Derived.Test.YtmaemogjdnlcoaaDoorM15
set_option linter.unusedSimpArgs false
set_option linter.unusedVariables false
namespace Go.Jq
open Go.RowKit

section
variable {C : Ctx} {N : Nat} {os : Array Oper} {L B : List SOper} {F F1 : Fr} {h hK : AH} {Y : List AH} {rs : List Rec} {fl : List (Nat × Nat × ABlk)} {T : List T1} {ss : List St}

theorem foldl_put_perm {l m : List St} (hp : l.Perm m) (ha : m.Pairwise St.apart) (h : AH) : l.foldl St.put h = m.foldl St.put h := by
  refine hp.foldl_eq' ?_ h
  intro x hx y hy z
  have hx' := hp.mem_iff.1 hx
  have hy' := hp.mem_iff.1 hy
  clear hp hx hy
  induction ha with
  | nil => simp at hx'
  | cons h1 _ ih =>
    rcases List.mem_cons.1 hx' with e1 | e1 <;> rcases List.mem_cons.1 hy' with e2 | e2
    · subst e1 e2; rfl
    · subst e1; exact St.put_comm (h1 y e2) z
    · subst e2; exact (St.put_comm (h1 x e1) z).symm
    · exact ih e1 e2

theorem placesOk_spec {n : Nat} {l : List SOper} (h : placesOk n l = true) : (∀ i, i < n → ∃ s ∈ l, s.id = i) := by
  simp only [placesOk, Bool.and_eq_true, List.all_eq_true, List.any_eq_true, beq_iff_eq, List.mem_range] at h
  exact fun i hi => h.2 i hi

/-- at a place -/
def Dl (listed : Array Bool) (i : Nat) : Bool := listed.getD i false

theorem Reg.any (R : Reg C N os L B F F1 h hK Y rs fl T ss) {γ0 : Gm} {Q : Exit → Act → World → Prop}
    (hQ : ∀ γ' w' a', GX h γ0 γ' (ss.foldl St.put hK) → HR C γ' (ss.foldl St.put hK) w' → FR C γ' N F1 a' → Q .normal a' w') :
    ∀ (fuel : Nat) (listed : Array Bool) (a : Act) (w : World) (γ : Gm) (y : AH) (Z : List (SOper × St)), listed.size = os.size → (∀ i, i < os.size → (listed.getD i false = true ∨ ∃ s ∈ L ++ B, s.id = i)) →
    (listed.toList.filter (fun b => !b)).length ≤ fuel → RS C N L B F h Y T ss γ0 (Dl listed) a w γ y Z → wpAny C.P .any os Q fuel listed a w := by
  have hdc := R.dc
  simp only [dcheck, Bool.and_eq_true, List.all_eq_true] at hdc
  obtain ⟨⟨⟨hids, _⟩, _⟩, _⟩ := hdc
  obtain ⟨hplt, hpw⟩ := idsOk_spec hids
  have hpl := placesOk_spec R.pl
  -- at the end
  have done : ∀ (listed : Array Bool) (a : Act) (w : World) (γ : Gm) (y : AH) (Z : List (SOper × St)), listed.size = os.size → Region.ready .any os listed = [] → RS C N L B F h Y T ss γ0 (Dl listed) a w γ y Z → Q .normal a w := by
    intro listed a w γ y Z hsz hr S
    have hall : ∀ n i, i < n → i < os.size → Dl listed i = true := by
      intro n
      induction n with
      | zero => intro i hi; omega
      | succ n ih =>
        intro i hi his
        cases hD : Dl listed i with
        | true => rfl
        | false =>
          obtain ⟨s, hs, rfl⟩ := hpl i his
          obtain ⟨o, ho, hc, he⟩ := R.comp s hs
          have : s.id ∈ Region.ready .any os listed := by
            simp only [Region.ready, List.mem_filter, List.mem_range, Bool.and_eq_true, Bool.not_eq_true']
            refine ⟨his, ?_, ?_⟩
            · unfold Dl at hD
              rw [Array.getD_eq_getD_getElem?] at hD ⊢
              rw [Array.getElem?_eq_getElem (by omega)] at hD ⊢
              simpa using hD
            · rw [ho]
              simp only [Option.map_some, Option.getD_some]
              rw [Array.all_eq_true']
              intro e hm
              cases hb : Region.binds .any e with
              | false => simp
              | true =>
                simp only [Bool.not_true, Bool.false_or]
                have h1 : e.on ∈ s.pre := by rw [he]; exact List.mem_map.2 ⟨e, List.mem_filter.2 ⟨Array.mem_toList_iff.2 hm, hb⟩, rfl⟩
                have h2 := hplt s hs e.on h1
                exact ih e.on (by omega) (by omega)
          rw [hr] at this
          simp at this
    have hTall : ∀ s ∈ L ++ B, Dl listed s.id = true := by
      intro s hs
      obtain ⟨o, ho, _⟩ := R.comp s hs
      have := (Array.getElem?_eq_some_iff.1 ho).1
      exact hall _ _ (Nat.lt_succ_self _) this
    have hmap := R.d.map
    have hT : (T.filter fun t => Dl listed t.s.id) = T := by
      rw [List.filter_eq_self]
      intro t ht
      exact hTall t.s (by rw [← hmap]; exact List.mem_append.2 (.inl (List.mem_map.2 ⟨t, ht, rfl⟩)))
    have hB : ((B.zip ss).filter fun x => Dl listed x.1.id) = B.zip ss := by
      rw [List.filter_eq_self]
      intro x hx
      exact hTall x.1 (List.mem_append.2 (.inr (List.of_mem_zip hx).1))
    obtain ⟨zlen, _⟩ := stsOf_zip R.sts
    have hk : kOf T (Dl listed) = (T.filter (·.mv)).length := by
      unfold kOf
      congr 1
      rw [List.filter_eq_self]
      intro t ht
      simp only [List.mem_filter] at ht
      exact hTall t.s (by rw [← hmap]; exact List.mem_append.2 (.inl (List.mem_map.2 ⟨t, ht.1, rfl⟩)))
    have hy : y = hK := by
      have h1 := S.yk
      rw [hk, R.d.last] at h1
      exact (Option.some.inj h1).symm
    subst hy
    have hpm := S.pm
    rw [hB] at hpm
    have hpm2 : (Z.map (·.2)).Perm ss := by
      have := hpm.map (·.2)
      rwa [List.map_snd_zip (by omega)] at this
    have heq := foldl_put_perm hpm2 (stsOk_spec R.ok).2 y
    have h1 := S.hr
    rw [heq] at h1
    have h2 := S.fr
    rw [hT, R.d.fin] at h2
    exact hQ γ w a ⟨S.gx.1, S.gx.2.1, by rw [foldl_put_next]; exact S.gx.2.2⟩ h1 h2
  intro fuel
  induction fuel with
  | zero =>
    intro listed a w γ y Z hsz _ hf S
    have hnone : ∀ b ∈ listed.toList, b = true := by
      intro b hb
      cases b with
      | true => rfl
      | false =>
        have : false ∈ listed.toList.filter (fun b => !b) := by simp [hb]
        have := List.length_pos_of_mem this
        omega
    have hr : Region.ready .any os listed = [] := by
      unfold Region.ready
      rw [List.filter_eq_nil_iff]
      intro i hi
      simp only [List.mem_range] at hi
      have : listed.getD i true = true := by
        rw [Array.getD_eq_getD_getElem?, Array.getElem?_eq_getElem (by omega)]
        exact hnone _ (by simp)
      rw [this]; simp
    exact ⟨hr, done listed a w γ y Z hsz hr S⟩
  | succ fuel ih =>
    intro listed a w γ y Z hsz _ hf S
    refine ⟨fun hr => done listed a w γ y Z hsz hr S, fun i hi => ?_⟩
    simp only [Region.ready, List.mem_filter, List.mem_range, Bool.and_eq_true, Bool.not_eq_true'] at hi
    obtain ⟨his, hil, hib⟩ := hi
    obtain ⟨s, hs, rfl⟩ := hpl i his
    obtain ⟨o, ho, hc, he⟩ := R.comp s hs
    have hil' : listed[s.id]'(by omega) = false := by
      rw [Array.getD_eq_getD_getElem?, Array.getElem?_eq_getElem (by omega)] at hil
      simpa using hil
    have hnew : Dl listed s.id = false := by
      unfold Dl
      rw [Array.getD_eq_getD_getElem?, Array.getElem?_eq_getElem (by omega)]
      simpa using hil'
    have hpre : ∀ j ∈ s.pre, Dl listed j = true := by
      intro j hj
      rw [he] at hj
      obtain ⟨e, h1, rfl⟩ := List.mem_map.1 hj
      obtain ⟨h1, h2⟩ := List.mem_filter.1 h1
      rw [ho] at hib
      simp only [Option.map_some, Option.getD_some, Array.all_eq_true'] at hib
      have := hib e (Array.mem_toList_iff.1 h1)
      rw [h2] at this
      simpa [Dl] using this
    have hmore : Dl (listed.setIfInBounds s.id true) = more (Dl listed) s.id := by
      funext j
      show (listed.setIfInBounds s.id true).getD j false = (j == s.id || listed.getD j false)
      rw [Array.getD_eq_getD_getElem?, Array.getElem?_setIfInBounds, Array.getD_eq_getD_getElem?]
      by_cases e : s.id = j
      · subst e
        simp [show s.id < listed.size by omega]
      · rw [if_neg e]
        have : (j == s.id) = false := by simp; omega
        rw [this, Bool.false_or]
    unfold wpOp
    rw [ho]
    simp only
    have := R.step S hs hnew hpre hc (K := wpAny C.P .any os Q fuel (listed.setIfInBounds s.id true)) (Q := Q) (fun a' w' γ' y' Z' S' => by
      refine ih _ a' w' γ' y' Z' (by simpa using hsz) (fun i hi => .inr (hpl i hi)) ?_ (by rw [hmore]; exact S')
      have : ((listed.setIfInBounds s.id true).toList.filter (fun b => !b)).length + 1 = (listed.toList.filter (fun b => !b)).length := by
        have hlt : s.id < listed.toList.length := by simp; omega
        have e1 : listed.toList = listed.toList.take s.id ++ false :: listed.toList.drop (s.id + 1) := by
          conv => lhs; rw [← List.take_append_drop s.id listed.toList]
          congr 1
          rw [List.drop_eq_getElem_cons hlt]
          congr 1
        have e2 : (listed.setIfInBounds s.id true).toList = listed.toList.take s.id ++ true :: listed.toList.drop (s.id + 1) := by
          rw [Array.toList_setIfInBounds, List.set_eq_take_append_cons_drop, if_pos hlt]
        rw [e2]
        conv => rhs; rw [e1]
        simp only [List.filter_append, List.length_append]
        rw [List.filter_cons_of_neg (by simp), List.filter_cons_of_pos (by simp)]
        rw [List.length_cons, Nat.add_assoc]
      omega)
    split
    · rename_i hw
      rw [if_pos hw] at this
      exact .inl this
    · rename_i hw
      rw [if_neg hw] at this
      exact this
end
end Go.Jq
