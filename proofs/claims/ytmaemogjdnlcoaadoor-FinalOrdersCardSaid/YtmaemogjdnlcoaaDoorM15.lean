/- A region that draws its order: each step. -/
import Derived.Test.YtmaemogjdnlcoaaDoorM14
set_option linter.unusedSimpArgs false
set_option linter.unusedVariables false
namespace Go.Jq
open Go.RowKit

/-- A region that draws its order, and its canonical course. -/
structure Reg (C : Ctx) (N : Nat) (os : Array Oper) (L B : List SOper) (F F1 : Fr) (h hK : AH) (Y : List AH) (rs : List Rec) (fl : List (Nat × Nat × ABlk)) (T : List T1) (ss : List St) : Prop where
  d : DT C N os L F h [] [] [] T F1 hK Y rs fl
  dc : dcheck L B = true
  pl : placesOk os.size (L ++ B) = true
  comp : ∀ s ∈ L ++ B, ∃ o, os[s.id]? = some o ∧ Comp C N os o s ∧ s.pre = (o.after.toList.filter (Region.binds .any)).map (·.on)
  sts : stsOf F1 B = some ss
  ok : stsOk hK ss
  cross : crossOk rs fl B ss

theorem pairsOk_spec {A : List (Nat × Nat)} : ∀ {l : List SOper}, pairsOk A l = true → ∀ X o Z, l = X ++ o :: Z → ∀ p ∈ Z, pairOk A o p = true
  | [], _, X, o, Z, e => by cases X <;> simp at e
  | a :: l, h, X, o, Z, e => by
    simp only [pairsOk, Bool.and_eq_true, List.all_eq_true] at h
    cases X with
    | nil => simp only [List.nil_append, List.cons.injEq] at e; obtain ⟨rfl, rfl⟩ := e; exact h.1
    | cons x X => simp only [List.cons_append, List.cons.injEq] at e; exact pairsOk_spec h.2 X o Z e.2

theorem stsOf_zip {F : Fr} : ∀ {B : List SOper} {ss : List St}, stsOf F B = some ss → ss.length = B.length ∧ ∀ x ∈ B.zip ss, stOf x.1 F = some x.2
  | [], ss, h => by simp [stsOf] at h; subst h; simp
  | o :: B, ss, h => by
    simp only [stsOf] at h
    split at h
    · rename_i s r h1 h2
      simp only [Option.some.injEq] at h; subst h
      obtain ⟨i1, i2⟩ := stsOf_zip h2
      refine ⟨by simp [i1], fun x hx => ?_⟩
      simp only [List.zip_cons_cons, List.mem_cons] at hx
      rcases hx with rfl | hx
      · exact h1
      · exact i2 x hx
    · simp at h

theorem stsOk_spec {h : AH} : ∀ {ss : List St}, stsOk h ss → (∀ s ∈ ss, s.fits h) ∧ ss.Pairwise St.apart
  | [], _ => ⟨by simp, .nil⟩
  | s :: ss, hk => by
    obtain ⟨h1, h2, h3⟩ := hk
    obtain ⟨i1, i2⟩ := stsOk_spec h3
    exact ⟨by intro t ht; rcases List.mem_cons.1 ht with rfl | ht; exact h1; exact i1 t ht, List.pairwise_cons.2 ⟨h2, i2⟩⟩

theorem crossOk_spec {rs : List Rec} {fl : List (Nat × Nat × ABlk)} : ∀ {B : List SOper} {ss : List St}, crossOk rs fl B ss → ∀ x ∈ B.zip ss, (∀ r ∈ rs, x.1.dep.contains r.id = true ∨ r.apart x.2) ∧ ∀ y ∈ fl, x.1.dep.contains y.1 = true ∨ x.2.b ≠ y.2.1
  | [], _, _, x, hx => by simp at hx
  | _ :: _, [], _, x, hx => by simp at hx
  | o :: B, s :: ss, h, x, hx => by
    obtain ⟨h1, h2, h3⟩ := h
    simp only [List.zip_cons_cons, List.mem_cons] at hx
    rcases hx with rfl | hx
    · exact ⟨h1, h2⟩
    · exact crossOk_spec h3 x hx

section
variable {C : Ctx} {N : Nat} {os : Array Oper} {L B : List SOper} {F F1 : Fr} {h hK : AH} {Y : List AH} {rs : List Rec} {fl : List (Nat × Nat × ABlk)} {T : List T1} {ss : List St}

def kOf (T : List T1) (D : Nat → Bool) : Nat := ((T.filter (·.mv)).filter fun t => D t.s.id).length

/-- How things stand when a set of operations has been done. -/
structure RS (C : Ctx) (N : Nat) (L B : List SOper) (F : Fr) (h : AH) (Y : List AH) (T : List T1) (ss : List St) (γ0 : Gm) (D : Nat → Bool) (a : Act) (w : World) (γ : Gm) (y : AH) (Z : List (SOper × St)) : Prop where
  dn : ∀ s ∈ L ++ B, D s.id = true → ∀ j ∈ s.pre, D j = true
  yk : Y[kOf T D]? = some y
  gx : GX h γ0 γ y
  hr : HR C γ ((Z.map (·.2)).foldl St.put y) w
  fr : FR C γ N (fin F (T.filter fun t => D t.s.id)) a
  un : ∀ t ∈ T, ∀ b blk, t.fl = some (b, blk) → D t.s.id = false → γ b = none
  pm : Z.Perm ((B.zip ss).filter fun x => D x.1.id)

def more (D : Nat → Bool) (i : Nat) : Nat → Bool := fun j => j == i || D j

theorem slots_clash {o p : SOper} {t : Nat} (h1 : o.dst = some t) (h2 : t ∈ p.slots) : clash o p = true := by
  unfold clash
  simp [h1, h2]
theorem slots_clash' {o p : SOper} {t : Nat} (h1 : p.dst = some t) (h2 : t ∈ o.slots) : clash o p = true := by
  unfold clash
  simp [h1, h2]

theorem Reg.step (R : Reg C N os L B F F1 h hK Y rs fl T ss) {γ0 : Gm} {D : Nat → Bool} {a : Act} {w : World} {γ : Gm} {y : AH} {Z : List (SOper × St)} (S : RS C N L B F h Y T ss γ0 D a w γ y Z)
    {s : SOper} (hs : s ∈ L ++ B) (hnew : D s.id = false) (hpre : ∀ j ∈ s.pre, D j = true) {o : Oper} (hc : Comp C N os o s) {K : Act → World → Prop} {Q : Exit → Act → World → Prop}
    (k : ∀ a' w' γ' y' Z', RS C N L B F h Y T ss γ0 (more D s.id) a' w' γ' y' Z' → K a' w') : if Region.wanted o (yielded os a.tmps) = true then o.wp C.P a w K Q else K (a.put o.dst undef) w := by
  have hdc := R.dc
  simp only [dcheck, Bool.and_eq_true, List.all_eq_true] at hdc
  obtain ⟨⟨⟨hids, hpairs⟩, hbat⟩, hl⟩ := hdc
  obtain ⟨hplt, hpw⟩ := idsOk_spec hids
  -- what is ahead of one that is done is done
  have hdown : ∀ i r, D i = true → ahead (ancs (byId (L ++ B))) i r = true → D r = true := fun i r hi hr => down hids (D := fun i => D i = true) S.dn i i r (Nat.le_refl i) hi hr
  -- what is ahead of the new one is done
  have hdn' : ∀ u ∈ L ++ B, more D s.id u.id = true → ∀ j ∈ u.pre, more D s.id j = true := by
    intro u hu hD j hj
    simp only [more, Bool.or_eq_true, beq_iff_eq] at hD ⊢
    rcases hD with hD | hD
    · have := id_inj hpw hu hs hD
      subst this
      exact .inr (hpre j hj)
    · exact .inr (S.dn u hu hD j hj)
  have hnewD : ∀ r, ahead (ancs (byId (L ++ B))) s.id r = true → D r = true := by
    intro r hr
    have := down hids (D := fun i => more D s.id i = true) hdn' s.id s.id r (Nat.le_refl _) (by simp [more]) hr
    simp only [more, Bool.or_eq_true, beq_iff_eq] at this
    rcases this with e | e
    · subst e
      obtain ⟨u, hu, e1, j, hj, h0⟩ := anc_spec hids hr
      have hus := id_inj hpw hu hs e1
      subst hus
      have hj1 := hpre j hj
      rcases h0 with h0 | h0
      · rw [h0]; exact hj1
      · exact hdown j _ hj1 h0
    · exact e
  have hmap := R.d.map
  -- batch
  obtain ⟨zlen, zst⟩ := stsOf_zip R.sts
  obtain ⟨okf, okp⟩ := stsOk_spec R.ok
  have hzB : ∀ x ∈ B.zip ss, x.1 ∈ B := fun x hx => (List.of_mem_zip hx).1
  have hdone : ∀ x ∈ Z, x ∈ B.zip ss ∧ D x.1.id = true := by
    intro x hx
    have := S.pm.mem_iff.1 hx
    simpa using this
  -- the moves in T and the places
  have hTL : ∀ t ∈ T, t.s ∈ L := fun t ht => by rw [← hmap]; exact List.mem_map.2 ⟨t, ht, rfl⟩
  have hsplit : ∀ A t X, T = A ++ t :: X → ∀ u ∈ X, pairOk (ancs (byId (L ++ B))) t.s u.s = true := by
    intro A t X e u hu
    refine pairsOk_spec hpairs (A.map (·.s)) t.s (X.map (·.s)) ?_ u.s (List.mem_map.2 ⟨u, hu, rfl⟩)
    rw [← hmap, e]; simp
  have hpo : ∀ {p q : SOper}, pairOk (ancs (byId (L ++ B))) p q = true → ahead (ancs (byId (L ++ B))) q.id p.id = true ∨ (clash p q = false ∧ (p.moves = true → q.moves = false ∧ q.op.float = false)) := by
    intro p q hpq
    simp only [pairOk, Bool.or_eq_true, Bool.and_eq_true, Bool.not_eq_true', Bool.and_eq_false_iff] at hpq
    rcases hpq with hpq | ⟨⟨h1, h2⟩, h3⟩
    · exact .inl hpq
    · refine .inr ⟨h1, fun hm => ?_⟩
      constructor
      · rcases h2 with h2 | h2
        · rw [hm] at h2; simp at h2
        · exact h2
      · rcases h3 with h3 | h3
        · rw [hm] at h3; simp at h3
        · exact h3
  have hlid : ∀ t ∈ T, ∀ u ∈ T, t.s.id = u.s.id → t.s = u.s := fun t ht u hu e => id_inj hpw (by simp [hTL t ht]) (by simp [hTL u hu]) e
  -- the moves that are done are the first ones
  have hpref : ((T.filter (·.mv)).filter fun t => D t.s.id) = (T.filter (·.mv)).take (kOf T D) := by
    refine prefix_of fun A x X e hx z hz => ?_
    have hxT : x ∈ T.filter (·.mv) := by rw [e]; simp
    have hzT : z ∈ T.filter (·.mv) := by rw [e]; simp [hz]
    -- z ahead of x in T
    obtain ⟨A1, A2, rfl⟩ := List.append_of_mem hz
    have hsub : ∃ P Q W, T = P ++ z :: (Q ++ x :: W) := by
      have hsl : List.Sublist ([z, x]) T := by
        have h1 : List.Sublist [z, x] (T.filter (·.mv)) := by
          rw [e]
          simp only [List.append_assoc, List.cons_append]
          exact (List.nil_sublist A1).append ((List.Sublist.cons_cons z ((List.nil_sublist A2).append (List.Sublist.cons_cons x (List.nil_sublist X)))))
        exact h1.trans List.filter_sublist
      rw [List.cons_sublist_iff] at hsl
      obtain ⟨r1, r2, e1, e2, e3⟩ := hsl
      obtain ⟨P, Q, rfl⟩ := List.append_of_mem e2
      obtain ⟨Q2, W, rfl⟩ := List.append_of_mem (List.singleton_sublist.1 e3)
      exact ⟨P, Q ++ Q2, W, by rw [e1]; simp⟩
    obtain ⟨P, Q, W, eT⟩ := hsub
    have := hsplit P z (Q ++ x :: W) eT x (by simp)
    simp only [List.mem_filter] at hxT hzT
    rcases hpo this with h1 | ⟨_, h2⟩
    · exact hdown _ _ hx h1
    · have := (h2 hzT.2).1
      rw [show x.s.moves = x.mv from rfl, hxT.2] at this
      simp at this
  rcases List.mem_append.1 hs with hsL | hsB
  · -- one of the course
    rw [← hmap] at hsL
    obtain ⟨t, ht, rfl⟩ := List.mem_map.1 hsL
    obtain ⟨T1', T2, eT⟩ := List.append_of_mem ht
    have hfrm := R.d.frame T1' t T2 eT
    have hcnt := R.d.count T1' t T2 eT
    simp only [List.length_nil, Nat.zero_add] at hcnt
    have hbefore : ∀ q ∈ T1', pairOk (ancs (byId (L ++ B))) q.s t.s = true := by
      intro q hq
      obtain ⟨P, Q, rfl⟩ := List.append_of_mem hq
      exact hsplit P q (Q ++ t :: T2) (by rw [eT]; simp) t (by simp)
    have hafter : ∀ q ∈ T2, pairOk (ancs (byId (L ++ B))) t.s q.s = true := fun q hq => hsplit T1' t T2 eT q hq
    have hnT1 : ∀ q ∈ T1', q.s.id ≠ t.s.id := by
      intro q hq e
      have hL2 : L = T1'.map (·.s) ++ t.s :: T2.map (·.s) := by rw [← hmap, eT]; simp
      have hpL : L.Pairwise (fun a b => a.id ≠ b.id) := (List.pairwise_append.1 hpw).1
      rw [hL2, List.pairwise_append] at hpL
      exact hpL.2.2 q.s (List.mem_map.2 ⟨q, hq, rfl⟩) t.s (by simp) e
    have hnT2 : ∀ q ∈ T2, q.s.id ≠ t.s.id := by
      intro q hq e
      have hL2 : L = T1'.map (·.s) ++ t.s :: T2.map (·.s) := by rw [← hmap, eT]; simp
      have hpL : L.Pairwise (fun a b => a.id ≠ b.id) := (List.pairwise_append.1 hpw).1
      rw [hL2, List.pairwise_append, List.pairwise_cons] at hpL
      exact hpL.2.1.1 q.s (List.mem_map.2 ⟨q, hq, rfl⟩) e.symm
    have hnB : ∀ p ∈ B, p.id ≠ t.s.id := by
      intro p hp e
      exact (List.pairwise_append.1 hpw).2.2 t.s (hTL t ht) p hp e.symm
    -- its frame
    have hF : FR C γ N (t.F.keep t.s.uses) a := by
      refine ⟨S.fr.size, S.fr.defers, fun x v hv => ?_⟩
      rw [Fr.get_keep] at hv
      split at hv
      · rename_i hux
        have hux : x ∈ t.s.slots := by simp only [SOper.slots, List.mem_append]; exact .inl (by simpa using hux)
        refine S.fr.get x v ?_
        rw [hfrm] at hv
        rw [← hv]
        refine fin_eq ?_
        rw [eT, List.filter_append, List.filter_cons_of_neg (by simpa using hnew), List.filter_append]
        have e1 : (T1'.filter fun t => D t.s.id).filter (fun q => q.s.dst == some x) = T1'.filter fun q => q.s.dst == some x := by
          rw [List.filter_filter]
          refine filter_eq_of fun q hq => ?_
          cases hd : (q.s.dst == some x) with
          | false => simp
          | true =>
            simp only [Bool.true_and]
            have hcl := slots_clash (p := t.s) (by simpa using hd) hux
            rcases hpo (hbefore q hq) with h1 | ⟨h1, _⟩
            · exact hnewD _ h1
            · rw [hcl] at h1; simp at h1
        have e2 : (T2.filter fun t => D t.s.id).filter (fun q => q.s.dst == some x) = [] := by
          rw [List.filter_filter, List.filter_eq_nil_iff]
          intro q hq hh
          simp only [Bool.and_eq_true, beq_iff_eq] at hh
          have hcl := slots_clash' (o := t.s) (p := q.s) hh.1 hux
          rcases hpo (hafter q hq) with h1 | ⟨h1, _⟩
          · have := hdown _ _ hh.2 h1
            rw [hnew] at this; simp at this
          · rw [hcl] at h1; simp at h1
        rw [e1, e2, List.append_nil]
      · simp at hv
    -- the frame behind it
    have hF' : ∀ {γ' : Gm} {v' : Value}, Sub γ γ' → (∀ v, t.val = some v → VR C γ' v v') → FR C γ' N (fin F (T.filter fun q => more D t.s.id q.s.id)) (a.put o.dst v') := by
      intro γ' v' hsub hv
      have hbase : FR C γ' N (upd (fin F (T.filter fun q => D q.s.id)) t) (a.put o.dst v') := by
        unfold upd
        rw [← hc.1]
        cases hval : t.val with
        | none => exact (S.fr.mono hsub).unput _ _
        | some v => exact (S.fr.mono hsub).put (by rw [hc.1]; exact hc.2.1) (hv v hval)
      refine ⟨hbase.size, hbase.defers, fun x v hx => hbase.get x v ?_⟩
      rw [← hx, upd_get]
      have e3 : (T.filter fun q => more D t.s.id q.s.id) = (T1'.filter fun q => D q.s.id) ++ t :: (T2.filter fun q => D q.s.id) := by
        rw [eT, List.filter_append, List.filter_cons_of_pos (by simp [more])]
        congr 1
        · exact filter_eq_of fun q hq => by simp [more, hnT1 q hq]
        · congr 1
          exact filter_eq_of fun q hq => by simp [more, hnT2 q hq]
      have e4 : (T.filter fun q => D q.s.id) = (T1'.filter fun q => D q.s.id) ++ (T2.filter fun q => D q.s.id) := by
        rw [eT, List.filter_append, List.filter_cons_of_neg (by simpa using hnew)]
      rw [e3, e4]
      split
      · rename_i hdx
        rw [fin_append]
        have : (fin (fin F (T1'.filter fun q => D q.s.id)) (t :: T2.filter fun q => D q.s.id)).get x = (fin (upd (fin F (T1'.filter fun q => D q.s.id)) t) []).get x := by
          show (fin (upd (fin F (T1'.filter fun q => D q.s.id)) t) (T2.filter fun q => D q.s.id)).get x = _
          refine fin_eq ?_
          rw [List.filter_filter]
          simp only [List.filter_nil]
          rw [List.filter_eq_nil_iff]
          intro q hq hh
          simp only [Bool.and_eq_true, beq_iff_eq] at hh
          have hcl := slots_clash' (o := t.s) (p := q.s) hh.1 (by simp [SOper.slots, hdx])
          rcases hpo (hafter q hq) with h1 | ⟨h1, _⟩
          · have := hdown _ _ hh.2 h1
            rw [hnew] at this; simp at this
          · rw [hcl] at h1; simp at h1
        rw [this]
        show _ = (upd _ t).get x
        rw [upd_get, if_pos hdx]
      · rename_i hdx
        refine fin_eq ?_
        rw [List.filter_append, List.filter_append, List.filter_cons_of_neg (by simpa using hdx)]
    -- the batch stays
    have hpm' : Z.Perm ((B.zip ss).filter fun x => more D t.s.id x.1.id) := by
      have : ((B.zip ss).filter fun x => more D t.s.id x.1.id) = (B.zip ss).filter fun x => D x.1.id :=
        filter_eq_of fun x hx => by simp [more, hnB x.1 (hzB x hx)]
      rw [this]; exact S.pm
    -- how many moves
    have hk1 : t.mv = false → kOf T (more D t.s.id) = kOf T D := by
      intro hm
      unfold kOf
      congr 1
      refine filter_eq_of fun q hq => ?_
      simp only [List.mem_filter] at hq
      have : q.s.id ≠ t.s.id := by
        intro e
        have := hlid q hq.1 t ht e
        have h2 : t.s.moves = true := by rw [← this]; exact hq.2
        rw [show t.mv = t.s.moves from rfl, h2] at hm
        simp at hm
      simp [more, this]
    have hcn : ∀ (l : List St) (hh : AH), (l.foldl St.put hh).next = hh.next := foldl_put_next
    -- one that turns nothing
    have still : ∀ (val : Option Value), t.val = val → t.mv = false → (∀ u ∈ T, ∀ b blk, u.fl = some (b, blk) → u.s.id ≠ t.s.id → True) → Ex C N os t.s t.F val ((Z.map (·.2)).foldl St.put y) ((Z.map (·.2)).foldl St.put y) →
        (if Region.wanted o (yielded os a.tmps) = true then o.wp C.P a w K Q else K (a.put o.dst undef) w) := by
      intro val hval hm _ hex
      refine hex o hc γ w a K Q S.hr hF fun γ' w' v' hgx hhr hv => ?_
      refine k _ _ γ' y Z ⟨hdn', by rw [hk1 hm]; exact S.yk, ?_, hhr, hF' hgx.1 (by rw [hval]; exact hv), ?_, hpm'⟩
      · refine S.gx.trans ⟨hgx.1, fun b hb => hgx.2.1 b (by rw [hcn]; exact hb), Nat.le_refl _⟩
      · intro u hu b blk hb hD
        simp only [more, Bool.or_eq_false_iff] at hD
        have hub := S.un u hu b blk hb hD.2
        by_cases hlt : b < y.next
        · rw [hgx.2.1 b (by rw [hcn]; exact hlt)]; exact hub
        · exact hhr.dom b (by rw [hcn]; omega)
    cases hmv : t.mv with
    | true =>
      obtain ⟨y0, h', z, e1, hex, e2, hg, hfl, hrd, hnx⟩ := R.d.mvs t ht hmv
      simp only [List.reverse_nil, List.nil_append] at e1 e2
      have hnoB : ∀ x ∈ B.zip ss, D x.1.id = false := by
        intro x hx
        cases hD : D x.1.id with
        | false => rfl
        | true =>
          have hb := (hbat x.1 (hzB x hx)).2 t.s (hTL t ht)
          simp only [Bool.or_eq_true, Bool.and_eq_true, Bool.not_eq_true'] at hb
          rcases hb with hb | hb
          · have := hdown _ _ hD hb
            rw [hnew] at this; simp at this
          · have h2 := hb.2
            rw [show t.s.moves = t.mv from rfl, hmv] at h2; simp at h2
      have hZ : Z = [] := by
        have : ((B.zip ss).filter fun x => D x.1.id) = [] := by
          rw [List.filter_eq_nil_iff]
          intro x hx; rw [hnoB x hx]; simp
        have hp := S.pm
        rw [this] at hp
        exact hp.eq_nil
      have hbT1 : ∀ q ∈ T1', q.mv = true → D q.s.id = true := by
        intro q hq hm
        rcases hpo (hbefore q hq) with h1 | ⟨_, h2⟩
        · exact hnewD _ h1
        · have := (h2 hm).1
          rw [show t.s.moves = t.mv from rfl, hmv] at this; simp at this
      have hbT2 : ∀ q ∈ T2, q.mv = true → D q.s.id = false := by
        intro q hq hm
        cases hD : D q.s.id with
        | false => rfl
        | true =>
          rcases hpo (hafter q hq) with h1 | ⟨_, h2⟩
          · have := hdown _ _ hD h1
            rw [hnew] at this; simp at this
          · have := (h2 hmv).1
            rw [show q.s.moves = q.mv from rfl, hm] at this; simp at this
      have hkD : kOf T D = t.k := by
        unfold kOf
        rw [hcnt, eT, List.filter_append, List.filter_cons_of_pos hmv, List.filter_append, List.filter_cons_of_neg (by simpa using hnew)]
        have a1 : (T1'.filter (·.mv)).filter (fun t => D t.s.id) = T1'.filter (·.mv) := by
          rw [List.filter_eq_self]
          intro q hq
          simp only [List.mem_filter] at hq
          exact hbT1 q hq.1 hq.2
        have a2 : (T2.filter (·.mv)).filter (fun t => D t.s.id) = [] := by
          rw [List.filter_eq_nil_iff]
          intro q hq
          simp only [List.mem_filter] at hq
          rw [hbT2 q hq.1 hq.2]; simp
        rw [a1, a2, List.append_nil]
      have hkD' : kOf T (more D t.s.id) = t.k + 1 := by
        unfold kOf
        rw [hcnt, eT, List.filter_append, List.filter_cons_of_pos hmv, List.filter_append, List.filter_cons_of_pos (by simp [more])]
        have a1 : (T1'.filter (·.mv)).filter (fun q => more D t.s.id q.s.id) = T1'.filter (·.mv) := by
          rw [List.filter_eq_self]
          intro q hq
          simp only [List.mem_filter] at hq
          simp [more, hbT1 q hq.1 hq.2]
        have a2 : (T2.filter (·.mv)).filter (fun q => more D t.s.id q.s.id) = [] := by
          rw [List.filter_eq_nil_iff]
          intro q hq
          simp only [List.mem_filter] at hq
          simp [more, hbT2 q hq.1 hq.2, hnT2 q hq.1]
        rw [a1, a2]
        simp
      have hy0 : y0 = y := by
        have := S.yk
        rw [hkD, e1] at this
        exact Option.some.inj this
      subst hy0
      have hr0 : HR C γ y0 w := by have := S.hr; rw [hZ] at this; exact this
      refine hex o hc γ w a K Q hr0 hF fun γ' w' v' hgx hhr hv => ?_
      have gg := hg.get
      refine k _ _ γ' z Z ⟨hdn', by rw [hkD']; exact e2, ?_, by rw [hZ]; exact hg.hr hhr, hF' hgx.1 hv, ?_, hpm'⟩
      · have := S.gx.trans hgx
        exact ⟨this.1, this.2.1, Nat.le_trans this.2.2 gg.1⟩
      · intro u hu b blk hb hD
        simp only [more, Bool.or_eq_false_iff] at hD
        have hub := S.un u hu b blk hb hD.2
        by_cases hlt : b < y0.next
        · rw [hgx.2.1 b hlt]; exact hub
        · obtain ⟨_, _, _, _, _, _, g6, _⟩ := R.d.floats u hu b blk hb
          by_cases huk : u.k ≤ t.k
          · have := g6 t.k y0 huk (by simpa using e1)
            omega
          · exact hhr.dom b (hnx u hu b blk hb (by omega))
    | false =>
      cases hrd : t.rd with
      | some r =>
        obtain ⟨r1, r2, r3, r4, r5, r6, r7, r8⟩ := R.d.reads t ht r hrd
        have hb1 := (hl t.s (hTL t ht)).1
        have hflt : t.s.op.float = false := by
          cases hop : t.s.op <;> rw [hop] at r5 <;> first | rfl | simp [SOp.still, SOp.quiet] at r5
        have hmo : t.s.moves = false := hmv
        rw [hmo, r6, hflt] at hb1
        simp only [Bool.false_or, Bool.and_eq_true, decide_eq_true_eq] at hb1
        have lenle : ∀ {p q : T1 → Bool} (l : List T1), (∀ x ∈ l, p x = true → q x = true) → (l.filter p).length ≤ (l.filter q).length := by
          intro p q l
          induction l with
          | nil => intro _; simp
          | cons x l ih =>
            intro hh
            have := ih fun x hx => hh x (by simp [hx])
            by_cases hp : p x = true
            · rw [List.filter_cons_of_pos hp, List.filter_cons_of_pos (hh x (by simp) hp)]; simpa using this
            · rw [List.filter_cons_of_neg hp]
              by_cases hq : q x = true
              · rw [List.filter_cons_of_pos hq]; simp; omega
              · rw [List.filter_cons_of_neg hq]; exact this
        have hLT : ∀ p : SOper → Bool, (L.filter p).length = (T.filter fun x => p x.s).length := by
          intro p
          rw [← hmap, List.filter_map, List.length_map]
          rfl
        have hlo : t.s.lo ≤ kOf T D := by
          refine Nat.le_trans hb1.1 ?_
          unfold loOf kOf
          rw [hLT, List.filter_filter]
          refine lenle T fun x hx hp => ?_
          simp only [Bool.and_eq_true] at hp ⊢
          exact ⟨hnewD _ hp.2, hp.1⟩
        have hhi : kOf T D ≤ t.s.hi := by
          refine Nat.le_trans ?_ hb1.2
          unfold hiOf kOf
          rw [hLT, List.filter_filter]
          refine lenle T fun x hx hp => ?_
          simp only [Bool.and_eq_true, Bool.not_eq_true'] at hp ⊢
          refine ⟨hp.2, ?_⟩
          cases hah : ahead (ancs (byId (L ++ B))) x.s.id t.s.id with
          | false => rfl
          | true =>
            have := hdown _ _ hp.1 hah
            rw [hnew] at this; simp at this
        have hsame : r.same y := r8 (kOf T D) y hlo hhi (by simpa using S.yk)
        have hmem := R.d.all.2.2.1 t ht r hrd
        have hsame2 : r.same ((Z.map (·.2)).foldl St.put y) := by
          have : ∀ (l : List (SOper × St)) (hh : AH), (∀ x ∈ l, x ∈ B.zip ss ∧ D x.1.id = true) → r.same hh → r.same ((l.map (·.2)).foldl St.put hh) := by
            intro l
            induction l with
            | nil => intro hh _ h; exact h
            | cons x l ih =>
              intro hh hx hsm
              refine ih _ (fun z hz => hx z (by simp [hz])) ?_
              obtain ⟨x1, x2⟩ := hx x (by simp)
              rcases (crossOk_spec R.cross x x1).1 r hmem with h1 | h1
              · have h2 := (hbat x.1 (hzB x x1)).1.2 r.id (by simpa using h1)
                have := hdown _ _ x2 h2
                rw [r1, hnew] at this; simp at this
              · exact Rec.same_put hsm h1
          exact this Z y hdone hsame
        refine still (some r.v) r4 hmv (fun _ _ _ _ _ _ => trivial) ?_
        refine ex_val r7 ?_
        unfold Rec.same at hsame2
        rw [r2, r3] at hsame2
        exact hsame2
      | none =>
        cases hfl : t.fl with
        | none => exact still t.val rfl hmv (fun _ _ _ _ _ _ => trivial) (R.d.frees t ht hmv hfl hrd _)
        | some p =>
          obtain ⟨b, blk⟩ := p
          obtain ⟨v, f1, f2, f3, f4, f5, f6, f7, f8⟩ := R.d.floats t ht b blk hfl
          simp only [List.reverse_nil, List.nil_append] at f6 f7 f8
          have hflt : t.s.op.float = true := R.d.fl_float t ht _ hfl
          have hbT1 : ∀ q ∈ T1', q.mv = true → D q.s.id = true := by
            intro q hq hm
            rcases hpo (hbefore q hq) with h1 | ⟨_, h2⟩
            · exact hnewD _ h1
            · have := (h2 hm).2
              rw [hflt] at this; simp at this
          have hkge : t.k ≤ kOf T D := by
            unfold kOf
            rw [hcnt, eT, List.filter_append, List.filter_append]
            have a1 : (T1'.filter (·.mv)).filter (fun t => D t.s.id) = T1'.filter (·.mv) := by
              rw [List.filter_eq_self]
              intro q hq
              simp only [List.mem_filter] at hq
              exact hbT1 q hq.1 hq.2
            rw [a1, List.length_append]
            omega
          have hlt : b < y.next := f6 _ y hkge S.yk
          have hget : y.get b = blk := by
            by_cases hke : kOf T D = t.k
            · exact f7 y (by rw [← hke]; exact S.yk)
            · -- the last move that is done
              have hpos : kOf T D - 1 < (T.filter (·.mv)).length := by
                have : kOf T D ≤ (T.filter (·.mv)).length := List.length_filter_le _ _
                omega
              obtain ⟨q, hq⟩ : ∃ q, (T.filter (·.mv))[kOf T D - 1]? = some q := ⟨_, List.getElem?_eq_getElem hpos⟩
              have hqm := List.mem_of_getElem? hq
              have hqD : D q.s.id = true := by
                have : q ∈ (T.filter (·.mv)).take (kOf T D) := by
                  refine List.mem_of_getElem? (i := kOf T D - 1) ?_
                  rw [List.getElem?_take, if_pos (by omega)]
                  exact hq
                rw [← hpref] at this
                simp only [List.mem_filter] at this
                exact this.2
              simp only [List.mem_filter] at hqm
              have hqk : q.k = kOf T D - 1 := by
                have := R.d.kidx _ q hq
                simpa using this
              rcases f8 q hqm.1 hqm.2 (by omega) with h1 | h1
              · have h2 := (hl q.s (hTL q hqm.1)).2 t.s.id (by simpa using h1)
                have := hdown _ _ hqD h2
                rw [hnew] at this; simp at this
              · exact h1 y (by rw [hqk]; rw [show kOf T D - 1 + 1 = kOf T D by omega]; exact S.yk)
          have hget2 : ((Z.map (·.2)).foldl St.put y).get b = blk := by
            rw [foldl_put_get _ _ (by
              intro x hx
              obtain ⟨p, hp, rfl⟩ := List.mem_map.1 hx
              obtain ⟨p1, p2⟩ := hdone p hp
              rcases (crossOk_spec R.cross p p1).2 _ (R.d.all.2.2.2 t ht b blk hfl) with h1 | h1
              · have h2 := (hbat p.1 (hzB p p1)).1.2 t.s.id (by simpa using h1)
                have := hdown _ _ p2 h2
                rw [hnew] at this; simp at this
              · exact h1)]
            exact hget
          have hub := S.un t ht b blk hfl hnew
          refine f5 o hc γ _ w a K Q S.hr hub (by rw [hcn]; exact hlt) hget2 hF fun x w' v' hhr hv => ?_
          have hsub : Sub γ (gset γ b x) := gset_sub hub
          refine k _ _ (gset γ b x) y Z ⟨hdn', by rw [hk1 hmv]; exact S.yk, ?_, hhr, hF' hsub (by rw [f1]; intro u hu; simp only [Option.some.injEq] at hu; subst hu; exact hv), ?_, hpm'⟩
          · refine ⟨S.gx.1.trans hsub, fun c hcb => ?_, S.gx.2.2⟩
            unfold gset
            rw [if_neg (by omega)]
            exact S.gx.2.1 c hcb
          · intro u hu c clk huc hD
            simp only [more, Bool.or_eq_false_iff, beq_eq_false_iff_ne, ne_eq] at hD
            have huc' := S.un u hu c clk huc hD.2
            unfold gset
            rw [if_neg]
            · exact huc'
            · rw [eT] at hu
              rcases List.mem_append.1 hu with hu1 | hu1
              · obtain ⟨P, W, eP⟩ := List.append_of_mem hu1
                have := R.d.fdist P u (W ++ t :: T2) (by rw [eT, eP]; simp) c clk huc t (by simp) b blk hfl
                omega
              · rcases List.mem_cons.1 hu1 with rfl | hu1
                · exact absurd rfl hD.1
                · have := R.d.fdist T1' t T2 eT b blk hfl u hu1 c clk huc
                  omega
  · -- a store of the batch
    have hbs := hbat s hsB
    simp only [Option.isNone_iff_eq_none] at hbs
    obtain ⟨⟨⟨hdst, hgrd⟩, hdep⟩, hbl⟩ := hbs
    have hnT : ∀ t ∈ T, t.s.id ≠ s.id := fun t ht e => (List.pairwise_append.1 hpw).2.2 t.s (hTL t ht) s hsB e
    have hallm : ∀ t ∈ T, t.mv = true → D t.s.id = true := by
      intro t ht hm
      have hb := hbl t.s (hTL t ht)
      simp only [Bool.or_eq_true, Bool.and_eq_true, Bool.not_eq_true'] at hb
      rcases hb with hb | hb
      · exact hnewD _ hb
      · have h2 := hb.2
        rw [show t.s.moves = t.mv from rfl, hm] at h2; simp at h2
    have hkD : kOf T D = (T.filter (·.mv)).length := by
      unfold kOf
      congr 1
      rw [List.filter_eq_self]
      intro q hq
      simp only [List.mem_filter] at hq
      exact hallm q hq.1 hq.2
    have hkD' : kOf T (more D s.id) = kOf T D := by
      unfold kOf
      congr 1
      refine filter_eq_of fun q hq => ?_
      simp only [List.mem_filter] at hq
      simp [more, hallm q hq.1 hq.2]
    have hyK : y = hK := by
      have h1 := S.yk
      rw [hkD, R.d.last] at h1
      exact (Option.some.inj h1).symm
    subst hyK
    obtain ⟨i, hi⟩ := List.getElem?_of_mem hsB
    have hilt := (List.getElem?_eq_some_iff.1 hi).1
    obtain ⟨st, hst⟩ : ∃ st, ss[i]? = some st := ⟨_, List.getElem?_eq_getElem (by omega)⟩
    have hmem : (s, st) ∈ B.zip ss := by
      refine List.mem_of_getElem? (i := i) ?_
      rw [List.getElem?_zip_eq_some]
      exact ⟨hi, hst⟩
    have hstof := zst _ hmem
    simp only at hstof
    have hfit : st.fits ((Z.map (·.2)).foldl St.put y) := by
      have : ∀ (l : List St) (hh : AH), st.fits hh → st.fits (l.foldl St.put hh) := by
        intro l
        induction l with
        | nil => exact fun _ h => h
        | cons x l ih => exact fun hh h => ih _ (St.fits_put h)
      exact this _ _ (okf st (List.mem_of_getElem? hst))
    have hsop : sop s.op (F1.keep s.uses).val ((Z.map (·.2)).foldl St.put y) = some (.skip (St.put ((Z.map (·.2)).foldl St.put y) st)) := by
      have hstore := St.store_of_fits hfit
      unfold stOf at hstof
      split at hstof
      · rename_i ax x hop
        rw [hop]
        split at hstof
        · rename_i b off v e1 e2
          split at hstof
          · rename_i u hu
            simp only [Option.some.injEq] at hstof
            subst hstof
            simp only [sop, e1, e2, hu]
            have h1 : ((Z.map (·.2)).foldl St.put y).store1 b off u = ((Z.map (·.2)).foldl St.put y).store b off [u] := by
              unfold AH.store1 AH.store
              split
              · rename_i c g hc
                simp only [List.length_cons, List.length_nil]
                by_cases hlt : off < c.length
                · rw [if_pos hlt, if_pos (by omega), splice_set hlt]
                · rw [if_neg hlt, if_neg (by omega)]
              · rfl
            rw [h1, hstore]
          · simp at hstof
        · simp at hstof
      · rename_i n ax x hop
        rw [hop]
        split at hstof
        · rename_i b off v e1 e2
          split at hstof
          · rename_i cs hu
            split at hstof
            · rename_i hlen
              simp only [Option.some.injEq] at hstof
              subst hstof
              simp only [sop, e1, e2, hu, hlen, if_true]
              rw [hstore]
            · simp at hstof
          · simp at hstof
        · simp at hstof
      · simp at hstof
    have hF : FR C γ N (F1.keep s.uses) a := by
      refine ⟨S.fr.size, S.fr.defers, fun x v hv => ?_⟩
      rw [Fr.get_keep] at hv
      split at hv
      · rename_i hux
        have hux : x ∈ s.slots := by simp only [SOper.slots, List.mem_append]; exact .inl (by simpa using hux)
        refine S.fr.get x v ?_
        rw [← hv, ← R.d.fin]
        refine fin_eq ?_
        rw [List.filter_filter]
        refine filter_eq_of fun q hq => ?_
        cases hd : (q.s.dst == some x) with
        | false => simp
        | true =>
          simp only [Bool.true_and]
          have hcl := slots_clash (p := s) (by simpa using hd) hux
          have hb := hbl q.s (hTL q hq)
          simp only [Bool.or_eq_true, Bool.and_eq_true, Bool.not_eq_true'] at hb
          rcases hb with hb | hb
          · exact hnewD _ hb
          · rw [hcl] at hb; simp at hb
      · simp at hv
    have hcn : ∀ (l : List St) (hh : AH), (l.foldl St.put hh).next = hh.next := foldl_put_next
    have hodst : o.dst = none := by rw [← hc.1]; exact hdst
    refine ex_skip (F := F1) (by rw [hgrd]; rfl) hsop o hc γ w a K Q S.hr hF fun γ' w' v' hgx hhr hv => ?_
    have hZ' : ((Z ++ [(s, st)]).map (·.2)).foldl St.put y = St.put ((Z.map (·.2)).foldl St.put y) st := by simp
    refine k _ _ γ' y (Z ++ [(s, st)]) ⟨hdn', by rw [hkD']; exact S.yk, ?_, by rw [hZ']; exact hhr, ?_, ?_, ?_⟩
    · exact S.gx.trans ⟨hgx.1, fun b hb => hgx.2.1 b (by rw [hcn]; exact hb), Nat.le_refl _⟩
    · rw [hodst]
      have : (T.filter fun q => more D s.id q.s.id) = T.filter fun q => D q.s.id := filter_eq_of fun q hq => by simp [more, hnT q hq]
      rw [this]
      exact S.fr.mono hgx.1
    · intro u hu b blk hb hD
      simp only [more, Bool.or_eq_false_iff] at hD
      have hub := S.un u hu b blk hb hD.2
      by_cases hlt : b < y.next
      · rw [hgx.2.1 b (by rw [hcn]; exact hlt)]; exact hub
      · exact hhr.dom b (by rw [St.put_next, hcn]; omega)
    · -- one more of the batch
      obtain ⟨P, W, eZ⟩ := List.append_of_mem hmem
      have hone : ∀ x ∈ P ++ W, x.1.id ≠ s.id := by
        intro x hx e
        have hnd : (B.zip ss).Pairwise (fun a b => a.1.id ≠ b.1.id) := by
          have h1 : ((B.zip ss).map (·.1)).Pairwise (fun a b => a.id ≠ b.id) := by
            rw [List.map_fst_zip (by omega)]
            exact (List.pairwise_append.1 hpw).2.1
          rw [List.pairwise_map] at h1
          exact h1
        rw [eZ, List.pairwise_append, List.pairwise_cons] at hnd
        rcases List.mem_append.1 hx with hx | hx
        · exact hnd.2.2 x hx (s, st) (by simp) e
        · exact hnd.2.1.1 x hx e.symm
      have e1 : ((B.zip ss).filter fun x => more D s.id x.1.id) = (P.filter fun x => D x.1.id) ++ (s, st) :: (W.filter fun x => D x.1.id) := by
        rw [eZ, List.filter_append, List.filter_cons_of_pos (by simp [more])]
        congr 1
        · exact filter_eq_of fun x hx => by simp [more, hone x (by simp [hx])]
        · congr 1
          exact filter_eq_of fun x hx => by simp [more, hone x (by simp [hx])]
      have e2 : ((B.zip ss).filter fun x => D x.1.id) = (P.filter fun x => D x.1.id) ++ (W.filter fun x => D x.1.id) := by
        rw [eZ, List.filter_append, List.filter_cons_of_neg (by simpa using hnew)]
      have hp := S.pm
      rw [e2] at hp
      rw [e1]
      refine (List.Perm.append_right [(s, st)] hp).trans ?_
      rw [List.append_assoc]
      exact List.Perm.append_left _ (List.perm_append_comm)
end
end Go.Jq
