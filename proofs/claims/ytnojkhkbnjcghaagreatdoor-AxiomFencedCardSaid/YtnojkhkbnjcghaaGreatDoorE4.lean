/- The machine that asks others: some calls are answered by what is known of them. -/
import Derived.Test.YtnojkhkbnjcghaaGreatDoorM3
set_option linter.unusedSimpArgs false
set_option linter.unusedVariables false
namespace Go.Jq
variable {G:Nat→SFunc} {h:AH}
abbrev EOrc:=Nat→List EV→TH→Option EV
def OrcOk (G:Nat→SFunc) (h:AH) (orc:EOrc):Prop:=∀ f args T v,orc f args T=some v→Run G (.call f (args.map (den h.next)) (denH h T)) (.val (den h.next v) (denH h T))
def machO (orc:EOrc) (Gt:Tri SFunc):Nat→Mach
  | 0=>⟨fun _ _ _=>none,fun _ _ _ _=>none⟩
  | n + 1 => ⟨fun f args T => match orc f args T with
      | some v=>forceV v fun v=>some (v,T)
      | none=>match Gt.get f with
      | some s => match natOf? s.body with
       | some k=>enat k args T
       | none=>cond (Nat.beq args.length s.nargs) (EFr.fromK 0 args fun F=>match codeE (machO orc Gt n).call (machO orc Gt n).loop s.body F T with
        | some (.normal, F, T) => match eresultsOf F T s.results with
          | some vs=>some (eoneOf vs,T)
          | none=>none
        | some (.ret, F, T) => match eresultsOf F T s.results with
          | some vs=>some (eoneOf vs,T)
          | none=>none
        | _=>none) none
      | none=>none,
    fun live a F T=>F.keepK live fun F=>match codeE (machO orc Gt n).call (machO orc Gt n).loop a F T with
      | some (.normal,F,T)=>(machO orc Gt n).loop live a F T
      | r=>r⟩
theorem machO_ok {orc:EOrc} (ho:OrcOk G h orc) {Gt:Tri SFunc} (hG:∀ f s,Gt.get f=some s→G f=s) (n:Nat):CallOk G h (machO orc Gt n).call∧LoopOk G h (machO orc Gt n).loop:=by
  induction n with
  | zero=>exact ⟨fun _ _ _ _ _ H=>by simp [machO] at H,fun _ _ _ _ _ _ _ H=>by simp [machO] at H⟩
  | succ n ih =>
    constructor
    · intro f args T v T1 H
      simp only [machO,EFr.fromK_eq] at H
      split at H
      · rename_i u hu
        rw [forceV_eq] at H
        simp only [Option.some.injEq,Prod.mk.injEq] at H;obtain ⟨rfl,rfl⟩:=H
        exact ho _ _ _ _ hu
      split at H
      · rename_i s hs
        have hG':=hG f s hs
        split at H
        · rename_i k hk
          have hb:(G f).body=.native k:=by
            rw [hG']
            unfold natOf? at hk
            split at hk
            · rename_i e;rw [e];simpa using hk
            · simp at hk
          unfold enat at H
          split at H
          · rename_i hk4
            split at H
            · rename_i u e2
              simp only [Option.some.injEq,Prod.mk.injEq] at H;obtain ⟨rfl,rfl⟩:=H
              subst hk4
              exact .nativeA hb (enat4_ok e2)
            · simp at H
          split at H
          · rename_i hk2
            split at H
            · rename_i u e2
              simp only [Option.some.injEq,Prod.mk.injEq] at H;obtain ⟨rfl,rfl⟩:=H
              subst hk2
              exact .native hb (enat2_ok e2)
            · simp at H
          rename_i hk2
          split at H
          · rename_i vs e1
            split at H
            · rename_i u e2
              rw [forceR_eq] at H
              simp only [Option.some.injEq,Prod.mk.injEq] at H;obtain ⟨rfl,rfl⟩:=H
              rw [erows_ok e1]
              exact .native hb (((natOf_h (h:=⟨0,fun _=>.dead⟩) hk2).symm.trans e2))
            · simp at H
          · simp at H
        simp only [beqN,brec] at H
        split at H
        · rename_i hl
          have hl':(args.map (den h.next)).length=(G f).nargs:=by rw [List.length_map,hG',hl]
          split at H
          · rename_i F1 T2 e1
            have r:=codeE_ok ih.1 ih.2 e1
            split at H
            · rename_i vs e2
              simp only [Option.some.injEq,Prod.mk.injEq] at H;obtain ⟨rfl,rfl⟩:=H
              rw [← eoneOf_ok]
              rw [denF_from] at r
              exact .enter hl' (by rw [hG'];exact r) (.inl rfl) (by rw [hG'];exact eresultsOf_ok e2)
            · simp at H
          · rename_i F1 T2 e1
            have r:=codeE_ok ih.1 ih.2 e1
            split at H
            · rename_i vs e2
              simp only [Option.some.injEq,Prod.mk.injEq] at H;obtain ⟨rfl,rfl⟩:=H
              rw [← eoneOf_ok]
              rw [denF_from] at r
              exact .enter hl' (by rw [hG'];exact r) (.inr rfl) (by rw [hG'];exact eresultsOf_ok e2)
            · simp at H
          · simp at H
        · simp at H
      · simp at H
    · intro live a F T e F1 T1 H
      simp only [machO,EFr.keepK_eq] at H
      split at H
      · rename_i F2 T2 e1
        have r:=codeE_ok ih.1 ih.2 e1
        rw [denF_keep] at r
        exact .loopN r (ih.2 _ _ _ _ _ _ _ H)
      · rename_i hne
        have r:=codeE_ok ih.1 ih.2 H
        rw [denF_keep] at r
        exact .loopE r (by rintro rfl;exact hne F1 T1 H)
theorem carriedO {orc:EOrc} (ho:OrcOk G h orc) {l:List (Nat×SFunc)} (hG:∀ x ∈ l,G x.1=x.2) {n f:Nat} {args:List EV} {T0:TH} {v:EV} {T:TH} (H:(machO orc (triOf l) n).call f args T0=some (v,T)) {vs:List Value} (ha:args.map (den h.next)=vs) {R:Value→AH→Prop}
    (k:R (den h.next v) (denH h T)):WC G f vs (denH h T0) R:=by
  have r:=(machO_ok (G:=G) (h:=h) ho (fun f s e=>hG _ (triOf_get e)) n).1 _ _ _ _ _ H
  rw [ha] at r
  exact ⟨_,_,r,k⟩
end Go.Jq
