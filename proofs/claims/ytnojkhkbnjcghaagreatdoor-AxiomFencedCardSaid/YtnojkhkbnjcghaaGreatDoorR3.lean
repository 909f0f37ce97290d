/- The law of weaker models: its own check answers true. -/
import Derived.Test.YtnojkhkbnjcghaaGreatDoorR1
import Derived.Test.YtnojkhkbnjcghaaGreatDoorR2
set_option linter.unusedSimpArgs false
set_option linter.unusedVariables false
namespace Go.Jq
variable {G:Nat→SFunc} {h:AH} {R:Value→AH→Prop}
structure AwG (G:Nat→SFunc):Prop where
  ax:AxG G
  g30:G 30=c30
  g21:G 21=c21
  codes:∀ x ∈ AW_list,G x.1=x.2
theorem AwG.orc (g:AwG G) {h:AH}:OrcOk G h orcB:=orcB_ok g.ax g.ax.toEvG g.g30
theorem okAll_elim {n:Nat} {o:Option (EV×TH)} (H:okAll n o=true):∃ b q sp c T,o=some (.tup [.slc b q sp n c,.raw (.bool true)],T):=by
  unfold okAll at H
  split at H
  · rename_i b q sp m c T
    obtain rfl:=Nat.eq_of_beq_eq_true H
    exact ⟨b,q,sp,c,T,rfl⟩
  · simp at H
theorem sb_make (g:AwG G) {m:Int} {n:Nat} (H:okAll n (runSB m)=true) (k:∀ v T,sb0=some (v,T)→R (den h.next v) (denH h T)):WC G 20 [] h R:=by
  cases e:sb0 with
  | none=>unfold runSB at H;rw [e] at H;simp [okAll] at H
  | some x =>
    obtain ⟨v,T⟩:=x
    have e':=e
    unfold sb0 at e'
    rw [machF_eq,AW_TL] at e'
    have:=carriedO (h:=h) (R:=R) g.orc g.codes (T0:=⟨0,.leaf⟩) e' (vs:=[]) rfl (k _ _ e)
    rwa [denH_nil] at this
theorem sb_all (g:AwG G) {m:Int} {n:Nat} (H:okAll n (runSB m)=true) {v:EV} {T:TH} (e:sb0=some (v,T))
    (k:∀ h1 a c,Ext h h1→R (.tuple #[.slice a n c,.bool true]) h1):WC G 19 [den h.next v,.int .i64 m,.int .i64 100] (denH h T) R:=by
  unfold runSB at H
  rw [e,machF_eq,AW_TL] at H
  obtain ⟨b,q,sp,c,T1,e1⟩:=okAll_elim H
  refine carriedO g.orc g.codes e1 (by simp [den]) ?_
  have:=k (denH h T1) (some ⟨h.next+b,q,sp⟩) c ⟨Nat.le_add_right _ _,fun b hb=>denH_ext hb⟩
  simpa [den,denL] using this
theorem aw12_spec (g:AwG G) (k:∀ h1,Ext h h1→R (.bool true) h1):WC G 21 [] h R:=by
  refine WC_enter g.g21 rfl ?_
  show W G c21_body _ _ (retK [.tmp 0] R)
  simp -implicitDefEqProofs [c21_body,c21_0,c21_1]
  refine sb_make g kw1 fun v T e=>?_
  simp -implicitDefEqProofs
  refine sb_all g kw1 e fun h1 a c x1=>?_
  simp -implicitDefEqProofs [c21_2]
  refine sb_make g kw2 fun v' T' e'=>?_
  simp -implicitDefEqProofs
  refine sb_all g kw2 e' fun h2 a' c' x2=>?_
  simp -implicitDefEqProofs [c21_3]
  exact k _ (x1.trans x2)
end Go.Jq
