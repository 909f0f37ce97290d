/- Functions of the library, taken by their contracts: strings.Join. -/
import Derived.Test.YtnojkhkbnjcghaaGreatDoorM3
import Derived.Lib.LaidU8
import Derived.Shelf.Spec.TrailingZeros
set_option linter.unusedSimpArgs false
set_option linter.unusedVariables false
namespace Go.Jq
open Go.RowKit
section
variable {C:Ctx} {γ:Gm} {h:AH} {w w':World}
theorem HR.more (H:HR C γ h w) (hb:Below w.heap.size w w'):HR C γ h w':=by
  have hs:∀ (B:Nat) (o:Obj),w.heap[B]?=some o→w'.heap[B]?=some o:=fun B o e=>by
    have hlt:B < w.heap.size:=(Array.getElem?_eq_some_iff.1 e).1
    rw [hb.block B hlt];exact e
  refine ⟨H.below.trans (hb.mono H.size),H.low,fun b B s N e=>?_,H.inj,H.dom⟩
  have k:=H.blk b B s N e
  cases ho:h.get b with
  | dead=>trivial
  | map es clk =>
    rw [ho] at k
    obtain ⟨es',k1,k2⟩:=k
    exact ⟨es',hs _ _ k1,k2⟩
  | cells c g ro =>
    rw [ho] at k
    obtain ⟨D,E,lo,hi,k1,k2⟩:=k
    exact ⟨D,E,lo,hi,hs _ _ k1,k2⟩
end
end Go.Jq
namespace Go.Jq
open Go.RowKit Go.Lib Go.Proofs
theorem natOk_tz {C:Ctx} {F:FuncId} {g:Nat} (hg:g < C.base) (hT:TabAt g deBruijn64tab C.w0)
    (hc:∀ (x:Nat),x < 18446744073709551616→∀ w:World,(x ≠ 0→TabAt g deBruijn64tab w)→Calls C.P F #[.int .u64 x] w fun e w'=>e=.returned (.int .i64 (ctz 64 x))∧w'=w):NatOk C 0 F:=by
  refine .still (fun h args=>by unfold natHeap;split <;> simp_all) ?_
  intro h γ w args args' v hv H ha
  simp only [natOf] at hv
  split at hv <;> try (simp_all;done)
  rename_i x _
  split at hv
  · rename_i hx
    simp only [Option.some.injEq] at hv;subst hv
    have hargs:∃ v1,args'=#[v1]∧VR C γ (.int .u64 x) v1:=by
      obtain ⟨l⟩:=args'
      cases ha with
      | cons r1 ha => cases ha with
        | nil=>exact ⟨_,rfl,r1⟩
    obtain ⟨v1,rfl,r1⟩:=hargs
    rw [r1.int_inv]
    have hw:TabAt g deBruijn64tab w:=fun j hj=>by
      rw [H.below.cell (by exact hg)];exact hT j hj
    have:=hc x.toNat (by omega) w fun _=>hw
    rw [show ((x.toNat:Nat):Int)=x by omega] at this
    refine this.mono fun e w' ⟨he,hw'⟩=>?_
    subst hw'
    exact ⟨_,γ,he,.same (Nat.le_refl _),H,.int⟩
  · simp at hv
def tzData:DataW Unit:=tabData .u8 (deBruijn64tab.map fun (n:Nat)=>(n:Int))
theorem tab_reads {P : Program} {g t e : Nat} {w : World} (hn : P.globalNamed "math/bits.deBruijn64tab" = some g) (hy : (P.globals[g]?).map (·.type) = some t) (ht : P.underlying t = some (.array 64 e)) (he : P.underlying e = some (.int .u8)) (ce : P.cellsOf e = 1) (ct : P.cellsOf t = 64)
    (h : VarReads P w "math/bits.deBruijn64tab" tzData) : TabAt g deBruijn64tab w := by
  intro j hj
  obtain ⟨g',t',cs,fuel,p,hg,hty,hvar,hd⟩:=h
  obtain rfl:=Option.some.inj (hn.symm.trans hg)
  obtain rfl:=Option.some.inj (hy.symm.trans hty)
  have hcs:=cells_of_tab ht he ce ct hd
  have:=World.var?_cell hg hvar j
  rw [this,← Array.getElem?_toList,hcs,List.map_map,List.getElem?_map,List.getElem?_eq_getElem hj]
  simp [List.getD,hj]
end Go.Jq
