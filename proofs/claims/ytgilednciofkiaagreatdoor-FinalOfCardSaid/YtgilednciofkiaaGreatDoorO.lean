/- Functions of the library, taken by their contracts: strings.Join. -/
import Derived.Test.YtgilednciofkiaaGreatDoorM3
import Derived.Test.YtgilednciofkiaaGreatDoorT
import Derived.Lib.ItoaNum
set_option linter.unusedSimpArgs false
set_option linter.unusedVariables false
namespace Go.Jq
open Go.RowKit
section
variable {C : Ctx} {γ : Gm} {h : AH} {w w' : World}
theorem HR.more (H : HR C γ h w) (hb : Below w.heap.size w w') : HR C γ h w' := by
  have hs : ∀ (B : Nat) (o : Obj), w.heap[B]? = some o → w'.heap[B]? = some o := fun B o e => by
    have hlt : B < w.heap.size := (Array.getElem?_eq_some_iff.1 e).1
    rw [hb.block B hlt]; exact e
  refine ⟨H.below.trans (hb.mono H.size), H.low, fun b B s N e => ?_, H.inj, H.dom⟩
  have k := H.blk b B s N e
  cases ho : h.get b with
  | dead => trivial
  | map es clk =>
    rw [ho] at k
    obtain ⟨es', k1, k2⟩ := k
    exact ⟨es', hs _ _ k1, k2⟩
  | cells c g ro =>
    rw [ho] at k
    obtain ⟨D, E, lo, hi, k1, k2⟩ := k
    exact ⟨D, E, lo, hi, hs _ _ k1, k2⟩
theorem strsOf_get {l : List Value} {xs : List ByteArray} (H : strsOf l = some xs) : l = xs.map .string := by
  induction l generalizing xs with
  | nil => simp only [strsOf, Option.some.injEq] at H; subst H; rfl
  | cons v l ih =>
    cases v with
    | string s =>
      simp only [strsOf] at H
      split at H
      · rename_i r hr
        simp only [Option.some.injEq] at H; subst H
        rw [ih hr]; rfl
      · simp at H
    | _ => simp [strsOf] at H
theorem VR.slice_cap {ad : Addr} {l c : Nat} {v : Value} (hv : VR C γ (.slice (some ad) l c) v) (h0 : 0 < l) : ∃ B s N c', γ ad.block = some (B, s, N) ∧ v = .slice (some ⟨B, s + ad.off, none⟩) l c' ∧ c ≤ c' := by
  cases hv
  case slX hb => exact ⟨_, _, _, _, hb, rfl, Nat.le_refl _⟩
  case slI hb h1 h2 h3 => exact ⟨_, _, _, _, hb, rfl, h2⟩
  case slE hb => omega
theorem natOk_join {F : FuncId} (hc : ∀ (bk o c : Nat) (xs : List ByteArray) (sep : ByteArray) (w : World), (∀ (j : Nat) x, xs[j]? = some x → w.cell? ⟨bk, o + j, none⟩ = some (.string x)) → bk < w.heap.size → xs.length ≤ 140737488355328 → xs.length ≤ c → (joinOf xs sep).length ≤ 140737488355328 →
    Calls C.P F #[.slice (some ⟨bk, o, none⟩) xs.length c, .string sep] w fun e w' => e = .returned (.string ⟨(joinOf xs sep).toArray⟩) ∧ Below w.heap.size w w') : NatOk C 2 F := by
  refine .still (fun h args => by unfold natHeap; split <;> simp_all) ?_
  intro h γ w args args' v hv H ha
  simp only [natOf] at hv
  split at hv
  · rename_i ad n c sep _
    split at hv
    · rename_i cs hl
      split at hv
      · rename_i xs hx
        split at hv
        · rename_i hk
          simp only [Option.some.injEq] at hv; subst hv
          have hcs := strsOf_get hx
          have hargs : ∃ v1 v2, args' = #[v1, v2] ∧ VR C γ (.slice (some ad) n c) v1 ∧ VR C γ (.string sep) v2 := by
            obtain ⟨l⟩ := args'
            cases ha with
            | cons r1 ha => cases ha with
              | cons r2 ha => cases ha with
                | nil => exact ⟨_, _, rfl, r1, r2⟩
          obtain ⟨v1, v2, rfl, r1, r2⟩ := hargs
          obtain ⟨B, s, N, c', hb, rfl, hcc⟩ := r1.slice_cap hk.2.2.1
          rw [r2.str_inv]
          obtain ⟨l', k1, k2, k3, k4, k5⟩ := H.load hb hl
          have hn : xs.length = n := by rw [← k3, hcs, List.length_map]
          have hcell : ∀ (j : Nat) x, xs[j]? = some x → w.cell? ⟨B, s + ad.off + j, none⟩ = some (.string x) := by
            intro j x hj
            have hlt := (List.getElem?_eq_some_iff.1 hj).1
            have h1 : h.load1 ad.block (ad.off + j) = some (.string x) := by
              unfold AH.load at hl
              unfold AH.load1
              split at hl
              · rename_i c0 g ro e0
                split at hl
                · rename_i hle
                  simp only [Option.some.injEq] at hl
                  have : cs[j]? = some (.string x) := by rw [hcs, List.getElem?_map, hj]; rfl
                  rw [← hl, List.getElem?_take, if_pos (by omega), List.getElem?_drop] at this
                  exact this
                · simp at hl
              · simp at hl
            obtain ⟨u, u1, u2, _⟩ := H.load1 hb h1
            rw [u2.str_inv, ← Nat.add_assoc] at u1
            exact u1
          have hB : B < w.heap.size := by
            have := hcell 0 (xs[0]'(by omega)) (by rw [List.getElem?_eq_getElem (by omega)])
            unfold World.cell? at this
            split at this
            · rename_i e0; exact (Array.getElem?_eq_some_iff.1 e0).1
            · simp at this
          have := hc B (s + ad.off) c' xs sep w hcell hB (by omega) (by omega) (by omega)
          rw [hn] at this
          refine this.mono fun e w' ⟨he, hbel⟩ => ?_
          exact ⟨_, γ, he, .same (Nat.le_refl _), H.more hbel, .str⟩
        · simp at hv
      · simp at hv
    · simp at hv
  all_goals simp_all
end
end Go.Jq
namespace Go.Jq
open Go.RowKit Go.Lib
theorem dec_lib : ∀ {u : Nat}, u < 2 ^ 64 → dec u = Lib.decDigits u := by
  intro u
  induction u using Nat.strongRecOn with
  | _ u ih =>
    intro hu
    rw [Lib.decDigits]
    by_cases h : u < 10
    · rw [dec_small h, dif_pos h]
    · rw [dec_big h hu, dif_neg h, ih (u / 10) (by omega) (by omega)]
theorem itoa_lib {n : Int} (h : I64 n) : itoaF n = Lib.itoa n := by
  unfold I64 at h
  rw [itoaF_eq]
  unfold Lib.itoa
  split
  · rw [dec_lib (by omega)]
  · rw [dec_lib (by omega)]
section
variable {C : Ctx}
theorem natOk_itoa {F : FuncId} (hT : ∀ w : World, Below C.base C.w0 w → ∀ n : Int, I64 n → Calls C.P F #[.int .i64 n, .int .i64 10] w fun e w' => e = .returned (.string ⟨(Lib.itoa n).toArray⟩) ∧ Below w.heap.size w w') : NatOk C 3 F := by
  refine .still (fun h args => by unfold natHeap; split <;> simp_all) ?_
  intro h γ w args args' v hv H ha
  simp only [natOf] at hv
  split at hv <;> try (simp_all; done)
  rename_i n b _
  split at hv
  · rename_i hx
    simp only [Option.some.injEq] at hv; subst hv
    have hargs : ∃ v1 v2, args' = #[v1, v2] ∧ VR C γ (.int .i64 n) v1 ∧ VR C γ (.int .i64 b) v2 := by
      obtain ⟨l⟩ := args'
      cases ha with
      | cons r1 ha => cases ha with
        | cons r2 ha => cases ha with
          | nil => exact ⟨_, _, rfl, r1, r2⟩
    obtain ⟨v1, v2, rfl, r1, r2⟩ := hargs
    rw [r1.int_inv, r2.int_inv, hx.1, itoa_lib (n := n) ⟨hx.2.1, by have := hx.2.2; omega⟩]
    refine (hT w H.below n ⟨hx.2.1, by have := hx.2.2; omega⟩).mono fun e w' ⟨he, hbel⟩ => ?_
    exact ⟨_, γ, he, .same (Nat.le_refl _), H.more hbel, .str⟩
  · simp at hv
end
end Go.Jq
