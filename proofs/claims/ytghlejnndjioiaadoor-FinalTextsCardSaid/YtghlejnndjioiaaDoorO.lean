/- An end that came in: twenty numbers. -/
import Derived.Test.YtghlejnndjioiaaDoorT
import Derived.Deep.Strs
import Derived.Deep.Slices
import Derived.OpenShut
import Derived.ProofKit
import Derived.Test.YtghlejnndjioiaaDoorM3
import Derived.Lib.ItoaNum
set_option linter.unusedSimpArgs false
set_option linter.unusedVariables false
namespace Go.Jq
open Go.ChangeShapes Go.WideShapes Go.ChangeAt Go.RowKit Go.Deep
theorem list_ofP {α : Type} {n : Nat} {p : Nat → α → Prop} (h : ∀ i, i < n → ∃ x, p i x) : ∃ l : List α, l.length = n ∧ ∀ i (hi : i < l.length), p i l[i] := by
  induction n with
  | zero => exact ⟨[], rfl, fun i hi => by simp at hi⟩
  | succ n ih =>
    obtain ⟨l, hl, hp⟩ := ih fun i hi => h i (by omega)
    obtain ⟨x, hx⟩ := h n (by omega)
    refine ⟨l ++ [x], by simp [hl], fun i hi => ?_⟩
    by_cases e : i < l.length
    · rw [List.getElem_append_left e]; exact hp i e
    · have : i = n := by simp at hi; omega
      subst this
      rw [List.getElem_append_right (by omega)]
      simpa [hl] using hx
section
variable {H : Type} {enc : TypeId × Value → H} {P : Program} {w : World} {base : Nat} {spare : Nat → Bool} {held : Bool}
def IntsAt (P : Program) (enc : TypeId × Value → H) (w : World) (base : Nat) (spare : Nat → Bool) (held : Bool) (t : TypeId) (k : Nat) : Prop :=
  ∀ (fuel : Nat) (cs : List Value) (x : DataW H × List MemPlace), DataW.trod enc P w base spare held fuel t cs = some x → ∃ A : List Int, cs = A.map (.int .i64) ∧ A.length = k ∧ ∀ x ∈ A, I64 x
theorem ints_of {cs : List Value} (h : ∀ j, j < cs.length → ∃ n : Int, cs[j]? = some (.int .i64 n) ∧ I64 n) : ∃ A : List Int, cs = A.map (.int .i64) ∧ A.length = cs.length ∧ ∀ x ∈ A, I64 x := by
  obtain ⟨A, h1, h2⟩ := list_ofP h
  refine ⟨A, ?_, h1, fun x hx => by obtain ⟨i, hi, rfl⟩ := List.getElem_of_mem hx; exact (h2 i hi).2⟩
  apply List.ext_getElem?
  intro j
  by_cases hj : j < cs.length
  · rw [(h2 j (by omega)).1, List.getElem?_map, List.getElem?_eq_getElem (by omega)]; rfl
  · rw [List.getElem?_eq_none (by omega), List.getElem?_eq_none (by simp; omega)]
theorem IntsAt.int {t : TypeId} (ht : P.underlying t = some (.int .i64)) : IntsAt P enc w base spare held t 1 := by
  intro fuel cs x h
  obtain ⟨n, e, _, hw⟩ := DataW.trod_int ht h
  refine ⟨[n], by rw [e]; rfl, rfl, fun x hx => ?_⟩
  rw [List.mem_singleton] at hx
  subst hx
  unfold Lit.wf at hw
  simp [IntKind.min, IntKind.max, IntKind.signed, IntKind.bits] at hw
  exact hw
theorem IntsAt.array {t e : TypeId} {n k : Nat} (ht : P.underlying t = some (.array n e)) (hk : P.cellsOf e = k) (hc : P.cellsOf t = n * k) (hpos : 0 < k) (he : IntsAt P enc w base spare held e k) : IntsAt P enc w base spare held t (n * k) := by
  intro fuel cs x h
  obtain ⟨xs, m, _, _, hl, hxl, hx⟩ := DataW.trod_array ht h
  rw [hc] at hl
  have : ∀ j, j < cs.length → ∃ q : Int, cs[j]? = some (.int .i64 q) ∧ I64 q := by
    intro j hj
    have hi : j / k < n := by rw [Nat.div_lt_iff_lt_mul hpos]; omega
    have h1 := hx (j / k) hi
    rw [List.getElem?_eq_getElem (by omega), hk] at h1
    obtain ⟨A, e1, e2, e3⟩ := he _ _ _ h1
    have hm : j % k < k := Nat.mod_lt _ hpos
    have h2 : (((cs.drop (j / k * k)).take k))[j % k]? = cs[j]? := by
      rw [List.getElem?_take, if_pos hm, List.getElem?_drop]
      congr 1
      rw [Nat.mul_comm]; exact Nat.div_add_mod j k
    rw [e1, List.getElem?_map, List.getElem?_eq_getElem (by omega)] at h2
    exact ⟨_, h2.symm, e3 _ (List.getElem_mem _)⟩
  obtain ⟨A, e1, e2, e3⟩ := ints_of this
  exact ⟨A, e1, by omega, e3⟩
theorem IntsAt.struct2 {t : TypeId} {f0 f1 : Field} {a b : Nat} (ht : P.underlying t = some (.struct #[f0, f1])) (h0 : P.cellsOf f0.type = a) (h1 : P.cellsOf f1.type = b) (hc : P.cellsOf t = a + b) (o0 : f0.offset = 0) (o1 : f1.offset = a)
    (i0 : IntsAt P enc w base spare held f0.type a) (i1 : IntsAt P enc w base spare held f1.type b) : IntsAt P enc w base spare held t (a + b) := by
  intro fuel cs x h
  obtain ⟨y0, y1, n, _, hl, t0, t1⟩ := trod_struct2 ht h
  rw [hc] at hl
  rw [h0, o0, List.drop_zero] at t0
  rw [h1, o1] at t1
  obtain ⟨A, e1, e2, e5⟩ := i0 _ _ _ t0
  obtain ⟨B, e3, e4, e6⟩ := i1 _ _ _ t1
  refine ⟨A ++ B, ?_, by simp [e2, e4], fun x hx => (List.mem_append.1 hx).elim (e5 x) (e6 x)⟩
  rw [List.map_append, ← e1, ← e3, List.take_of_length_le (l := cs.drop a) (by simp; omega), List.take_append_drop]
theorem open_end {t : TypeId} {f0 f1 : Field} {v : Value} {d : DataW H} {ps : List MemPlace} {e r : TypeId} (ht : P.underlying t = some (.struct #[f0, f1])) (u0 : P.underlying f0.type = some (.array 4 r)) (ur : P.underlying r = some (.array 4 e)) (u1 : P.underlying f1.type = some (.array 4 e)) (ue : P.underlying e = some (.int .i64))
    (ct : P.cellsOf t = 20) (c0 : P.cellsOf f0.type = 16) (c1 : P.cellsOf f1.type = 4) (cr : P.cellsOf r = 4) (ce : P.cellsOf e = 1) (o0 : f0.offset = 0) (o1 : f1.offset = 16)
    (hok : Value.okWide P w .any base t v) (h : DataW.Trod enc P w 0 (fun _ => true) true t v d ps) : ∃ A : List Int, v = .agg (endC A).toArray ∧ EndOk A := by
  obtain ⟨cs, rfl, hsz⟩ := okWide_struct ht hok
  obtain ⟨fuel, hf⟩ := h
  have ie : IntsAt P enc w 0 (fun _ => true) true e 1 := .int ue
  have ir : IntsAt P enc w 0 (fun _ => true) true r (4 * 1) := .array ur ce (by rw [cr]) (by omega) ie
  have i0 : IntsAt P enc w 0 (fun _ => true) true f0.type (4 * 4) := .array u0 cr (by rw [c0]) (by omega) ir
  have i1 : IntsAt P enc w 0 (fun _ => true) true f1.type (4 * 1) := .array u1 ce (by rw [c1]) (by omega) ie
  obtain ⟨A, e1, e2, e3⟩ := IntsAt.struct2 ht c0 c1 (by rw [ct]) o0 o1 i0 i1 _ _ _ hf
  refine ⟨A, ?_, e2, e3⟩
  have : cs.toList = A.map (.int .i64) := by simpa [Value.cells] using e1
  rw [endC, ← this]
end
end Go.Jq
namespace Go.Jq
open Go.RowKit
section
variable {C : Ctx} {γ : Gm} {h : AH} {w w' : World}
theorem HR.more (H : HR C γ h w) (hb : Below w.heap.size w w') : HR C γ h w' := by
  have hs : ∀ (B : Nat) (o : Obj), w.heap[B]? = some o → w'.heap[B]? = some o := fun B o e => by
    have hlt : B < w.heap.size := (Array.getElem?_eq_some_iff.1 e).1
    rw [hb.block B hlt]; exact e
  refine ⟨H.below.trans (hb.mono H.size), H.low, fun b B s N e => ?_, H.inj, H.dom⟩
  have k := H.blk b B s N e
  cases ho : h.get b with
  | dead => trivial
  | map es clk =>
    rw [ho] at k
    obtain ⟨es', k1, k2⟩ := k
    exact ⟨es', hs _ _ k1, k2⟩
  | cells c g ro =>
    rw [ho] at k
    obtain ⟨D, E, lo, hi, k1, k2⟩ := k
    exact ⟨D, E, lo, hi, hs _ _ k1, k2⟩
theorem strsOf_get {l : List Value} {xs : List ByteArray} (H : strsOf l = some xs) : l = xs.map .string := by
  induction l generalizing xs with
  | nil => simp only [strsOf, Option.some.injEq] at H; subst H; rfl
  | cons v l ih =>
    cases v with
    | string s =>
      simp only [strsOf] at H
      split at H
      · rename_i r hr
        simp only [Option.some.injEq] at H; subst H
        rw [ih hr]; rfl
      · simp at H
    | _ => simp [strsOf] at H
theorem VR.slice_cap {ad : Addr} {l c : Nat} {v : Value} (hv : VR C γ (.slice (some ad) l c) v) (h0 : 0 < l) : ∃ B s N c', γ ad.block = some (B, s, N) ∧ v = .slice (some ⟨B, s + ad.off, none⟩) l c' ∧ c ≤ c' := by
  cases hv
  case slX hb => exact ⟨_, _, _, _, hb, rfl, Nat.le_refl _⟩
  case slI hb h1 h2 h3 => exact ⟨_, _, _, _, hb, rfl, h2⟩
  case slE hb => omega
theorem natOk_join {F : FuncId} (hc : ∀ (bk o c : Nat) (xs : List ByteArray) (sep : ByteArray) (w : World), (∀ (j : Nat) x, xs[j]? = some x → w.cell? ⟨bk, o + j, none⟩ = some (.string x)) → bk < w.heap.size → xs.length ≤ 140737488355328 → xs.length ≤ c → (joinOf xs sep).length ≤ 140737488355328 →
    Calls C.P F #[.slice (some ⟨bk, o, none⟩) xs.length c, .string sep] w fun e w' => e = .returned (.string ⟨(joinOf xs sep).toArray⟩) ∧ Below w.heap.size w w') : NatOk C 2 F := by
  intro h γ w args args' v hv H ha
  simp only [natOf] at hv
  split at hv
  · rename_i ad n c sep _
    split at hv
    · rename_i cs hl
      split at hv
      · rename_i xs hx
        split at hv
        · rename_i hk
          simp only [Option.some.injEq] at hv; subst hv
          have hcs := strsOf_get hx
          have hargs : ∃ v1 v2, args' = #[v1, v2] ∧ VR C γ (.slice (some ad) n c) v1 ∧ VR C γ (.string sep) v2 := by
            obtain ⟨l⟩ := args'
            cases ha with
            | cons r1 ha => cases ha with
              | cons r2 ha => cases ha with
                | nil => exact ⟨_, _, rfl, r1, r2⟩
          obtain ⟨v1, v2, rfl, r1, r2⟩ := hargs
          obtain ⟨B, s, N, c', hb, rfl, hcc⟩ := r1.slice_cap hk.2.2.1
          rw [r2.str_inv]
          obtain ⟨l', k1, k2, k3, k4, k5⟩ := H.load hb hl
          have hn : xs.length = n := by rw [← k3, hcs, List.length_map]
          have hcell : ∀ (j : Nat) x, xs[j]? = some x → w.cell? ⟨B, s + ad.off + j, none⟩ = some (.string x) := by
            intro j x hj
            have hlt := (List.getElem?_eq_some_iff.1 hj).1
            have h1 : h.load1 ad.block (ad.off + j) = some (.string x) := by
              unfold AH.load at hl
              unfold AH.load1
              split at hl
              · rename_i c0 g ro e0
                split at hl
                · rename_i hle
                  simp only [Option.some.injEq] at hl
                  have : cs[j]? = some (.string x) := by rw [hcs, List.getElem?_map, hj]; rfl
                  rw [← hl, List.getElem?_take, if_pos (by omega), List.getElem?_drop] at this
                  exact this
                · simp at hl
              · simp at hl
            obtain ⟨u, u1, u2, _⟩ := H.load1 hb h1
            rw [u2.str_inv, ← Nat.add_assoc] at u1
            exact u1
          have hB : B < w.heap.size := by
            have := hcell 0 (xs[0]'(by omega)) (by rw [List.getElem?_eq_getElem (by omega)])
            unfold World.cell? at this
            split at this
            · rename_i e0; exact (Array.getElem?_eq_some_iff.1 e0).1
            · simp at this
          have := hc B (s + ad.off) c' xs sep w hcell hB (by omega) (by omega) (by omega)
          rw [hn] at this
          refine this.mono fun e w' ⟨he, hbel⟩ => ?_
          exact ⟨_, γ, he, .same (Nat.le_refl _), H.more hbel, .str⟩
        · simp at hv
      · simp at hv
    · simp at hv
  all_goals simp_all
end
end Go.Jq
namespace Go.Jq
open Go.RowKit Go.Lib
theorem dec_lib : ∀ {u : Nat}, u < 2 ^ 64 → dec u = Lib.decDigits u := by
  intro u
  induction u using Nat.strongRecOn with
  | _ u ih =>
    intro hu
    rw [Lib.decDigits]
    by_cases h : u < 10
    · rw [dec_small h, dif_pos h]
    · rw [dec_big h hu, dif_neg h, ih (u / 10) (by omega) (by omega)]
theorem itoa_lib {n : Int} (h : I64 n) : itoaF n = Lib.itoa n := by
  unfold I64 at h
  rw [itoaF_eq]
  unfold Lib.itoa
  split
  · rw [dec_lib (by omega)]
  · rw [dec_lib (by omega)]
section
variable {C : Ctx}
theorem natOk_itoa {F : FuncId} (hT : ∀ w : World, Below C.base C.w0 w → ∀ n : Int, I64 n → Calls C.P F #[.int .i64 n, .int .i64 10] w fun e w' => e = .returned (.string ⟨(Lib.itoa n).toArray⟩) ∧ Below w.heap.size w w') : NatOk C 3 F := by
  intro h γ w args args' v hv H ha
  simp only [natOf] at hv
  split at hv <;> try (simp_all; done)
  rename_i n b _
  split at hv
  · rename_i hx
    simp only [Option.some.injEq] at hv; subst hv
    have hargs : ∃ v1 v2, args' = #[v1, v2] ∧ VR C γ (.int .i64 n) v1 ∧ VR C γ (.int .i64 b) v2 := by
      obtain ⟨l⟩ := args'
      cases ha with
      | cons r1 ha => cases ha with
        | cons r2 ha => cases ha with
          | nil => exact ⟨_, _, rfl, r1, r2⟩
    obtain ⟨v1, v2, rfl, r1, r2⟩ := hargs
    rw [r1.int_inv, r2.int_inv, hx.1, itoa_lib (n := n) ⟨hx.2.1, by have := hx.2.2; omega⟩]
    refine (hT w H.below n ⟨hx.2.1, by have := hx.2.2; omega⟩).mono fun e w' ⟨he, hbel⟩ => ?_
    exact ⟨_, γ, he, .same (Nat.le_refl _), H.more hbel, .str⟩
  · simp at hv
end
end Go.Jq
