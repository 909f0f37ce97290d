/- A row of operations that came in, out of its reading. -/
import Derived.Test.YtcgpmahbigdikaaB7
import Derived.Test.YtcgpmahbigdikaaM26
import Derived.Deep.Strs
import Derived.Deep.Slices
import Derived.OpenShut
import Derived.ProofKit
set_option linter.unusedSimpArgs false
set_option linter.unusedVariables false
namespace Go.Jq
open Go.ChangeShapes Go.WideShapes Go.ChangeAt Go.RowKit Go.Deep

theorem slice_spot {P : Program} {W : World} {base : Nat} {t e : TypeId} {a : Addr} {len cap : Nat} (ht : P.underlying t = some (.slice e)) (h : Value.okWide P W .any base t (.slice (some a) len cap)) : a.spot = none := by
  simp only [Value.okWide, ht, Cell.okWide, Cell.ok] at h
  exact h.2.2.2.1

theorem list_of {α : Type} {n : Nat} {p : Nat → α → Prop} (h : ∀ i, i < n → ∃ x, p i x) : ∃ l : List α, l.length = n ∧ ∀ i (hi : i < l.length), p i l[i] := by
  induction n with
  | zero => exact ⟨[], rfl, fun i hi => by simp at hi⟩
  | succ n ih =>
    obtain ⟨l, hl, hp⟩ := ih fun i hi => h i (by omega)
    obtain ⟨x, hx⟩ := h n (by omega)
    refine ⟨l ++ [x], by simp [hl], fun i hi => ?_⟩
    by_cases e : i < l.length
    · rw [List.getElem_append_left e]; exact hp i e
    · have : i = n := by simp at hi; omega
      subst this
      rw [List.getElem_append_right (by omega)]
      simpa [hl] using hx

theorem open_ops {H : Type} {enc : TypeId × Value → H} {P : Program} {W : World} {base : Nat} {t e : TypeId} {f0 f1 f2 : Field} {v : Value} {d : DataW H} {ps : List MemPlace}
    (ht : P.underlying t = some (.slice e)) (he : P.underlying e = some (.struct #[f0, f1, f2])) (ce : P.cellsOf e = 3) (o0 : f0.offset = 0) (o1 : f1.offset = 1) (o2 : f2.offset = 2)
    (u0 : P.underlying f0.type = some (.int .i64)) (u1 : P.underlying f1.type = some (.int .i64)) (u2 : P.underlying f2.type = some (.int .i64)) (c0 : P.cellsOf f0.type = 1) (c1 : P.cellsOf f1.type = 1) (c2 : P.cellsOf f2.type = 1)
    (hok : Value.okWide P W .any base t v) (h : DataW.Trod enc P W 0 (fun _ => true) true t v d ps) :
    v = .slice none 0 0 ∨ ∃ B s cap, ∃ l : List OpT, v = .slice (some ⟨B, s, none⟩) l.length cap ∧ ∀ i, i < l.length * 3 → W.cell? ⟨B, s + i, none⟩ = (l.flatMap OpT.c)[i]? := by
  obtain ⟨a0, len0, cap0, rfl⟩ := okWide_slice ht hok
  obtain ⟨fuel, hf⟩ := h
  rcases open_slice ht hf with ⟨hcs, _⟩ | ⟨a, len, cap, m, n, D, Pl, hcs, _, hl, hm, hmm, _, hel⟩
  · simp [Value.cells] at hcs
    obtain ⟨rfl, rfl, rfl⟩ := hcs
    exact .inl rfl
  · simp [Value.cells] at hcs
    obtain ⟨rfl, rfl, rfl⟩ := hcs
    right
    obtain ⟨B, s, sp⟩ := a
    have hsp := slice_spot ht hok
    simp only at hsp
    subst hsp
    have hm' : m = cap0 := by simpa using hmm
    rw [ce] at hel
    have key : ∀ i, i < len0 → ∃ o : OpT, ∀ j, j < 3 → W.cell? ⟨B, s + (i * 3 + j), none⟩ = o.c[j]? := by
      intro i hi
      obtain ⟨cs', hc, hd⟩ := hel i (by omega)
      obtain ⟨_, hcl, hcj⟩ := World.cells?_some hc
      obtain ⟨y0, y1, y2, k, _, hlen, t0, t1, t2⟩ := trod_struct3 he hd
      obtain ⟨n0, e0, _⟩ := DataW.trod_int u0 t0
      obtain ⟨n1, e1, _⟩ := DataW.trod_int u1 t1
      obtain ⟨n2, e2, _⟩ := DataW.trod_int u2 t2
      rw [o0, c0] at e0
      rw [o1, c1] at e1
      rw [o2, c2] at e2
      match cs', hcl with
      | [x, y, z], _ =>
        simp at e0 e1 e2
        subst e0; subst e1; subst e2
        refine ⟨⟨n0, n1, n2⟩, fun j hj => ?_⟩
        have := hcj j hj
        have ea : ((⟨B, s, none⟩ : Addr).add (i * 3)).add j = ⟨B, s + (i * 3 + j), none⟩ := by
          unfold Addr.add
          split <;> split <;> simp_all <;> omega
        rw [ea] at this
        exact this
    obtain ⟨l, hll, hp⟩ := list_of key
    subst hll
    refine ⟨B, s, cap0, l, rfl, fun i hi => ?_⟩
    have h1 := hp (i / 3) (by omega) (i % 3) (by omega)
    have h2 := fm_get OpT.c_length l (i / 3) (i % 3) (by omega)
    rw [show i / 3 * 3 + i % 3 = i by omega] at h1 h2
    rw [h1, h2, List.getElem?_eq_getElem (l := l) (i := i / 3) (by omega)]
    rfl

theorem opc_plain (l : List OpT) : (l.flatMap OpT.c).all plain1 = true := by
  rw [List.all_eq_true]
  intro x hx
  obtain ⟨o, _, ho⟩ := List.mem_flatMap.1 hx
  simp only [OpT.c, List.mem_cons, List.not_mem_nil, or_false] at ho
  rcases ho with rfl | rfl | rfl <;> rfl

/-- what a walk over the small code is told of a row of operations that came in -/
theorem start_ops {C : Ctx} (hb : C.base = C.w0.heap.size) {v : Value} (h : v = .slice none 0 0 ∨ ∃ B s cap, ∃ l : List OpT, v = .slice (some ⟨B, s, none⟩) l.length cap ∧ ∀ i, i < l.length * 3 → C.w0.cell? ⟨B, s + i, none⟩ = (l.flatMap OpT.c)[i]?) :
    ∃ h0 γ v0, ∃ l : List OpT, HR C γ h0 C.w0 ∧ VR C γ v0 v ∧ Ops h0 l v0 ∧ ∀ b o sp c, v0 = .slice (some ⟨b, o, sp⟩) l.length c → b < h0.next := by
  rcases h with rfl | ⟨B, s, cap, l, rfl, hc⟩
  · exact ⟨h00, _, .slice none 0 0, [], HR.start hb, .sl0, ⟨rfl, .inl ⟨rfl, _, _, rfl⟩⟩, fun b o sp c e => by simp at e⟩
  · obtain ⟨h0, γ, v0, a1, a2, a3, a4⟩ := start_slice hb (k := 3) (len := l.length) (cap := cap) (cs := l.flatMap OpT.c) (by rw [fm_length OpT.c_length]) (opc_plain l) hc (by omega)
    exact ⟨h0, γ, v0, l, a1, a2, a3, a4⟩
end Go.Jq
