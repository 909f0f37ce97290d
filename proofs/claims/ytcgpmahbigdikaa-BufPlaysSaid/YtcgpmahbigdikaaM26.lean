/- What lies in memory when a call begins: a slice that came in. -/
import Derived.Test.YtcgpmahbigdikaaM24
import Derived.Test.YtcgpmahbigdikaaM25
set_option linter.unusedSimpArgs false
set_option linter.unusedVariables false
namespace Go.Jq
open Go.RowKit

theorem plain1_oneCell {v : Value} (h : plain1 v = true) : v.oneCell' = true := plain1_one h

/-- Memory with one block, as it is seen through a slice that came in. -/
theorem start_slice {C : Ctx} (hb : C.base = C.w0.heap.size) {k B s len cap : Nat} {cs : List Value} (hlen : cs.length = len * k) (hp : cs.all plain1 = true) (hcell : ∀ t, t < len * k → C.w0.cell? ⟨B, s + t, none⟩ = cs[t]?) (hk : 0 < k) :
    ∃ h γ v, HR C γ h C.w0 ∧ VR C γ v (.slice (some ⟨B, s, none⟩) len cap) ∧ SlV k h len cs v ∧ ∀ b o sp c, v = .slice (some ⟨b, o, sp⟩) len c → b < h.next := by
  by_cases h0 : len = 0
  · subst h0
    refine ⟨⟨1, fun _ => .dead⟩, fun b => if b = 0 then some (B, s, 0) else none, .slice (some ⟨0, 0, none⟩) 0 cap, ?_, ?_, ⟨hlen, .inl ⟨rfl, _, _, rfl⟩⟩, ?_⟩
    · refine ⟨Below.refl _ _, Nat.le_of_eq hb, fun b B' s' N' _ => trivial, fun b b' B' s' N' s'' N'' _ _ hw _ => by simp [ABlk.wr] at hw, fun b hbn => ?_⟩
      have : b ≠ 0 := by simp at hbn; omega
      simp [this]
    · exact .slX (o := 0) (N := 0) (by simp)
    · intro b o sp c e; simp at e; obtain ⟨⟨rfl, _⟩, _⟩ := e; simp
  · have hpos : 0 < len * k := Nat.mul_pos (Nat.pos_of_ne_zero h0) hk
    have hc0 := hcell 0 hpos
    obtain ⟨D, E, fl, hD⟩ : ∃ D E fl, C.w0.heap[B]? = some (.cells D E fl) := by
      unfold World.cell? at hc0
      simp only at hc0
      split at hc0
      · exact ⟨_, _, _, by assumption⟩
      · rw [List.getElem?_eq_getElem (by omega)] at hc0; simp at hc0
    obtain ⟨lo, hi⟩ := fl
    have hDt : ∀ t, t < len * k → D[s + t]? = cs[t]? := fun t ht => by rw [← cell_of hD]; exact hcell t ht
    have hsz : s + cs.length ≤ D.size := by
      have := hDt (len * k - 1) (by omega)
      rw [List.getElem?_eq_getElem (by omega)] at this
      have := (Array.getElem?_eq_some_iff.1 this).1
      omega
    have hcs : (D.toList.drop s).take cs.length = cs := by
      apply List.ext_getElem?
      intro t
      by_cases ht : t < cs.length
      · rw [List.getElem?_take, if_pos ht, List.getElem?_drop, Array.getElem?_toList, hDt t (by omega)]
      · rw [List.getElem?_eq_none (by simp; omega), List.getElem?_eq_none (by omega)]
    refine ⟨⟨1, fun b => if b = 0 then .cells cs false true else .dead⟩, fun b => if b = 0 then some (B, s, D.size) else none, .slice (some ⟨0, 0, none⟩) len cap, ?_, ?_, ⟨hlen, .inr ⟨0, 0, none, cap, cs, false, true, rfl, by simp, by simp, by omega, by simp [← hlen]⟩⟩, ?_⟩
    · refine ⟨Below.refl _ _, Nat.le_of_eq hb, fun b B' s' N' hbb => ?_, fun b b' B' s' N' s'' N'' h1 h2 hw _ => ?_, fun b hbn => ?_⟩
      · by_cases hb0 : b = 0
        · subst hb0
          simp only [if_true, Option.some.injEq, Prod.mk.injEq] at hbb ⊢
          obtain ⟨rfl, rfl, rfl⟩ := hbb
          refine ⟨D, E, lo, hi, hD, rfl, hsz, by rw [hcs]; exact plains_VR hp, fun x hx => plain1_one (List.all_eq_true.1 hp x hx), fun _ => ?_, fun e => by simp at e⟩
          rw [hb]
          exact (Array.getElem?_eq_some_iff.1 hD).1
        · simp [hb0] at hbb
      · by_cases hb0 : b = 0
        · subst hb0; simp [ABlk.wr] at hw
        · simp [hb0] at h1
      · have : b ≠ 0 := by simp at hbn; omega
        simp [this]
    · exact .slX (o := 0) (N := D.size) (by simp)
    · intro b o sp c e; simp at e; obtain ⟨⟨rfl, _⟩, _⟩ := e; simp
end Go.Jq
