/- Stores that wait: List. -/
import Derived.Test.YtcgpmahbigdikaaB3
set_option linter.unusedSimpArgs false
set_option linter.unusedVariables false
namespace Go.Jq
variable {G : Nat → SFunc} {h : AH} {R : Value → AH → Prop}

def listN (m loc : Int) (es : List Ent) : List Ent := es.filter (hits m loc)

def inv7 (m loc : Int) (es : List Ent) (h : AH) (n : Nat) (F : Fr) (hh : AH) : Prop :=
  ∃ i v, n = es.length - i ∧ i ≤ es.length ∧ SlG 3 hh (h.next + 1) (listN m loc (es.take i)).length ((listN m loc (es.take i)).flatMap Ent.c) v ∧ Ext (h.alloc (.cells (bufC m es) false false)) hh ∧
    F = [(1, .int .i64 loc), (2, .pointer (some ⟨h.next, 0, none⟩)), (5, v), (11, .slice (some ⟨h.next, 2, none⟩) es.length 24), (12, .int .i64 es.length), (13, .int .i64 i)]

theorem bufC_sub {m : Int} {es : List Ent} {i : Nat} (hi : i < es.length) : ((bufC m es).drop (2 + i * 3)).take 3 = es[i].c := by
  have e : (bufC m es).drop (2 + i * 3) = ((pad es).drop i).flatMap Ent.c := by
    rw [← fm_drop Ent.c_length, bufC, Nat.add_comm 2]; rfl
  rw [e, show 3 = 1 * 3 from rfl, fm_take Ent.c_length, pad, List.drop_append_of_le_length (by omega), List.drop_eq_getElem_cons hi, List.cons_append, List.take_succ_cons, List.take_zero, List.flatMap_cons, List.flatMap_nil, List.append_nil]

theorem bh0 {m : Int} {es : List Ent} {h : 0 < (bufC m es).length} : (bufC m es)[0] = .int .i64 m := rfl
theorem bh1 {m : Int} {es : List Ent} {h : 1 < (bufC m es).length} : (bufC m es)[1] = .int .i64 es.length := rfl

theorem List_spec (g : BufG G) {m loc : Int} {es : List Ent} (hes : es.length ≤ 24)
    (k : ∀ v h1, Ext h h1 → SlG 3 h1 h.next (listN m loc es).length ((listN m loc es).flatMap Ent.c) v → R v h1) : WC G 7 [bufV m es, .int .i64 loc] h R := by
  refine WC_enter g.g7 rfl ?_
  show W G c7_body _ _ (retK [.tmp 4] R)
  unfold c7_body c7_0 c7_1 c7_2
  have f0 : (es.length : Int) ≤ 24 := by omega
  simp -implicitDefEqProofs [bufV, bg1, f0, sslice, addrAdd]
  refine W_loop (inv7 m loc es h) es.length ⟨0, _, rfl, Nat.zero_le _, SlG.nil, .refl _, rfl⟩ ?_
  rintro n F hh ⟨i, v, rfl, hi, hs, hx, rfl⟩
  have hb : hh.get h.next = .cells (bufC m es) false false := by rw [hx.get _ (by simp)]; simp
  have hnx : h.next < hh.next := hx.next
  unfold c7_8 c7_3 c7_4 c7_5 c7_6 c7_7 c7_9
  by_cases h1 : i < es.length
  · have hw : IntKind.i64.wrap ((i : Int) + 1) = (i : Int) + 1 := wrap64 (by omega)
    have f1 : (i : Int) < 24 := by omega
    have f2 : 2 + i * 3 + 3 ≤ 74 := by omega
    have f3 : h.next ≠ hh.next := by omega
    have ht : es.take (i + 1) = es.take i ++ [es[i]] := by rw [List.take_succ_eq_append_getElem h1]
    have step : ∀ hh' v', Ext hh hh' → hits m loc es[i] = false → hh'.next = hh.next + 1 → v' = v → ∃ m_1, m_1 < es.length - i ∧ inv7 m loc es h m_1 [(1, .int .i64 loc), (2, .pointer (some ⟨h.next, 0, none⟩)), (5, v'), (11, .slice (some ⟨h.next, 2, none⟩) es.length 24), (12, .int .i64 es.length), (13, .int .i64 ((i : Int) + 1))] hh' := by
      intro hh' v' x hf _ hv
      subst hv
      refine ⟨es.length - (i + 1), by omega, i + 1, v', rfl, h1, ?_, hx.trans x, by simp⟩
      have : listN m loc (es.take (i + 1)) = listN m loc (es.take i) := by
        have e : [es[i]].filter (hits m loc) = [] := by simp [hf]
        rw [listN, ht, List.filter_append, e, List.append_nil]; rfl
      rw [this]
      exact hs.ext x
    cases h2 : hits m loc es[i] with
    | true =>
      have e : [es[i]].filter (hits m loc) = [es[i]] := by simp [h2]
      have hL : listN m loc (es.take (i + 1)) = listN m loc (es.take i) ++ [es[i]] := by rw [listN, ht, List.filter_append, e]; rfl
      have hN : (listN m loc (es.take i)).length ≤ 24 := Nat.le_trans (List.length_filter_le _ _) (by simp; omega)
      have app : ∀ (H : AH) (K : Value → AH → Prop), Ext hh H → H.load (hh.next + 1) 0 (1 * 3) = some es[i].c →
          (∀ v' h', SlG 3 h' (h.next + 1) (listN m loc (es.take (i + 1))).length ((listN m loc (es.take (i + 1))).flatMap Ent.c) v' → Ext (h.alloc (.cells (bufC m es) false false)) h' → K v' h') →
          getvh (sappend H 3 24 v (.slice (some ⟨hh.next + 1, 0, none⟩) 1 1)) K := by
        intro H K xH hl hK
        obtain ⟨h', e1, e2, e3, _, e4⟩ := (hs.ext xH).append (m := 1) (m' := 1) (bytes := 24) (sp := none) hl (by omega) (by omega) (by have := xH.next; omega)
        rw [e1, getvh_some]
        refine hK _ _ ?_ ⟨by have := xH.next; have := hx.next; simp at this ⊢; omega, fun x hx' => ?_⟩
        · rw [hL, List.length_append, List.flatMap_append]
          simpa using e2
        · rw [e4 x (by simpa using hx'), xH.get x (by have := hx.next; simp at this hx'; omega), hx.get x hx']
      have fin : ∀ v' h', SlG 3 h' (h.next + 1) (listN m loc (es.take (i + 1))).length ((listN m loc (es.take (i + 1))).flatMap Ent.c) v' → Ext (h.alloc (.cells (bufC m es) false false)) h' →
          ∃ m_1, m_1 < es.length - i ∧ inv7 m loc es h m_1 [(1, .int .i64 loc), (2, .pointer (some ⟨h.next, 0, none⟩)), (5, v'), (11, .slice (some ⟨h.next, 2, none⟩) es.length 24), (12, .int .i64 es.length), (13, .int .i64 ((i : Int) + 1))] h' := by
        intro v' h' a1 a2
        exact ⟨es.length - (i + 1), by omega, i + 1, v', rfl, h1, a1, a2, by simp⟩
      by_cases h3 : m = 2
      · simp -implicitDefEqProofs [h1, h3, f1, f2, f3, hw, hb, bh0, bufC_length hes, bufC_sub h1, Ent.c, splice_all]
        rw [← h3]
        refine app _ _ ((((Ext.refl hh).alloc _).put (Nat.le_refl _) _).alloc _) (by simp [Ent.c]) fun v' h' a1 a2 => ?_
        simp -implicitDefEqProofs [hw]
        exact fin v' h' a1 a2
      · have h4 : es[i].loc = loc := by simpa [hits, h3] using h2
        simp -implicitDefEqProofs [h1, h3, h4, f1, f2, f3, hw, hb, bh0, bufC_length hes, bufC_sub h1, Ent.c, splice_all]
        refine app _ _ ((((Ext.refl hh).alloc _).put (Nat.le_refl _) _).alloc _) (by simp [Ent.c, h4]) fun v' h' a1 a2 => ?_
        simp -implicitDefEqProofs [hw]
        exact fin v' h' a1 a2
    | false =>
      have h3 : m ≠ 2 := by rintro rfl; simp [hits] at h2
      have h4 : es[i].loc ≠ loc := by intro e; simp [hits, e] at h2
      simp -implicitDefEqProofs [h1, h3, h4, f1, f2, f3, hw, hb, bh0, bufC_length hes, bufC_sub h1, Ent.c, splice_all]
      exact step _ _ (((Ext.refl hh).alloc _).put (Nat.le_refl _) _) h2 rfl rfl
  · have hi' : i = es.length := by omega
    subst hi'
    simp -implicitDefEqProofs []
    rw [List.take_length] at hs
    exact k _ _ (((Ext.refl h).alloc _).trans hx) (hs.low (Nat.le_succ _))
end Go.Jq
