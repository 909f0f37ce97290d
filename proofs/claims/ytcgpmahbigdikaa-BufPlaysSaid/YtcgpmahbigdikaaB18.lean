/- Stores that wait: BufPlays, a round. -/
import Derived.Test.YtcgpmahbigdikaaB17
set_option linter.unusedSimpArgs false
set_option linter.unusedVariables false
namespace Go.Jq
variable {G : Nat → SFunc} {h : AH} {R : Value → AH → Prop}

def inv3 (m loc : Int) (l : List OpT) (lv : Value) (k : Nat) (F : Fr) (hh : AH) : Prop :=
  ∃ (i B : Nat) (es : List Ent) (w : Value), k = l.length - i ∧ i ≤ l.length ∧ i ≤ 60 ∧ MemP m l lv B es w hh ∧
    F = [(0, .int .i64 m), (1, lv), (2, .int .i64 loc), (7, .pointer (some ⟨B, 0, none⟩)), (8, w), (9, .int .i64 i)]

/-- what a round does to the row -/
def stepS (m : Int) (es : List Ent) (o : OpT) (i : Int) : List Ent := if o.kind = 0 then addS (newM m) es o.loc o.v i else dropS (newM m) o.loc es
theorem stepS_le {m : Int} {es : List Ent} {o : OpT} {i : Int} (h : es.length ≤ 24) : (stepS m es o i).length ≤ 24 := by
  unfold stepS; split
  · exact addS_le h
  · exact dropS_le h
theorem stepS_mo {m : Int} {es : List Ent} {o : OpT} {i : Int} (h : newM m = m ∨ es = []) : newM m = m ∨ stepS m es o i = [] := by
  by_cases h0 : newM m = 0
  · rcases h with h | rfl
    · exact .inl h
    · right
      unfold stepS; split
      · rw [addS, if_pos (.inl h0)]
      · rfl
  · left
    have := newM_ne.1 h0
    rw [newM, if_pos this]

/-- the same, where b is ahead of the law's own list -/
structure MemQ (m : Int) (l : List OpT) (lv : Value) (B : Nat) (es' es : List Ent) (w : Value) (hh : AH) : Prop where
  b : hh.get B = .cells (bufC (newM m) es') false false
  nx : B < hh.next
  le : es'.length ≤ 24
  mo : newM m = m ∨ es' = []
  le0 : es.length ≤ 24
  ws : SlR 3 hh es.length (es.flatMap Ent.c) w
  wb : ∀ b o sp n c, w = .slice (some ⟨b, o, sp⟩) n c → b ≠ B ∧ (sp = none ∨ sp = some 3) ∧ n ≤ c
  ops : Ops hh l lv
  low : ∀ b o sp c, lv = .slice (some ⟨b, o, sp⟩) l.length c → b < B

theorem MemP.store {m : Int} {l : List OpT} {lv : Value} {B : Nat} {es es' : List Ent} {w : Value} {hh h1 : AH} (s : MemP m l lv B es w hh) (x : Ext hh h1) (le : es'.length ≤ 24) (mo : newM m = m ∨ es' = []) :
    MemQ m l lv B es' es w (h1.put B (.cells (bufC (newM m) es') false false)) := by
  have s1 := s.ext x
  refine ⟨by simp, s1.nx, le, mo, s.le, ?_, s.wb, ?_, s.low⟩
  · obtain ⟨⟨a1, a2⟩, a3⟩ := s1.ws
    refine ⟨⟨a1, ?_⟩, ?_⟩
    · rcases a2 with a2 | ⟨b, o, sp, c, c0, g, ro, e1, e2, e3, e4⟩
      · exact .inl a2
      · exact .inr ⟨b, o, sp, c, c0, g, ro, e1, e2, by rw [AH.put_get, if_neg (s.wb _ _ _ _ _ e1).1]; exact e3, e4⟩
    · rcases a3 with a3 | a3 | ⟨b, o, sp, c, c0, g, ro, e1, e2, e3, e4⟩
      · exact .inl a3
      · exact .inr (.inl a3)
      · exact .inr (.inr ⟨b, o, sp, c, c0, g, ro, e1, e2, by rw [AH.put_get, if_neg (s.wb _ _ _ _ _ e1).1]; exact e3, e4⟩)
  · obtain ⟨a1, a2⟩ := s1.ops
    refine ⟨a1, ?_⟩
    rcases a2 with a2 | ⟨b, o, sp, c, c0, g, ro, e1, e2, e3, e4⟩
    · exact .inl a2
    · have := s.low b o sp c e1
      exact .inr ⟨b, o, sp, c, c0, g, ro, e1, e2, by rw [AH.put_get, if_neg (by omega)]; exact e3, e4⟩
theorem MemQ.same {m : Int} {l : List OpT} {lv : Value} {B : Nat} {es : List Ent} {w : Value} {hh : AH} (s : MemQ m l lv B es es w hh) : MemP m l lv B es w hh := ⟨s.b, s.nx, s.le, s.mo, s.ws, s.wb, s.ops, s.low⟩
theorem MemQ.ext {m : Int} {l : List OpT} {lv : Value} {B : Nat} {es' es : List Ent} {w : Value} {hh h1 : AH} (s : MemQ m l lv B es' es w hh) (x : Ext hh h1) : MemQ m l lv B es' es w h1 :=
  ⟨(x.get B s.nx).trans s.b, Nat.lt_of_lt_of_le s.nx x.next, s.le, s.mo, s.le0, s.ws.ext x, s.wb, SlV.ext s.ops x, s.low⟩
theorem MemQ.grow {m : Int} {l : List OpT} {lv : Value} {B : Nat} {es' es : List Ent} {w w' : Value} {hh h1 : AH} (s : MemQ m l lv B es' es w hh) (x : Ext hh h1) (r : SlR 3 h1 es'.length (es'.flatMap Ent.c) w') (k : Slk hh.next 3 w') : MemP m l lv B es' w' h1 := by
  have s1 := s.ext x
  refine ⟨s1.b, s1.nx, s.le, s.mo, r, ?_, s1.ops, s.low⟩
  intro b o sp n c e
  obtain ⟨k1, k2, k3⟩ := k b o sp n c e
  have := s.nx
  exact ⟨by omega, k2, k3⟩

/-- append(append([]Entry{}, w...), x) -/
theorem grow_put {v0 v1 v2 v7 v61 : Value} {P Q : Nat} {x y z : Int} {i : Nat} {w : Value} {es : List Ent} {H2 : AH} {R : SExit → Fr → AH → Prop} (hP : H2.get P = .cells [.int .i64 x, .int .i64 y, .int .i64 z] false false) (hPn : P < H2.next)
    (hw : SlR 3 H2 es.length (es.flatMap Ent.c) w) (hn : es.length < 24)
    (k : ∀ w' h', SlR 3 h' (es ++ [(⟨y, z, i⟩ : Ent)]).length ((es ++ [(⟨y, z, i⟩ : Ent)]).flatMap Ent.c) w' → Ext H2 h' → Slk H2.next 3 w' → R .normal [(0, v0), (1, v1), (2, v2), (7, v7), (8, w'), (9, .int .i64 i), (11, .pointer (some ⟨Q, 0, none⟩))] h') :
    W G (.dreg [0, 1, 2, 7, 8, 9, 11] c3_10 c3_10b) [(0, v0), (1, v1), (2, v2), (7, v7), (8, w), (9, .int .i64 i), (10, .pointer (some ⟨P, 0, none⟩)), (11, .pointer (some ⟨Q, 0, none⟩)), (61, v61)] H2 R := by
  have hnN : ¬ P = H2.next := by omega
  have hnN1 : ¬ P = H2.next + 1 := by omega
  have x3 : Ext H2 ((H2.alloc (.cells [] false false)).alloc (.cells [.int .i64 y, .int .i64 z, .int .i64 i] false false)) := ((Ext.refl H2).alloc _).alloc _
  obtain ⟨v', h', ea, sT, x4, k4⟩ := append_lit (bytes := 24) (b := H2.next) (c := []) (g := false) (ro := false) (lo := H2.next) (by simp) (Nat.le_refl _) (by simp) (hw.ext x3) (by omega) (by simp)
  have hg4 : h'.get (H2.next + 1) = .cells [.int .i64 y, .int .i64 z, .int .i64 i] false false := (x4.get _ (by simp)).trans (by simp)
  have hP4 : h'.get P = .cells [.int .i64 x, .int .i64 y, .int .i64 z] false false := (x4.get _ (by simp; omega)).trans ((x3.get _ (by omega)).trans hP)
  have nx4 : H2.next + 2 ≤ h'.next := x4.next
  obtain ⟨v3, h3, ea3, sR, x5, k5, k6⟩ := sT.append (bytes := 24) (m := 1) (ec := [.int .i64 y, .int .i64 z, .int .i64 i]) (y := .slice (some ⟨H2.next + 1, 0, none⟩) 1 1)
    ⟨⟨rfl, .inr ⟨H2.next + 1, 0, none, 1, _, false, false, rfl, by omega, hg4, Nat.le_refl _, rfl⟩⟩, .inl (by omega)⟩ (by omega) (by omega)
  obtain ⟨aw, cw, ew⟩ := SlV.len hw.1
  unfold c3_10 c3_10b
  subst ew
  have xx : Ext H2 h3 := ⟨by omega, fun q hq => (k5 q hq).trans ((x3.trans x4).get q hq)⟩
  have kk := k v3 h3 (by simpa [Ent.c] using sR) xx k6
  simp -implicitDefEqProofs [ea, ea3, hg4, hP4, hP, hnN, hnN1, wD_move, wD_keep, SOp.still, SOp.quiet, SOp.float, putD, Rec.same, sop, Rec.apart]
  exact kk

/-- append(append([]Entry{}, w[:k]...), w[k+1:]...) -/
theorem grow_drop {v0 v1 v2 v7 v83 v9 v11 : Value} {a : Nat} {w : Value} {es : List Ent} {H2 : AH} {R : SExit → Fr → AH → Prop}
    (hw : SlR 3 H2 es.length (es.flatMap Ent.c) w) (ha : a < es.length) (hn : es.length ≤ 24) (hs : ∀ b o sp n c, w = .slice (some ⟨b, o, sp⟩) n c → (sp = none ∨ sp = some 3) ∧ n ≤ c)
    (k : ∀ w' h', SlR 3 h' (es.eraseIdx a).length ((es.eraseIdx a).flatMap Ent.c) w' → Ext H2 h' → Slk H2.next 3 w' → R .normal [(0, v0), (1, v1), (2, v2), (7, v7), (8, w'), (9, v9), (11, v11)] h') :
    W G (.dreg [0, 1, 2, 7, 8, 9, 11] c3_14 c3_14b) [(0, v0), (1, v1), (2, v2), (7, v7), (8, w), (9, v9), (11, v11), (12, .int .i64 a), (83, v83)] H2 R := by
  have x3 : Ext H2 (H2.alloc (.cells [] false false)) := (Ext.refl H2).alloc _
  rcases hw.1.2 with ⟨h0, _⟩ | ⟨b, o, sp, c, c0, gg, ro, rfl, hb, hgb, hlc, hcs⟩
  · omega
  obtain ⟨hsp, hnc⟩ := hs b o sp _ c rfl
  have hl0 := hw.1.1
  have h3 := hw.ext x3
  have hgb3 := (x3.get b hb).trans hgb
  have r1 : SlR 3 (H2.alloc (.cells [] false false)) a ((es.take a).flatMap Ent.c) (.slice (some ⟨b, o, sp⟩) a c) := by
    refine ⟨⟨by rw [fm_length Ent.c_length]; simp; omega, .inr ⟨b, o, sp, c, c0, gg, ro, rfl, by simp; omega, hgb3, by omega, ?_⟩⟩, .inr (.inr ⟨b, o, sp, c, c0, gg, ro, rfl, by simp; omega, hgb3, by omega⟩)⟩
    rw [← fm_take Ent.c_length, ← hcs, List.take_take, Nat.min_eq_left (by omega)]
  obtain ⟨v', h', ea, sT, x4, k4⟩ := append_lit (bytes := 24) (b := H2.next) (c := []) (g := false) (ro := false) (lo := H2.next) (by simp) (Nat.le_refl _) (by simp) r1 (by omega) (by simp)
  have hgb4 := (x4.get b (by simp; omega)).trans hgb3
  have nx4 : H2.next + 1 ≤ h'.next := x4.next
  have r2 : ∀ sp', SlR 3 h' (es.length - (a + 1)) ((es.drop (a + 1)).flatMap Ent.c) (.slice (some ⟨b, o + (a + 1) * 3, sp'⟩) (es.length - (a + 1)) (c - (a + 1))) := fun sp' => by
    refine ⟨⟨by rw [fm_length Ent.c_length]; simp, .inr ⟨b, o + (a + 1) * 3, sp', _, c0, gg, ro, rfl, by omega, hgb4, by omega, ?_⟩⟩, .inr (.inr ⟨b, _, sp', _, c0, gg, ro, rfl, by omega, hgb4, by omega⟩)⟩
    rw [← fm_drop Ent.c_length, ← hcs, List.drop_take, List.drop_drop]
    congr 1
    omega
  have f1 : (a : Int) ≤ es.length := by omega
  have f2 : (a : Int) ≤ c := by omega
  have f3 : (a : Int) + 1 ≤ es.length := by omega
  have f4 : (0 : Int) ≤ (a : Int) + 1 := by omega
  have f5 : ((a : Int) + 1).toNat = a + 1 := by omega
  have f6 : (es.length : Int) ≤ c := by omega
  have f7 : a ≤ c := by omega
  have hwi : IntKind.i64.wrap ((a : Int) + 1) = (a : Int) + 1 := wrap64 (by omega)
  have xx : ∀ h3, h'.next ≤ h3.next → (∀ x, x < H2.next → h3.get x = h'.get x) → Ext H2 h3 := fun h3 x5 k5 => ⟨by omega, fun q hq => (k5 q hq).trans ((x3.trans x4).get q hq)⟩
  have le : (es.eraseIdx a).length = a + (es.length - (a + 1)) := by rw [List.length_eraseIdx, if_pos ha]; omega
  have fe : (es.eraseIdx a).flatMap Ent.c = (es.take a).flatMap Ent.c ++ (es.drop (a + 1)).flatMap Ent.c := by rw [List.eraseIdx_eq_take_drop_succ, List.flatMap_append]
  rcases hsp with rfl | rfl
  · by_cases hc : c = a + 1
    · subst hc
      have hl : es.length = a + 1 := by omega
      have f8 : (a : Int) ≤ (a : Int) + 1 := by omega
      have r3 : SlR 3 h' (es.length - (a + 1)) ((es.drop (a + 1)).flatMap Ent.c) (.slice (some ⟨b, o, none⟩) 0 0) := by
        have e0 : es.length - (a + 1) = 0 := by omega
        rw [e0, List.drop_of_length_le (by omega)]
        exact ⟨⟨rfl, .inl ⟨rfl, _, _, rfl⟩⟩, .inr (.inr ⟨b, o, none, _, c0, gg, ro, rfl, by omega, hgb4, by omega⟩)⟩
      obtain ⟨v3, h3, ea3, sR, x5, k5, k6⟩ := sT.append (bytes := 24) r3 (by omega) (by omega)
      have kk := k v3 h3 (by rw [le, fe]; exact sR) (xx h3 x5 k5) k6
      unfold c3_14 c3_14b
      simp -implicitDefEqProofs [hl, f8, ea, ea3, f1, f2, f3, f4, f5, f6, f7, hwi, sslice, addrAdd, sbounds_l, sbounds_h, wD_move, wD_keep, SOp.still, SOp.quiet, SOp.float, putD, Rec.same, sop, Rec.apart]
      exact kk
    · have hc1 : ¬ a + 1 = c := by omega
      have hc2 : ¬ c = a + 1 := hc
      obtain ⟨v3, h3, ea3, sR, x5, k5, k6⟩ := sT.append (bytes := 24) (r2 none) (by omega) (by omega)
      have kk := k v3 h3 (by rw [le, fe]; exact sR) (xx h3 x5 k5) k6
      unfold c3_14 c3_14b
      simp -implicitDefEqProofs [hc, hc1, ea, ea3, f1, f2, f3, f4, f5, f6, f7, hwi, sslice, addrAdd, sbounds_l, sbounds_h, wD_move, wD_keep, SOp.still, SOp.quiet, SOp.float, putD, Rec.same, sop, Rec.apart]
      exact kk
  · obtain ⟨v3, h3, ea3, sR, x5, k5, k6⟩ := sT.append (bytes := 24) (r2 (some 3)) (by omega) (by omega)
    have kk := k v3 h3 (by rw [le, fe]; exact sR) (xx h3 x5 k5) k6
    unfold c3_14 c3_14b
    simp -implicitDefEqProofs [ea, ea3, f1, f2, f3, f4, f5, f6, f7, hwi, sslice, addrAdd, sbounds_l, sbounds_h, wD_move, wD_keep, SOp.still, SOp.quiet, SOp.float, putD, Rec.same, sop, Rec.apart]
    exact kk

theorem plays_end (g : BufL G) {m loc : Int} {l : List OpT} {lv : Value} {B : Nat} {es : List Ent} {w : Value} {i : Nat} {t : Value} {hh : AH} (M : MemP m l lv B es w hh) :
    W G (.seq (.reg [6] c3_25) .ret) [(0, .int .i64 m), (1, lv), (2, .int .i64 loc), (7, .pointer (some ⟨B, 0, none⟩)), (8, w), (9, .int .i64 i), (23, t)] hh (retK [.tmp 6] fun v _ => v = .bool true) := by
  unfold c3_25
  have L := fun m => bufC_length (m := m) M.le
  have eb := M.b
  obtain ⟨a, c, ew⟩ := SlV.len M.ws.1
  simp -implicitDefEqProofs [eb, L, List.take_of_length_le]
  refine same_spec g (m := m) (c := loc) M.mo M.le M.ws.1 fun h3 x3 => ?_
  have M3 := M.ext x3
  have eb3 := M3.b
  simp -implicitDefEqProofs [eb3, L, List.take_of_length_le]
  refine Len_spec g.toBufG (m := newM m) (es := es) fun h4 x4 => ?_
  have M4 := M3.ext x4
  have eb4 := M4.b
  subst ew
  simp -implicitDefEqProofs [eb4, L, List.take_of_length_le]
  refine Empty_spec g.toBufG (m := newM m) (es := es) fun h5 x5 => ?_
  simp -implicitDefEqProofs
  exact awake_spec g fun h7 y7 => by simp -implicitDefEqProofs

theorem Ops.row {l : List OpT} {v : Value} (s : Ops h l v) {i : Nat} (hi : i < l.length) : ∃ b o sp c c0 g ro, v = .slice (some ⟨b, o, sp⟩) l.length c ∧ b < h.next ∧ h.get b = .cells c0 g ro ∧ o + i * 3 + 3 ≤ c0.length ∧ (c0.drop (o + i * 3)).take 3 = l[i].c := by
  obtain ⟨b, o, sp, c, c0, g, ro, e1, e2, e3, e4, e5, e6⟩ := SlV.cells s hi
  refine ⟨b, o, sp, c, c0, g, ro, e1, e2, e3, e5, ?_⟩
  rw [e6, fm_drop OpT.c_length, List.drop_eq_getElem_cons hi, List.flatMap_cons, List.take_append_of_le_length (by rw [OpT.c_length]; omega), List.take_of_length_le (by rw [OpT.c_length]; omega)]

/-- the frame where 'was' is looked at -/
def Form3 (m loc : Int) (lv : Value) (B : Nat) (w : Value) (i P : Nat) (F : Fr) : Prop :=
  F = [(0, .int .i64 m), (1, lv), (2, .int .i64 loc), (7, .pointer (some ⟨B, 0, none⟩)), (8, w), (9, .int .i64 i), (11, .pointer (some ⟨P + 1, 0, none⟩))] ∨
  (∃ a b', F = [(0, .int .i64 m), (1, lv), (2, .int .i64 loc), (7, .pointer (some ⟨B, 0, none⟩)), (8, w), (9, .int .i64 i), (10, a), (11, .pointer (some ⟨P + 1, 0, none⟩)), (61, b')]) ∨
  (∃ a b', F = [(0, .int .i64 m), (1, lv), (2, .int .i64 loc), (7, .pointer (some ⟨B, 0, none⟩)), (8, w), (9, .int .i64 i), (11, .pointer (some ⟨P + 1, 0, none⟩)), (12, a), (83, b')])

theorem plays_put (g : BufL G) {m loc x v kd : Int} {l : List OpT} {lv : Value} {B i P : Nat} {es : List Ent} {w t33 : Value} {H : AH} {R : SExit → Fr → AH → Prop}
    (MH : MemP m l lv B es w H) (hP : H.get P = .cells [.int .i64 kd, .int .i64 x, .int .i64 v] false false) (hQ : H.get (P + 1) = .cells (bufC (newM m) es) false false) (hPn : P + 1 < H.next) (hPB : ¬ P = B) (hQB : ¬ P + 1 = B) (hi : i < 60)
    (K : ∀ w' H' F, MemP m l lv B (addS (newM m) es x v i) w' H' → H'.get (P + 1) = .cells (bufC (newM m) es) false false → P + 1 < H'.next → Form3 m loc lv B w' i P F → R .normal F H') :
    W G (.seq (.reg [0, 1, 2, 7, 8, 9, 10, 11] c3_8) (.seq (.reg [0, 1, 2, 7, 8, 9, 10, 11, 61] c3_9) (.cond (.tmp 61) (.dreg [0, 1, 2, 7, 8, 9, 11] c3_10 c3_10b) .skip)))
      [(0, .int .i64 m), (1, lv), (2, .int .i64 loc), (7, .pointer (some ⟨B, 0, none⟩)), (8, w), (9, .int .i64 i), (10, .pointer (some ⟨P, 0, none⟩)), (11, .pointer (some ⟨P + 1, 0, none⟩)), (33, t33)] H R := by
  unfold c3_8 c3_9
  have L := fun m => bufC_length (m := m) MH.le
  have eH := MH.b
  have le1 : (addS (newM m) es x v i).length ≤ 24 := addS_le MH.le
  have mo1 : newM m = m ∨ addS (newM m) es x v i = [] := stepS_mo (o := ⟨0, x, v⟩) (i := i) MH.mo
  simp -implicitDefEqProofs [eH, hP, L, List.take_of_length_le]
  refine Put_spec g.toBufG MH.le fun h1 x1 => ?_
  have Q := MH.store x1 le1 mo1
  have e1 := (MH.ext x1).b
  have hP1 := (x1.get P (by omega)).trans hP
  have hQ1 := (x1.get (P + 1) hPn).trans hQ
  have nx1 := x1.next
  have L1 := fun m => bufC_length (m := m) le1
  have es1 := addS_law (m := m) (loc := x) (v := v) (id := i) (es := es)
  generalize addS (newM m) es x v i = E at *
  obtain ⟨aw, cw, ew⟩ := SlV.len MH.ws.1
  have Qws := Q.ws
  have nxQ : (h1.put B (.cells (bufC (newM m) E) false false)).next = h1.next := by simp
  have eP2 : (h1.put B (.cells (bufC (newM m) E) false false)).get P = .cells [.int .i64 kd, .int .i64 x, .int .i64 v] false false := by rw [AH.put_get, if_neg hPB, hP1]
  have eQ2 : (h1.put B (.cells (bufC (newM m) E) false false)).get (P + 1) = .cells (bufC (newM m) es) false false := by rw [AH.put_get, if_neg hQB, hQ1]
  subst ew
  by_cases hc : (m = 2 ∨ m = 3) ∧ 0 ≤ x ∧ x ≤ 3 ∧ es.length < 24
  · rw [if_pos hc] at es1
    obtain ⟨hm, hl0, hl3, hn⟩ := hc
    have hn' : (es.length : Int) < 24 := by omega
    rcases hm with rfl | rfl
    all_goals
      simp -implicitDefEqProofs [-W_dreg, hPB, bufV, e1, hP1, hl0, hl3, hn', splice_all, L, L1, List.take_of_length_le]
      generalize (h1.put B (.cells (bufC (newM _) E) false false)) = H2 at *
      refine grow_put eP2 (by omega) Qws hn fun w' h' r x k => ?_
      subst es1
      exact K w' h' _ (Q.grow x r k) ((x.get _ (by omega)).trans eQ2) (by have := x.next; omega) (.inl rfl)
  · rw [if_neg hc] at es1
    have fin : ∀ F, (∃ a b', F = [(0, .int .i64 m), (1, lv), (2, .int .i64 loc), (7, .pointer (some ⟨B, 0, none⟩)), (8, .slice aw es.length cw), (9, .int .i64 i), (10, a), (11, .pointer (some ⟨P + 1, 0, none⟩)), (61, b')]) → R .normal F (h1.put B (.cells (bufC (newM m) E) false false)) := fun F hF => by
      subst es1
      exact K _ _ F Q.same eQ2 (by rw [nxQ]; omega) (.inr (.inl hF))
    by_cases hm : m = 2 ∨ m = 3
    · by_cases hl0 : 0 ≤ x
      · by_cases hl3 : x ≤ 3
        · have hn : ¬ (es.length : Int) < 24 := fun e => hc ⟨hm, hl0, hl3, by omega⟩
          rcases hm with rfl | rfl <;>
          · simp -implicitDefEqProofs [hPB, bufV, e1, hP1, hl0, hl3, hn, splice_all, L, L1, List.take_of_length_le]
            exact fin _ ⟨_, _, rfl⟩
        · rcases hm with rfl | rfl <;>
          · simp -implicitDefEqProofs [hPB, bufV, e1, hP1, hl0, hl3, splice_all, L, L1, List.take_of_length_le]
            exact fin _ ⟨_, _, rfl⟩
      · rcases hm with rfl | rfl <;>
        · simp -implicitDefEqProofs [hPB, bufV, e1, hP1, hl0, splice_all, L, L1, List.take_of_length_le]
          exact fin _ ⟨_, _, rfl⟩
    · have hm2 : ¬ m = 2 := fun e => hm (.inl e)
      have hm3 : ¬ m = 3 := fun e => hm (.inr e)
      simp -implicitDefEqProofs [hPB, bufV, e1, hP1, hm2, hm3, splice_all, L, L1, List.take_of_length_le]
      exact fin _ ⟨_, _, rfl⟩

theorem plays_drop (g : BufL G) {m loc x v kd : Int} {l : List OpT} {lv : Value} {B i P : Nat} {es : List Ent} {w t33 : Value} {H : AH} {R : SExit → Fr → AH → Prop}
    (MH : MemP m l lv B es w H) (hP : H.get P = .cells [.int .i64 kd, .int .i64 x, .int .i64 v] false false) (hQ : H.get (P + 1) = .cells (bufC (newM m) es) false false) (hPn : P + 1 < H.next) (hPB : ¬ P = B) (hQB : ¬ P + 1 = B) (hi : i < 60)
    (K : ∀ w' H' F, MemP m l lv B (dropS (newM m) x es) w' H' → H'.get (P + 1) = .cells (bufC (newM m) es) false false → P + 1 < H'.next → Form3 m loc lv B w' i P F → R .normal F H') :
    W G (.seq (.reg [0, 1, 2, 7, 8, 9, 10, 11] c3_11) (.seq (.reg [0, 1, 2, 7, 8, 9, 11, 12] c3_12) (.seq (.reg [0, 1, 2, 7, 8, 9, 11, 12, 83] c3_13) (.cond (.tmp 83) (.dreg [0, 1, 2, 7, 8, 9, 11] c3_14 c3_14b) .skip))))
      [(0, .int .i64 m), (1, lv), (2, .int .i64 loc), (7, .pointer (some ⟨B, 0, none⟩)), (8, w), (9, .int .i64 i), (10, .pointer (some ⟨P, 0, none⟩)), (11, .pointer (some ⟨P + 1, 0, none⟩)), (33, t33)] H R := by
  unfold c3_11 c3_12 c3_13
  have L := fun m => bufC_length (m := m) MH.le
  have eH := MH.b
  have le1 : (dropS (newM m) x es).length ≤ 24 := dropS_le MH.le
  have mo1 : newM m = m ∨ dropS (newM m) x es = [] := stepS_mo (o := ⟨1, x, v⟩) (i := i) MH.mo
  have hle := MH.le
  simp -implicitDefEqProofs [eH, hP, L, List.take_of_length_le]
  refine Drop_spec g.toBufG MH.le fun h1 x1 => ?_
  have Q := MH.store x1 le1 mo1
  have e1 := (MH.ext x1).b
  have hP1 := (x1.get P (by omega)).trans hP
  have hQ1 := (x1.get (P + 1) hPn).trans hQ
  have nx1 := x1.next
  have L1 := fun m => bufC_length (m := m) le1
  have es1 : dropS (newM m) x es = match oldN m x es with | some i => es.eraseIdx i | none => es := by rw [dropS, oldN_M MH.mo]; cases oldN m x es <;> rfl
  generalize dropS (newM m) x es = E at *
  have Qws := Q.ws
  have nxQ : (h1.put B (.cells (bufC (newM m) E) false false)).next = h1.next := by simp
  have eP2 : (h1.put B (.cells (bufC (newM m) E) false false)).get P = .cells [.int .i64 kd, .int .i64 x, .int .i64 v] false false := by rw [AH.put_get, if_neg hPB, hP1]
  have eQ2 : (h1.put B (.cells (bufC (newM m) E) false false)).get (P + 1) = .cells (bufC (newM m) es) false false := by rw [AH.put_get, if_neg hQB, hQ1]
  simp -implicitDefEqProofs [hPB, bufV, e1, hP1, splice_all, L, L1, List.take_of_length_le]
  generalize (h1.put B (.cells (bufC (newM _) E) false false)) = H2 at *
  refine first_spec g Qws.1 (by omega) ?_
  cases ho : oldN m x es with
  | none =>
    rw [ho] at es1
    subst es1
    simp -implicitDefEqProofs [optI]
    exact K _ _ _ Q.same eQ2 (by omega) (.inr (.inr ⟨_, _, rfl⟩))
  | some a =>
    obtain ⟨ha, _⟩ := oldN_some ho
    rw [ho] at es1
    simp -implicitDefEqProofs [-W_dreg, optI]
    refine grow_drop Qws ha hle (fun b o sp n c e => (Q.wb b o sp n c e).2) fun w' h' r x k => ?_
    subst es1
    exact K w' h' _ (Q.grow x r k) ((x.get _ (by omega)).trans eQ2) (by have := x.next; omega) (.inl rfl)

theorem plays_round (g : BufL G) {m loc : Int} {l : List OpT} {lv : Value} {k : Nat} {F : Fr} {hh : AH} {R : SExit → Fr → AH → Prop} (I : inv3 m loc l lv k F hh)
    (K : ∀ hh' B es w (i : Nat) t, MemP m l lv B es w hh' → R (.exit 0) [(0, .int .i64 m), (1, lv), (2, .int .i64 loc), (7, .pointer (some ⟨B, 0, none⟩)), (8, w), (9, .int .i64 i), (23, t)] hh') :
    W G c3_24 (F.keep [0, 1, 2, 7, 8, 9]) hh (loopK (fun F1 h1 => ∃ n, n < k ∧ inv3 m loc l lv n F1 h1) R) := by
  obtain ⟨i, B, es, w, rfl, hi, hi60, M, rfl⟩ := I
  unfold c3_24 c3_4 c3_5 c3_6 c3_7
  have L := fun m => bufC_length (m := m) M.le
  have eb := M.b
  have nx := M.nx
  obtain ⟨al, cl, el⟩ := SlV.len M.ops
  by_cases h0 : i < l.length ∧ i < 60
  · have h1 : (i : Int) < l.length := by omega
    have h2 : (i : Int) < 60 := by omega
    obtain ⟨b, o, sp, c, c0, gg, ro, rfl, hb, hgb, ld0, ld1⟩ := Ops.row M.ops h0.1
    have hbB := M.low b o sp c rfl
    have hBn : B ≠ hh.next := by omega
    simp -implicitDefEqProofs [h0.1, h1, h2, eb, hgb, ld0, ld1, OpT.c, hBn, L, splice_all, List.take_of_length_le]
    have hb0 : b ≠ hh.next := by omega
    have hb1 : b ≠ hh.next + 1 := by omega
    have hB1 : B ≠ hh.next + 1 := by omega
    have xH : Ext hh ((((hh.alloc (.cells [.int .i64 0, .int .i64 0, .int .i64 0] false false)).put hh.next (.cells [.int .i64 l[i].kind, .int .i64 l[i].loc, .int .i64 l[i].v] false false)).alloc (.cells (zi 74) false false)).put (hh.next + 1) (.cells (bufC (newM m) es) false false)) :=
      ((((Ext.refl hh).alloc _).put (Nat.le_refl _) _).alloc _).put (Nat.le_succ _) _
    have hP : ((((hh.alloc (.cells [.int .i64 0, .int .i64 0, .int .i64 0] false false)).put hh.next (.cells [.int .i64 l[i].kind, .int .i64 l[i].loc, .int .i64 l[i].v] false false)).alloc (.cells (zi 74) false false)).put (hh.next + 1) (.cells (bufC (newM m) es) false false)).get hh.next = .cells [.int .i64 l[i].kind, .int .i64 l[i].loc, .int .i64 l[i].v] false false := by simp
    have hQ : ((((hh.alloc (.cells [.int .i64 0, .int .i64 0, .int .i64 0] false false)).put hh.next (.cells [.int .i64 l[i].kind, .int .i64 l[i].loc, .int .i64 l[i].v] false false)).alloc (.cells (zi 74) false false)).put (hh.next + 1) (.cells (bufC (newM m) es) false false)).get (hh.next + 1) = .cells (bufC (newM m) es) false false := by simp
    have hN : ((((hh.alloc (.cells [.int .i64 0, .int .i64 0, .int .i64 0] false false)).put hh.next (.cells [.int .i64 l[i].kind, .int .i64 l[i].loc, .int .i64 l[i].v] false false)).alloc (.cells (zi 74) false false)).put (hh.next + 1) (.cells (bufC (newM m) es) false false)).next = hh.next + 2 := by simp
    generalize ((((hh.alloc (.cells [.int .i64 0, .int .i64 0, .int .i64 0] false false)).put hh.next (.cells [.int .i64 l[i].kind, .int .i64 l[i].loc, .int .i64 l[i].v] false false)).alloc (.cells (zi 74) false false)).put (hh.next + 1) (.cells (bufC (newM m) es) false false)) = H at *
    have MH := M.ext xH
    have rest : ∀ (es' : List Ent) (w' : Value) (H' : AH) (t103 : Value), MemP m l (.slice (some ⟨b, o, sp⟩) l.length c) B es' w' H' →
        W G (.seq (.reg [0, 1, 2, 7, 8, 9, 13] c3_17) (.block 2 (.loop [0, 1, 2, 7, 8, 9, 13] c3_22))) [(0, .int .i64 m), (1, .slice (some ⟨b, o, sp⟩) l.length c), (2, .int .i64 loc), (7, .pointer (some ⟨B, 0, none⟩)), (8, w'), (9, .int .i64 i), (103, t103)] H'
          (blockK 1 (thenK (W G (SCode.reg [0, 1, 2, 7, 8, 9] c3_23)) (loopK (fun F1 h1 => ∃ n, n < l.length - i ∧ inv3 m loc l (.slice (some ⟨b, o, sp⟩) l.length c) n F1 h1) R))) := by
      intro es' w' H' t103 M'
      unfold c3_17
      simp -implicitDefEqProofs
      refine W_loop (inv3b m loc l (.slice (some ⟨b, o, sp⟩) l.length c) B es' w' i) 6 ⟨0, by omega, by omega, M', rfl⟩ ?_
      intro k F hh I
      refine plays_b g I fun hh' t M3 => ?_
      unfold c3_23
      have hwi : IntKind.i64.wrap ((i : Int) + 1) = (i : Int) + 1 := wrap64 (by omega)
      simp -implicitDefEqProofs [hwi]
      exact ⟨l.length - (i + 1), by omega, i + 1, B, es', w', rfl, h0.1, by omega, M3, by simp⟩
    have eH := MH.b
    have after : ∀ (es' : List Ent) (w' : Value) (H' : AH) (F : Fr), MemP m l (.slice (some ⟨b, o, sp⟩) l.length c) B es' w' H' → H'.get (hh.next + 1) = .cells (bufC (newM m) es) false false → hh.next + 1 < H'.next →
        Form3 m loc (.slice (some ⟨b, o, sp⟩) l.length c) B w' i hh.next F →
        W G (.seq (.seq (.reg [0, 1, 2, 7, 8, 9, 103] c3_15) (.cond (.tmp 103) (.seq (.reg [6] c3_16) .ret) .skip)) (.seq (.reg [0, 1, 2, 7, 8, 9, 13] c3_17) (.block 2 (.loop [0, 1, 2, 7, 8, 9, 13] c3_22)))) F H'
          (blockK 1 (thenK (W G (SCode.reg [0, 1, 2, 7, 8, 9] c3_23)) (loopK (fun F1 h1 => ∃ n, n < l.length - i ∧ inv3 m loc l (.slice (some ⟨b, o, sp⟩) l.length c) n F1 h1) R))) := by
      intro es' w' H' F M' hQ' hn' hF
      unfold c3_15
      have L' := fun m => bufC_length (m := m) M'.le
      obtain ⟨aw, cw, ew⟩ := SlV.len M'.ws.1
      have ce := cellsEq_buf (m := newM m) (m' := newM m) M'.le M.le
      rcases hF with rfl | ⟨a, b', rfl⟩ | ⟨a, b', rfl⟩
      all_goals
        simp -implicitDefEqProofs [hQ', L, L', List.take_of_length_le]
        refine Len_spec g.toBufG (m := newM m) (es := es) fun h4 x4 => ?_
        have M4 := M'.ext x4
        have e4 := M4.b
        have hQ4 := (x4.get _ hn').trans hQ'
        by_cases hl : es.length = es'.length
        · subst ew
          simp -implicitDefEqProofs [e4, hQ4, hl, L, L', List.take_of_length_le]
          exact rest es' _ h4 _ M4
        · have hl' : ¬ es' = es := fun e => hl (by rw [e])
          have hl2 : ¬ (es.length : Int) = es'.length := by omega
          rw [show decide (newM m = newM m ∧ es' = es) = false by simp [hl']] at ce
          subst ew
          simp -implicitDefEqProofs [e4, hQ4, hl2, ce, L, L', List.take_of_length_le]
          exact rest es' _ h4 _ M4
    by_cases hk : l[i].kind = 0
    · simp -implicitDefEqProofs [hk, hP]
      exact plays_put g MH hP hQ (by omega) (fun e => hBn e.symm) (fun e => hB1 e.symm) h0.2 fun w' H' F M' q n f => after _ w' H' F M' q n f
    · simp -implicitDefEqProofs [hk, hP]
      exact plays_drop g MH hP hQ (by omega) (fun e => hBn e.symm) (fun e => hB1 e.symm) h0.2 fun w' H' F M' q n f => after _ w' H' F M' q n f
  · subst el
    by_cases h1 : i < l.length
    · have h2 : ¬ (i : Int) < 60 := by omega
      simp -implicitDefEqProofs [h1, h2]
      exact K hh B es w i _ M
    · simp -implicitDefEqProofs [h1]
      exact K hh B es w i _ M
end Go.Jq
