/- Rows that are read and cut; rows that are joined anew. -/
import Derived.Test.YtghlejnndjioiaaGreatQ
import Derived.Test.YtghlejnndjioiaaGreatH
import Derived.Test.YtghlejnndjioiaaGreatC
set_option linter.unusedSimpArgs false
set_option linter.unusedVariables false
namespace Go.Jq
variable {k n m bytes lo : Nat} {h h1 : AH} {cs ec : List Value} {v y : Value}
def blkOf : Value → Option Nat
  | .slice (some a) _ _ => some a.block
  | _ => none
def SlX (k : Nat) (h : AH) (n : Nat) (cs : List Value) (v : Value) : Prop :=
  cs.length = n * k ∧ ((n = 0 ∧ v = .slice none 0 0) ∨ ∃ b o sp c c0 g ro, v = .slice (some ⟨b, o, sp⟩) n c ∧ (sp = none ∨ sp = some k) ∧ n ≤ c ∧ b < h.next ∧ h.get b = .cells c0 g ro ∧ o + n * k ≤ c0.length ∧ (c0.drop o).take (n * k) = cs)
theorem SlX.nil : SlX k h 0 [] (.slice none 0 0) := ⟨by simp, .inl ⟨rfl, rfl⟩⟩
theorem SlX.view (s : SlX k h n cs v) : SlV k h n cs v := by
  obtain ⟨s1, s2⟩ := s
  refine ⟨s1, ?_⟩
  rcases s2 with ⟨rfl, rfl⟩ | ⟨b, o, sp, c, c0, g, ro, e1, _, _, e2, e3, e4, e5⟩
  · exact .inl ⟨rfl, _, _, rfl⟩
  · exact .inr ⟨b, o, sp, c, c0, g, ro, e1, e2, e3, e4, e5⟩
theorem SlX.same (s : SlX k h n cs v) (hn : h.next ≤ h1.next) (hg : ∀ b, blkOf v = some b → h1.get b = h.get b) : SlX k h1 n cs v := by
  obtain ⟨s1, s2⟩ := s
  refine ⟨s1, ?_⟩
  rcases s2 with s2 | ⟨b, o, sp, c, c0, g, ro, rfl, e6, e7, e2, e3, e4, e5⟩
  · exact .inl s2
  · exact .inr ⟨b, o, sp, c, c0, g, ro, rfl, e6, e7, Nat.lt_of_lt_of_le e2 hn, by rw [hg b rfl]; exact e3, e4, e5⟩
theorem SlX.lt (s : SlX k h n cs v) {b : Nat} (hb : blkOf v = some b) : b < h.next := by
  rcases s.2 with ⟨rfl, rfl⟩ | ⟨b', o, sp, c, c0, g, ro, rfl, e6, e7, e2, e3, e4, e5⟩
  · simp [blkOf] at hb
  · simp [blkOf] at hb; omega
theorem SlX.ext (s : SlX k h n cs v) (x : Ext h h1) : SlX k h1 n cs v := s.same x.next fun b hb => x.get b (s.lt hb)
theorem SlX.len (s : SlX k h n cs v) : ∃ a c, v = .slice a n c := s.view.len
theorem SlG.x {lo : Nat} (s : SlG k h lo n cs v) : SlX k h n cs v := by
  obtain ⟨s1, s2⟩ := s
  refine ⟨s1, ?_⟩
  rcases s2 with ⟨rfl, rfl⟩ | ⟨b, h1, h2, h3, rfl⟩
  · exact .inl ⟨rfl, rfl⟩
  · exact .inr ⟨b, 0, some k, _, cs, true, false, rfl, .inr rfl, Nat.le_refl _, h2, h3, by omega, by simp [← s1]⟩
theorem SlG.lo' {lo : Nat} (s : SlG k h lo n cs v) {b : Nat} (hb : blkOf v = some b) : lo ≤ b ∧ b < h.next := by
  rcases s.2 with ⟨_, rfl⟩ | ⟨b', h1, h2, h3, rfl⟩
  · simp [blkOf] at hb
  · simp [blkOf] at hb; omega
theorem SlX.take {a : Option Addr} {c i : Nat} (s : SlX k h n cs (.slice a n c)) (hn : 0 < n) (hi : i ≤ n) : ∃ v', sslice k a n c none (some (.int .i64 i)) none = some v' ∧ SlX k h i (cs.take (i * k)) v' ∧ blkOf v' = blkOf (.slice a n c) := by
  obtain ⟨s1, s2⟩ := s
  rcases s2 with ⟨h0, _⟩ | ⟨b, o, sp, c', c0, g, ro, e, esp, e7, e2, e3, e4, e5⟩
  · omega
  · simp only [Value.slice.injEq, true_and] at e
    obtain ⟨rfl, rfl⟩ := e
    have hle : i * k ≤ n * k := Nat.mul_le_mul_right k hi
    have fin : ∀ c2, i ≤ c2 → SlX k h i (cs.take (i * k)) (.slice (some ⟨b, o, sp⟩) i c2) := fun c2 h2 => ⟨by rw [List.length_take, s1]; omega, .inr ⟨b, o, sp, c2, c0, g, ro, rfl, esp, h2, e2, e3, by omega, by rw [← e5, List.take_take, Nat.min_eq_left hle]⟩⟩
    unfold sslice
    rw [sbounds_h, if_pos (by omega)]
    simp only [Int.toNat_natCast, Nat.sub_zero]
    rcases esp with rfl | rfl
    · refine ⟨_, rfl, ?_, ?_⟩
      · simp only [addrAdd, Nat.zero_mul, Nat.add_zero, ite_self]
        exact fin _ (by omega)
      · simp [addrAdd, blkOf]
    · simp only [if_true, Option.isSome_none, Bool.false_eq_true, false_and, if_false]
      refine ⟨_, rfl, ?_, ?_⟩
      · simp only [addrAdd, Nat.zero_mul, Nat.add_zero]
        exact fin _ (by omega)
      · simp [addrAdd, blkOf]
theorem SlX.drop {a : Option Addr} {c i : Nat} (s : SlX k h n cs (.slice a n c)) (hn : 0 < n) (hi : i ≤ n) : ∃ v', sslice k a n c (some (.int .i64 i)) none none = some v' ∧ SlX k h (n - i) (cs.drop (i * k)) v' ∧ blkOf v' = blkOf (.slice a n c) := by
  obtain ⟨s1, s2⟩ := s
  rcases s2 with ⟨h0, _⟩ | ⟨b, o, sp, c', c0, g, ro, e, esp, e7, e2, e3, e4, e5⟩
  · omega
  · simp only [Value.slice.injEq, true_and] at e
    obtain ⟨rfl, rfl⟩ := e
    have hle : i * k ≤ n * k := Nat.mul_le_mul_right k hi
    have hs : (n - i) * k = n * k - i * k := Nat.sub_mul n i k
    have fin : ∀ sp, (sp = none ∨ sp = some k) → SlX k h (n - i) (cs.drop (i * k)) (.slice (some ⟨b, o + i * k, sp⟩) (n - i) (c - i)) := fun sp h2 => ⟨by rw [List.length_drop, s1, hs], .inr ⟨b, o + i * k, sp, c - i, c0, g, ro, rfl, h2, by omega, e2, e3, by omega, by rw [← e5, List.drop_take, List.drop_drop, hs]⟩⟩
    unfold sslice
    rw [sbounds_l, if_pos (by omega)]
    simp only [Int.toNat_natCast]
    rcases esp with rfl | rfl
    · refine ⟨_, rfl, ?_, ?_⟩
      · by_cases hc : c = i
        · have hn' : n = i := by omega
          simp only [if_pos hc]
          subst hn'
          refine ⟨by rw [List.length_drop, s1, hs], .inr ⟨b, o, none, c - n, c0, g, ro, by simp, .inl rfl, by omega, e2, e3, by simp; omega, ?_⟩⟩
          simp
          omega
        · simp only [if_neg hc, addrAdd]
          exact fin _ (.inl rfl)
      · by_cases hc : c = i <;> simp [hc, addrAdd, blkOf]
    · simp only [if_true, Option.isSome_none, Bool.false_eq_true, false_and, if_false]
      refine ⟨_, rfl, ?_, ?_⟩
      · simp only [addrAdd]
        exact fin _ (.inr rfl)
      · simp [addrAdd, blkOf]
def Own (k : Nat) (h : AH) (lo n : Nat) (cs : List Value) (v : Value) : Prop :=
  cs.length = n * k ∧ ((n = 0 ∧ ∃ b c g ro, lo ≤ b ∧ b < h.next ∧ h.get b = .cells c g ro ∧ v = .slice (some ⟨b, 0, none⟩) 0 0) ∨ ∃ b, lo ≤ b ∧ b < h.next ∧ h.get b = .cells cs true false ∧ v = .slice (some ⟨b, 0, some k⟩) n n)
theorem Own.x (s : Own k h lo n cs v) : SlX k h n cs v := by
  obtain ⟨s1, s2⟩ := s
  refine ⟨s1, ?_⟩
  rcases s2 with ⟨rfl, b, c, g, ro, h1, h2, h3, rfl⟩ | ⟨b, h1, h2, h3, rfl⟩
  · exact .inr ⟨b, 0, none, 0, c, g, ro, rfl, .inl rfl, Nat.le_refl _, h2, h3, by omega, by simp at s1; simp [s1]⟩
  · exact .inr ⟨b, 0, some k, _, cs, true, false, rfl, .inr rfl, Nat.le_refl _, h2, h3, by omega, by simp [← s1]⟩
theorem Own.ge (s : Own k h lo n cs v) {b : Nat} (hb : blkOf v = some b) : lo ≤ b ∧ b < h.next := by
  rcases s.2 with ⟨_, b', c, g, ro, h1, h2, h3, rfl⟩ | ⟨b', h1, h2, h3, rfl⟩ <;> (simp [blkOf] at hb; omega)
theorem Own.append (s : Own k h lo n cs v) (t : SlX k h m ec y) (hb : (n + m) * bytes ≤ 70368744177664) (hlo : lo ≤ h.next) (hk : 0 < k) :
    ∃ v' h', sappend h k bytes v y = some (v', h') ∧ Own k h' lo (n + m) (cs ++ ec) v' ∧ h.next ≤ h'.next ∧ ∀ x, x < h.next → blkOf v ≠ some x → h'.get x = h.get x := by
  have hl : lenOf y = some m ∧ firstOf h k m y = some ec := by
    obtain ⟨t1, t2⟩ := t
    rcases t2 with ⟨rfl, rfl⟩ | ⟨b, o, sp, c, c0, g, ro, rfl, e6, e7, e2, e3, e4, e5⟩
    · simp at t1; subst t1; exact ⟨rfl, rfl⟩
    · refine ⟨rfl, ?_⟩
      show h.load b o (m * k) = some ec
      rw [load_of e3 e4, e5]
  obtain ⟨l1, l2⟩ := hl
  have tl := t.1
  have hgt : ¬ (n + m) * bytes > 70368744177664 := by omega
  obtain ⟨s1, s2⟩ := s
  by_cases hm : m = 0
  · have ec0 : ec = [] := List.eq_nil_of_length_eq_zero (by rw [tl, hm]; simp)
    refine ⟨v, h, ?_, by rw [hm, ec0, Nat.add_zero, List.append_nil]; exact ⟨s1, s2⟩, Nat.le_refl _, fun _ _ _ => rfl⟩
    rcases s2 with ⟨rfl, b, c, g, ro, h1, h2, h3, rfl⟩ | ⟨b, h1, h2, h3, rfl⟩
    · unfold sappend
      simp only [l1, l2]
      rw [if_neg hgt]
      simp [hm]
    · unfold sappend
      simp only [l1, l2]
      rw [if_neg hgt]
      simp [hm]
  · rcases s2 with ⟨rfl, b, c, g, ro, h1, h2, h3, rfl⟩ | ⟨b, h1, h2, h3, rfl⟩
    · have cs0 : cs = [] := List.eq_nil_of_length_eq_zero (by rw [s1]; simp)
      subst cs0
      refine ⟨.slice (some ⟨h.next, 0, some k⟩) (0 + m) (0 + m), h.alloc (.cells ([] ++ ec) true false), ?_, ⟨by simp [tl], .inr ⟨h.next, hlo, by simp, by simp, rfl⟩⟩, by simp, fun x hx _ => by simp; omega⟩
      unfold sappend
      simp only [l1, l2]
      rw [if_neg hgt, if_neg (by omega)]
      have hz : h.load b (0 : Nat) (0 * k) = some [] := by rw [Nat.zero_mul, load_of h3 (by omega)]; simp
      rw [hz, h3]
    · refine ⟨.slice (some ⟨h.next, 0, some k⟩) (n + m) (n + m), (h.put b .dead).alloc (.cells (cs ++ ec) true false), ?_, ⟨by simp [s1, tl, Nat.add_mul], .inr ⟨h.next, hlo, by simp, by simp, rfl⟩⟩, by simp, fun x hx hne => ?_⟩
      · unfold sappend
        simp only [l1, l2]
        rw [if_neg hgt, if_neg (by omega)]
        have hz : h.load b (0 : Nat) (n * k) = some cs := load_all h3 (by omega)
        rw [hz, h3]
        simp
      · have : x ≠ b := by rintro rfl; exact hne rfl
        simp [this]; omega
end Go.Jq
namespace Go.Jq
variable {G : Nat → SFunc} {h : AH} {R : Value → AH → Prop}
theorem AH.put_put {h : AH} {b : Nat} {x y : ABlk} : (h.put b x).put b y = h.put b y := by
  unfold AH.put
  congr 1
  funext i
  by_cases e : i = b <;> simp [e]
structure MacW (h : AH) (b : Nat) (v : Mac) (lv iv tv : Value) (m : Int) (bvs : List Value) (sv : Value) : Prop where
  at' : h.get b = .cells ((VM.mk v.mem v.by' v.lcl bvs sv).c lv iv tv m) false false
  hb : b < h.next
  len : bvs.length = 4
  rows : ∀ t (ht : t < 4) (hb : t < v.bufs.length) (hv : t < bvs.length), SlX 3 h (v.bufs[t]).length ((v.bufs[t]).flatMap Ent.c) (bvs[t])
  st : SlG 7 h (b + 1) v.steps.length (v.steps.flatMap Stp.c) sv
  rb : ∀ t (hv : t < bvs.length) y, blkOf bvs[t] = some y → b < y ∧ y < h.next ∧ blkOf sv ≠ some y
section
variable {b : Nat} {v : Mac} {lv iv tv sv : Value} {m : Int} {bvs : List Value}
theorem MacW.toV (V : MacW h b v lv iv tv m bvs sv) : MacV h b v lv iv tv m bvs sv := ⟨V.at', V.len, fun t ht hb hv => (V.rows t ht hb hv).view⟩
theorem MacW.ext {h1 : AH} (V : MacW h b v lv iv tv m bvs sv) (x : Ext h h1) : MacW h1 b v lv iv tv m bvs sv :=
  ⟨by rw [x.get b V.hb]; exact V.at', Nat.lt_of_lt_of_le V.hb x.next, V.len, fun t ht hb' hv => (V.rows t ht hb' hv).ext x, V.st.ext x, fun t hv y hy => by
    have := V.rb t hv y hy
    exact ⟨this.1, Nat.lt_of_lt_of_le this.2.1 x.next, this.2.2⟩⟩
end
structure Aside (h h1 : AH) (b : Nat) (sv : Value) : Prop where
  next : h.next ≤ h1.next
  get : ∀ y, y < h.next → y ≠ b → blkOf sv ≠ some y → h1.get y = h.get y
theorem Aside.below {h h1 h0 : AH} {b : Nat} {sv : Value} (x : Ext h0 h) (hb : h0.next ≤ b) (hs : ∀ y, blkOf sv = some y → b < y) (a : Aside h h1 b sv) : Ext h0 h1 :=
  ⟨Nat.le_trans x.next a.next, fun y hy => by
    have := x.next
    rw [a.get y (by omega) (by omega) (fun e => by have := hs y e; omega), x.get y hy]⟩
theorem SlG.app4 {k bytes : Nat} {hh : AH} {lo n : Nat} {cs ec : List Value} {v : Value} {K : Value → AH → Prop} (s : SlG k hh lo n cs v) (he : ec.length = k) (hb : (n + 1) * bytes ≤ 70368744177664)
    (h2 : lo ≤ hh.next) (hK : ∀ v' h', SlG k h' lo (n + 1) (cs ++ ec) v' → hh.next ≤ h'.next → (∀ y, y < hh.next → blkOf v ≠ some y → h'.get y = hh.get y) → (∀ y, blkOf v' = some y → hh.next < y) → K v' h') :
    getvh (sappend (hh.alloc (.cells ec false false)) k bytes v (.slice (some ⟨hh.next, 0, none⟩) 1 1)) K := by
  have xa : Ext hh (hh.alloc (.cells ec false false)) := (Ext.refl hh).alloc _
  have hl : (hh.alloc (.cells ec false false)).load hh.next 0 (1 * k) = some ec := load_all (g := false) (ro := false) (by simp) (by omega)
  obtain ⟨h', e1, e2, e3, e5, e4⟩ := (s.ext xa).append (m := 1) (m' := 1) (bytes := bytes) (sp := none) hl (by omega) hb (by simp; omega)
  rw [e1, getvh_some]
  refine hK _ _ e2 (by simp at e3; omega) (fun y hy hv => ?_) (fun y hv => ?_)
  · rw [e5 y (by simp; omega) (fun n' e => hv (by rw [e]; rfl)), xa.get y hy]
  · simp [blkOf] at hv; omega
section
variable {b : Nat} {v : Mac} {lv iv tv sv : Value} {m : Int} {bvs : List Value}
theorem MacW.put_row (V : MacW h b v lv iv tv m bvs sv) {k n : Nat} {cs : List Value} {u : Value} (s : SlX k h n cs u) (hu : ∀ y, blkOf u = some y → y ≠ b) {c : ABlk} : SlX k (h.put b c) n cs u :=
  s.same (by simp) fun y hy => by rw [AH.put_get, if_neg (hu y hy)]
theorem MacW.put_st (V : MacW h b v lv iv tv m bvs sv) {c : ABlk} : SlG 7 (h.put b c) (b + 1) v.steps.length (v.steps.flatMap Stp.c) sv := ⟨V.st.1, by
    rcases V.st.2 with q | ⟨y, y1, y2, y3, y4⟩
    · exact .inl q
    · exact .inr ⟨y, y1, by simpa using y2, by rw [AH.put_get, if_neg (by omega)]; exact y3, y4⟩⟩
theorem MacW.frame (V : MacW h b v lv iv tv m bvs sv) {h' : AH} (hn : h.next ≤ h'.next) (hg : ∀ y, y < h.next → (y = b ∨ blkOf sv = some y ∨ ∃ (t : Nat) (hv : t < bvs.length), blkOf bvs[t] = some y) → h'.get y = h.get y) : MacW h' b v lv iv tv m bvs sv := by
  have hb := V.hb
  refine ⟨by rw [hg b hb (.inl rfl)]; exact V.at', by omega, V.len, fun t ht hb hv => ?_, ⟨V.st.1, ?_⟩, fun t hv y hy => ?_⟩
  · have r := V.rows t ht hb hv
    exact r.same hn fun y hy => hg y (r.lt hy) (.inr (.inr ⟨t, hv, hy⟩))
  · rcases V.st.2 with q | ⟨y, y1, y2, y3, y4⟩
    · exact .inl q
    · exact .inr ⟨y, y1, by omega, by rw [hg y y2 (.inr (.inl (by rw [y4]; rfl)))]; exact y3, y4⟩
  · have := V.rb t hv y hy
    exact ⟨this.1, by omega, this.2.2⟩
theorem MacW.setMem (V : MacW h b v lv iv tv m bvs sv) {mem by' : List Int} {lcl : List Lcl} :
    MacW (h.put b (.cells ((VM.mk mem by' lcl bvs sv).c lv iv tv m) false false)) b ⟨mem, by', lcl, v.bufs, v.steps⟩ lv iv tv m bvs sv :=
  ⟨by simp, by simpa using V.hb, V.len, fun t ht hb hv => V.put_row (V.rows t ht hb hv) fun y hy => by have := (V.rb t hv y hy).1; omega,
   V.put_st, fun t hv y hy => by simpa using V.rb t hv y hy⟩
theorem MacW.setBuf (V : MacW h b v lv iv tv m bvs sv) {t : Nat} (ht : t < 4) (hl : v.bufs.length = 4) {l : List Ent} {w : Value} (s : SlX 3 h l.length (l.flatMap Ent.c) w) (hw : ∀ y, blkOf w = some y → b < y ∧ y < h.next ∧ blkOf sv ≠ some y) :
    MacW (h.put b (.cells ((VM.mk v.mem v.by' v.lcl (bvs.set t w) sv).c lv iv tv m) false false)) b ⟨v.mem, v.by', v.lcl, v.bufs.set t l, v.steps⟩ lv iv tv m (bvs.set t w) sv := by
  refine ⟨by simp, by simpa using V.hb, by simp [V.len], fun t' ht' hb' hv' => ?_, ?_, fun t' hv' y hy => ?_⟩
  · simp only [List.getElem_set]
    by_cases e : t = t'
    · simp only [if_pos e]
      exact V.put_row s fun y hy => by have := (hw y hy).1; omega
    · simp only [if_neg e]
      have h4 : t' < bvs.length := by rw [V.len]; exact ht'
      exact V.put_row (V.rows t' ht' (by rw [hl]; exact ht') h4) fun y hy => by have := (V.rb t' h4 y hy).1; omega
  · exact V.put_st
  · rw [List.getElem_set] at hy
    split at hy
    · simpa using hw y hy
    · simpa using V.rb t' (by simpa using hv') y hy
theorem MacW.setSteps (V : MacW h b v lv iv tv m bvs sv) {h' : AH} {s : Stp} {w : Value} (hn : h.next ≤ h'.next) (hg : ∀ y, y < h.next → blkOf sv ≠ some y → h'.get y = h.get y) (st : SlG 7 h' (b + 1) (v.steps.length + 1) (v.steps.flatMap Stp.c ++ s.c) w) (hw : ∀ y, blkOf w = some y → h.next ≤ y) :
    MacW (h'.put b (.cells ((VM.mk v.mem v.by' v.lcl bvs w).c lv iv tv m) false false)) b ⟨v.mem, v.by', v.lcl, v.bufs, v.steps ++ [s]⟩ lv iv tv m bvs w := by
  have hb := V.hb
  refine ⟨by simp, by simp; omega, V.len, fun t' ht' hb' hv' => ?_, ?_, fun t' hv' y hy => ?_⟩
  · have r := V.rows t' ht' hb' hv'
    refine r.same (by simpa using hn) fun y hy => ?_
    have q := V.rb t' hv' y hy
    have q' := r.lt hy
    rw [AH.put_get, if_neg (by omega), hg y q' q.2.2]
  · refine ⟨by simp [st.1], ?_⟩
    rcases st.2 with ⟨q, _⟩ | ⟨y, y1, y2, y3, y4⟩
    · omega
    · exact .inr ⟨y, y1, by simpa using y2, by rw [AH.put_get, if_neg (by omega), y3]; simp, by simpa using y4⟩
  · have r := V.rb t' hv' y hy
    exact ⟨r.1, by simp; omega, fun e => by have := hw y e; omega⟩
end
end Go.Jq
namespace Go.Jq
variable {G : Nat → SFunc} {h : AH} {R : Value → AH → Prop}
def NewRows (h : AH) (bvs bvs' : List Value) : Prop := ∀ (t : Nat) (hv : t < bvs'.length) y, blkOf bvs'[t] = some y → (∃ hv0 : t < bvs.length, blkOf bvs[t] = some y) ∨ h.next ≤ y
theorem NewRows.refl {h : AH} {bvs : List Value} : NewRows h bvs bvs := fun t hv y hy => .inl ⟨hv, hy⟩
def PickK (h : AH) (b : Nat) (w : Mac) (s : Stp) (lv iv tv : Value) (m : Int) (bvs : List Value) (sv : Value) (R : Value → AH → Prop) : Prop :=
  ∀ h1 bvs' sv', Aside h h1 b sv → MacW h1 b w lv iv tv m bvs' sv' → (∀ y, blkOf sv' = some y → h.next ≤ y) → NewRows h bvs bvs' → R (.tuple #[s.v, .bool true]) h1
theorem zi_7 : zi 7 = [.int .i64 0, .int .i64 0, .int .i64 0, .int .i64 0, .int .i64 0, .int .i64 0, .int .i64 0] := rfl
set_option maxHeartbeats 4000000 in
theorem Pick_flush (g : VmG G) {h0 : AH} {p : Prg} {b : Nat} {v : Mac} {lv iv tv sv : Value} {bvs : List Value} {m i : Int} (x0 : Ext h0 h) (hb0 : h0.next ≤ b) (P : PrgV h0 p lv iv tv) (V : MacW h b v lv iv tv m bvs sv) (S : Sure m v) (hn : v.steps.length ≤ 100)
    {x : Int × Int} (hf : flM m i = some x) (hm : mayM p m v i = true) (k : PickK h b (pickM p m v i).1 (pickM p m v i).2 lv iv tv m bvs sv R) :
    WC G 289 [.pointer (some ⟨b, 0, none⟩), .int .i64 i] h R := by
  have o := S.ok hn
  obtain ⟨f1, f2, f3, f4, f5, f6⟩ := flM_some hf
  obtain ⟨a, loc⟩ := x
  simp only [] at f1 f2 f3 f4
  obtain ⟨t, rfl⟩ := Int.eq_ofNat_of_zero_le f1
  have ht : t < 4 := by omega
  have t4 : (t : Int) < 4 := f2
  have t36 : 32 + t ≤ 36 := by omega
  have hbl : t < v.bufs.length := by rw [o.bufs]; exact ht
  have hv : t < bvs.length := by rw [V.len]; exact ht
  have hb := V.hb
  have vo := V.toV.ok o
  have lc := VM.c_len (lv := lv) (iv := iv) (tv := tv) (m := m) vo
  have gm := VM.get_m (lv := lv) (iv := iv) (tv := tv) (m := m) (v := VM.mk v.mem v.by' v.lcl bvs sv)
  have gs := VM.get_steps (lv := lv) (iv := iv) (tv := tv) (m := m) vo
  have gu := VM.get_buf (lv := lv) (iv := iv) (tv := tv) (m := m) vo ht
  have gb := V.at'
  simp only [] at gs gu
  have eb : bufL v t = v.bufs[t] := by unfold bufL; rw [List.getElem?_eq_getElem hbl]; rfl
  have hlen := o.bufl _ (List.getElem_mem hbl)
  obtain ⟨j, ek, hj⟩ : ∃ j, oldM v.bufs[t] loc = some j ∧ j < v.bufs[t].length := by
    unfold mayM at hm
    rw [if_neg (by omega), hf] at hm
    simp only [Int.toNat_natCast, eb] at hm
    cases e : oldM v.bufs[t] loc with
    | none => unfold oldI at hm; rw [e] at hm; simp at hm
    | some j => exact ⟨j, rfl, oldM_lt e⟩
  have ei : oldI v.bufs[t] loc = j := by unfold oldI; rw [ek]
  obtain ⟨sa, sc, esv⟩ := V.st.len
  refine WC_enter g.g289 rfl ?_
  show W G c289_body _ _ (retK [.cellN 4 7, .tmp 5] R)
  unfold c289_body c289_0 c289_1
  simp -implicitDefEqProofs
  have y0 : Ext h (h.alloc (.cells (zi 7) false false)) := (Ext.refl h).alloc _
  refine May_spec g (by simp; omega) (P.ext (x0.trans y0)) (V.ext y0).toV o fun h1 y1 => ?_
  have n1 := y1.next
  simp at n1
  have gb1 : h1.get b = .cells ((VM.mk v.mem v.by' v.lcl bvs sv).c lv iv tv m) false false := by rw [y1.get _ (by simp; omega), y0.get _ hb]; exact gb
  have g4 : h1.get h.next = .cells (zi 7) false false := by rw [y1.get _ (by simp)]; simp
  have V1 := (V.ext y0).ext y1
  have bne : ¬ b = h1.next := by omega
  have bne4 : ¬ b = h.next := by omega
  generalize hc : (VM.mk v.mem v.by' v.lcl bvs sv).c lv iv tv m = c at lc gm gs gu gb gb1
  rw [esv] at gs
  obtain ⟨l36, gs'⟩ := List.getElem?_eq_some_iff.1 gs
  unfold c289_3 c289_4 c289_5 c289_6
  simp -implicitDefEqProofs [hm, gb1, lc, gs, gs', zi_7, splice]
  generalize ehx : AH.put _ h1.next _ = hx
  have n2 : hx.next = h1.next + 1 := by subst ehx; simp
  have yx : Ext h1 hx := by subst ehx; exact ((Ext.refl h1).alloc _).put (Nat.le_refl _) _
  have g7 : hx.get h1.next = .cells [.int .i64 i, .int .i64 i, .int .i64 0, .int .i64 0, .int .i64 0, .int .i64 0, .int .i64 (-1)] false false := by subst ehx; simp
  clear ehx
  have gbx := (yx.get b (by omega)).trans gb1
  have g4x := (yx.get h.next (by omega)).trans g4
  have Vx := V1.ext yx
  refine flushM_spec g gbx gm ?_
  have efv : flV m i = .tuple #[.int .i64 t, .int .i64 loc, .bool true] := by unfold flV; rw [hf]
  rw [efv]
  unfold c289_7
  simp -implicitDefEqProofs
  have sb := Vx.rows t ht hbl hv
  refine oldest_spec g gbx lc ht gu sb.view (by omega) ?_
  rw [ei]
  obtain ⟨rb, ro, rsp, rc, rc0, rg, rro, ebv, rlt, rget, rle, rrow, rj⟩ := SlV.row Ent.c_length sb.view hj
  have rb' := V.rb t hv rb (by rw [ebv]; rfl)
  have B := V.rows t ht hbl hv
  rw [ebv] at gu sb
  have eB := S.inv.buf t ht v.bufs[t][j] (by rw [eb]; exact List.getElem_mem hj)
  generalize eE : v.bufs[t][j] = e at rrow rj eB
  obtain ⟨q, hq⟩ := Int.eq_ofNat_of_zero_le eB.2.2.2.2.2.1
  have q4 : q < 4 := by omega
  have ec : e.c = [.int .i64 e.loc, .int .i64 e.value, .int .i64 e.id] := rfl
  rw [ec] at rrow
  obtain ⟨lt', gu'⟩ := List.getElem?_eq_some_iff.1 gu
  have q1 : ¬ rb = hx.next := by omega
  unfold c289_8
  simp -implicitDefEqProofs [gbx, lc, t4, ht, gu, gu', hj, rget, rle, rrow, splice]
  generalize ehy : AH.put _ hx.next _ = hy
  have n3 : hy.next = hx.next + 1 := by subst ehy; simp
  have yy : Ext hx hy := by subst ehy; exact ((Ext.refl hx).alloc _).put (Nat.le_refl _) _
  have g12 : hy.get hx.next = .cells e.c false false := by subst ehy; simp [ec]
  clear ehy
  have gby := (yy.get b (by omega)).trans gbx
  have g4y := (yy.get h.next (by omega)).trans g4x
  have g7y := (yy.get h1.next (by omega)).trans g7
  have sy := sb.ext yy
  obtain ⟨v1, t1, t2, t3⟩ := sy.take (by omega) (Nat.le_of_lt hj)
  obtain ⟨v2, d1, d2, d3⟩ := sy.drop (i := j + 1) (by omega) hj
  have hw : IntKind.i64.wrap ((j : Int) + 1) = ((j + 1 : Nat) : Int) := by rw [wrap64 (by omega)]; rfl
  have q2 : ¬ b = hy.next := by omega
  have q3 : ¬ rb = hy.next := by omega
  rw [show (((j + 1 : Nat)) : Int) = (j : Int) + 1 from rfl] at d1
  have yz : Ext hy (hy.alloc (.cells [] false false)) := (Ext.refl hy).alloc _
  have o0 : Own 3 (hy.alloc (.cells [] false false)) hy.next 0 [] (.slice (some ⟨hy.next, 0, none⟩) 0 0) := ⟨by simp, .inl ⟨rfl, hy.next, _, _, _, Nat.le_refl _, by simp, by simp; exact ⟨rfl, rfl, rfl⟩, rfl⟩⟩
  obtain ⟨w1, hA, a1, a2, a3, a4⟩ := o0.append (bytes := 24) (t2.ext yz) (by omega) (by simp) (by omega)
  have xA : Ext hy hA := ⟨by simp at a3; omega, fun y hy' => by rw [a4 y (by simp; omega) (fun e => by have := o0.ge e; omega), yz.get y hy']⟩
  obtain ⟨w2, hB, b1, b2, b3, b4⟩ := a2.append (bytes := 24) (d2.ext xA) (by omega) (by simp at a3; omega) (by omega)
  have xB : Ext hy hB := ⟨by have := xA.next; omega, fun y hy' => by rw [b4 y (by have := xA.next; omega) (fun e => by have := a2.ge e; omega), xA.get y hy']⟩
  have gbA := (xA.get b (by omega)).trans gby
  have gbB := (xB.get b (by omega)).trans gby
  have e1 : 0 + j + (v.bufs[t].length - (j + 1)) = j + (v.bufs[t].length - (j + 1)) := by omega
  rw [e1] at b2
  have hsv : ∀ y, blkOf sv = some y → b < y ∧ y < h.next := fun y hy => V.st.lo' hy
  have b2w : ∀ y, blkOf w2 = some y → b < y ∧ y < hB.next ∧ blkOf sv ≠ some y := fun y hy => by
    have := b2.ge hy
    exact ⟨by omega, this.2, fun e => by have := (hsv y e).2; omega⟩
  have b2x : SlX 3 hB (v.bufs[t].eraseIdx j).length ((v.bufs[t].eraseIdx j).flatMap Ent.c) w2 := by
    have q := b2.x
    rw [List.nil_append, fm_take Ent.c_length, fm_drop Ent.c_length, ← List.flatMap_append, ← List.eraseIdx_eq_take_drop_succ] at q
    have el : (v.bufs[t].eraseIdx j).length = j + (v.bufs[t].length - (j + 1)) := by rw [List.length_eraseIdx_of_lt hj]; omega
    rw [el]; exact q
  have VB := ((Vx.ext yy).ext xB).setBuf ht o.bufs b2x b2w
  obtain ⟨ua, uc, eu⟩ := b2.x.len
  obtain ⟨c2, hc2⟩ : ∃ c2, c2 = (VM.mk v.mem v.by' v.lcl (bvs.set t w2) sv).c lv iv tv m := ⟨_, rfl⟩
  have ss : splice c (32 + t) [w2] = c2 := by rw [splice_one lt', ← hc, hc2]; exact VM.set_buf vo ht
  rw [← hc2] at VB
  have vo2 : (VM.mk v.mem v.by' v.lcl (bvs.set t w2) sv).Ok := ⟨vo.mem, vo.by', vo.lcl, by simp [V.len]⟩
  have lc2 := VM.c_len (lv := lv) (iv := iv) (tv := tv) (m := m) vo2
  have sm2 := VM.set_mem (lv := lv) (iv := iv) (tv := tv) (m := m) (x := e.value) vo2 q4
  rw [← hc2] at lc2 sm2
  rw [eu] at b1 ss
  unfold c289_9 c289_9b
  simp -implicitDefEqProofs [t36, gby, gbA, gbB, q2, q3, lc, t4, ht, gu, gu', t1, d1, hw, a1, b1, ss]
  have g12B := (xB.get hx.next (by omega)).trans g12
  have g4B := (xB.get h.next (by omega)).trans g4y
  have g7B := (xB.get h1.next (by omega)).trans g7y
  have nB := xB.next
  have z1 : ¬ hx.next = b := by omega
  have z2 : ¬ h1.next = b := by omega
  have z3 : ¬ h.next = b := by omega
  generalize ehC : AH.put hB b _ = hC at VB
  have g12C : hC.get hx.next = .cells e.c false false := by subst ehC; rw [AH.put_get, if_neg z1]; exact g12B
  have g7C : hC.get h1.next = .cells [.int .i64 i, .int .i64 i, .int .i64 0, .int .i64 0, .int .i64 0, .int .i64 0, .int .i64 (-1)] false false := by subst ehC; rw [AH.put_get, if_neg z2]; exact g7B
  have g4C : hC.get h.next = .cells (zi 7) false false := by subst ehC; rw [AH.put_get, if_neg z3]; exact g4B
  have gbC : hC.get b = .cells c2 false false := by subst ehC; simp
  have nC : hC.next = hB.next := by subst ehC; simp
  have xC : ∀ y, y < h.next → y ≠ b → hC.get y = h.get y := fun y hy hne => by
    subst ehC
    rw [AH.put_get, if_neg hne, xB.get y (by omega), yy.get y (by omega), yx.get y (by omega), y1.get y (by simp; omega), y0.get y hy]
  clear ehC
  rw [ec] at g12C
  have q4' : (q : Int) < 4 := by omega
  have q36 : 4 + q ≤ 36 := by omega
  have q36' : 8 + q ≤ 36 := by omega
  obtain ⟨c3, hc3⟩ : ∃ c3, c3 = (VM.mk (v.mem.set q e.value) v.by' v.lcl (bvs.set t w2) sv).c lv iv tv m := ⟨_, rfl⟩
  obtain ⟨c4, hc4⟩ : ∃ c4, c4 = (VM.mk (v.mem.set q e.value) (v.by'.set q e.id) v.lcl (bvs.set t w2) sv).c lv iv tv m := ⟨_, rfl⟩
  have vo3 : (VM.mk (v.mem.set q e.value) v.by' v.lcl (bvs.set t w2) sv).Ok := ⟨by simp [vo.mem], vo.by', vo.lcl, by simp [V.len]⟩
  have vo4 : (VM.mk (v.mem.set q e.value) (v.by'.set q e.id) v.lcl (bvs.set t w2) sv).Ok := ⟨by simp [vo.mem], by simp [vo.by'], vo.lcl, by simp [V.len]⟩
  have lc3 := VM.c_len (lv := lv) (iv := iv) (tv := tv) (m := m) vo3
  have lc4 := VM.c_len (lv := lv) (iv := iv) (tv := tv) (m := m) vo4
  have gs4 := VM.get_steps (lv := lv) (iv := iv) (tv := tv) (m := m) vo4
  have sm3 := VM.set_by (lv := lv) (iv := iv) (tv := tv) (m := m) (x := e.id) vo3 q4
  have ss5 := fun u => VM.set_steps (lv := lv) (iv := iv) (tv := tv) (m := m) (u := u) vo4
  have VD := VB.setMem (mem := v.mem.set q e.value) (by' := v.by'.set q e.id) (lcl := v.lcl)
  simp only [] at sm2 sm3 VD ss5 gs4
  rw [← hc3] at sm2 sm3 lc3
  rw [← hc4] at sm3 VD lc4 ss5 gs4
  have sp2 : splice c2 (4 + q) [.int .i64 e.value] = c3 := by rw [splice_one (by omega), sm2]
  have sp3 : splice c3 (8 + q) [.int .i64 e.id] = c4 := by rw [splice_one (by omega), sm3]
  rw [esv] at gs4
  obtain ⟨l36b, gs4'⟩ := List.getElem?_eq_some_iff.1 gs4
  have q5 : 4 + q + 1 ≤ 8 + q := by omega
  unfold c289_10 c289_10b
  simp -implicitDefEqProofs [gbC, g12C, lc2, hq, q4, q4', q36, q36', z1, q5, sp2, sp3, lc3, AH.put_put]
  generalize ehD : AH.put hC b _ = hD at VD
  have nD : hD.next = hC.next := by subst ehD; simp
  have gbD : hD.get b = .cells c4 false false := by subst ehD; simp
  have oD : ∀ y, y ≠ b → hD.get y = hC.get y := fun y hy => by subst ehD; rw [AH.put_get, if_neg hy]
  clear ehD
  have g7D := (oD _ z2).trans g7C
  have g12D := (oD _ z1).trans g12C
  have g4D := (oD _ z3).trans g4C
  have z4 : ¬ hx.next = h1.next := by omega
  have z5 : ¬ h.next = h1.next := by omega
  unfold c289_11 c289_11b
  simp -implicitDefEqProofs [gbD, g7D, g12D, z4, AH.put_put]
  obtain ⟨s, hs⟩ : ∃ s : Stp, s = ⟨i, t, 6, e.loc, 0, e.value, e.id⟩ := ⟨_, rfl⟩
  have sc' : s.c = [.int .i64 i, .int .i64 t, .int .i64 6, .int .i64 e.loc, .int .i64 0, .int .i64 e.value, .int .i64 e.id] := by subst hs; rfl
  have ep : pickM p m v i = (⟨v.mem.set q e.value, v.by'.set q e.id, v.lcl, v.bufs.set t (v.bufs[t].eraseIdx j), v.steps ++ [s]⟩, s) := by
    unfold pickM
    rw [hf]
    simp only [Int.toNat_natCast, eb, ek, Option.getD_some, List.getElem?_eq_getElem hj, eE]
    rw [hs, hq, Int.toNat_natCast]
  rw [hq] at sc'
  rw [hq, ← sc']
  have nnB := yy.next
  have nnX := yx.next
  have VE : MacW (hD.put h1.next (.cells s.c false false)) b _ lv iv tv m (bvs.set t w2) sv := VD.frame (by simp) fun y hy hc => by
    rw [AH.put_get, if_neg]
    rcases hc with hc | hc | ⟨t', hv', hc⟩
    · omega
    · have := hsv y hc; omega
    · rw [List.getElem_set] at hc
      split at hc
      · have := b2.ge hc; omega
      · have := V.rb t' (by simpa using hv') y hc; omega
  generalize ehE : AH.put hD h1.next _ = hE at VE
  have nE : hE.next = hD.next := by subst ehE; simp
  have g7E : hE.get h1.next = .cells s.c false false := by subst ehE; simp
  have oE : ∀ y, y ≠ h1.next → hE.get y = hD.get y := fun y hy => by subst ehE; rw [AH.put_get, if_neg hy]
  clear ehE
  have g4E := (oE _ z5).trans g4D
  have gbE := (oE b (by omega)).trans gbD
  have xa : Ext hE (hE.alloc (.cells s.c false false)) := (Ext.refl hE).alloc _
  have hl : (hE.alloc (.cells s.c false false)).load hE.next 0 (1 * 7) = some s.c := load_all (g := false) (ro := false) (by simp) (by rw [Stp.c_length])
  obtain ⟨hF, p1, p2, p3, p5, p4⟩ := (VE.st.ext xa).append (m := 1) (m' := 1) (bytes := 56) (sp := none) hl (by omega) (by simp; omega) (by simp; omega)
  rw [esv] at p1
  simp only [AH.alloc_next] at p1 p2 p3
  have hF' : ∀ y, y < hE.next → blkOf sv ≠ some y → hF.get y = hE.get y := fun y hy hne => by
    rw [p5 y (by simp; omega) (fun n' e => hne (by rw [e]; rfl)), xa.get y hy]
  have gbF := (hF' b (by omega) (fun e => by have := (hsv b e).1; omega)).trans gbE
  have g7F := (hF' h1.next (by omega) (fun e => by have := (hsv _ e).2; omega)).trans g7E
  have g4F := (hF' h.next (by omega) (fun e => by have := (hsv _ e).2; omega)).trans g4E
  have VF := VE.setSteps (h' := hF) (by omega) hF' p2 (fun y hy => by simp [blkOf] at hy; omega)
  have q6 : ¬ b = hE.next := by omega
  have q7 : ¬ h1.next = hE.next := by omega
  have ls : s.c.length = 7 := rfl
  have lt7 : s.c.take 7 = s.c := List.take_of_length_le (by omega)
  unfold c289_12 c289_12b
  simp -implicitDefEqProofs [gbE, gbF, g7E, lc4, gs4, gs4', q6, q7, ls, lt7, splice_all, p1, AH.put_put]
  rw [splice_one (by omega), ss5]
  generalize ehG : AH.put hF b _ = hG at VF ⊢
  have nG : hG.next = hF.next := by subst ehG; simp
  have oG : ∀ y, y ≠ b → hG.get y = hF.get y := fun y hy => by subst ehG; rw [AH.put_get, if_neg hy]
  clear ehG
  have g7G := (oG _ z2).trans g7F
  have g4G := (oG _ z3).trans g4F
  rw [zi_7] at g4G
  have VG : MacW (hG.put h.next (.cells s.c false false)) b _ lv iv tv m (bvs.set t w2) _ := VF.frame (by simp) fun y hy hc => by
    rw [AH.put_get, if_neg]
    rcases hc with hc | hc | ⟨t', hv', hc⟩
    · omega
    · simp [blkOf] at hc; omega
    · rw [List.getElem_set] at hc
      split at hc
      · have := b2.ge hc; omega
      · have := V.rb t' (by simpa using hv') y hc; omega
  rw [ep] at k
  have kk := k _ _ _ ⟨by simp; omega, fun y hy hyb hys => ?_⟩ VG (fun y hy => by simp [blkOf] at hy; omega) fun t' hv' y hy => by
    rw [List.getElem_set] at hy
    split at hy
    · have := b2.ge hy; exact .inr (by omega)
    · exact .inl ⟨by simpa using hv', hy⟩
  · unfold c289_13
    simp -implicitDefEqProofs [g7G, g4G, ls, lt7, splice_all]
    simpa [Stp.v] using kk
  · rw [AH.put_get, if_neg (by omega), oG y hyb, hF' y (by omega) hys, oE y (by omega), oD y hyb, xC y hy hyb]
end Go.Jq
namespace Go.Jq
variable {G : Nat → SFunc} {h : AH} {R : Value → AH → Prop}
def c289_tail2 : SCode := .seq (.dreg [0, 4, 7] c289_30 c289_30b) (.seq (.dreg [4, 7] c289_31 c289_31b) (.seq (.reg [4, 5] c289_32) .ret))
set_option maxHeartbeats 4000000 in
theorem Pick_tail2 (g : VmG G) {h0 h7 : AH} {p : Prg} {b b7 t : Nat} {w : Mac} {lv iv tv sv : Value} {bvs : List Value} {m x : Int} {s : Stp} (x0 : Ext h0 h) (hb0 : h0.next ≤ b) (hbn : b < h.next) (P : PrgV h0 p lv iv tv) (O : ThOk p) (V : MacW h7 b w lv iv tv m bvs sv)
    (wm : w.mem.length = 4) (wb : w.by'.length = 4) (wl : w.lcl.length = 4) (hn : w.steps.length ≤ 100) (ht : t < 4) (htp : t < p.ths.length) (hsv : ∀ y, blkOf sv = some y → b < y ∧ y < h.next) (hbv : ∀ t' (hv : t' < bvs.length) y, blkOf bvs[t'] = some y → y ≠ h.next ∧ y ≠ b7)
    (n7 : h.next < b7) (n77 : b7 < h7.next) (g4 : h7.get h.next = .cells (zi 7) false false) (g7 : h7.get b7 = .cells s.c false false) (fr : ∀ y, y < h.next → y ≠ b → h7.get y = h.get y)
    {bvs0 : List Value} (hnr : NewRows h bvs0 bvs) {F : Fr} (hF : F = [(0, .pointer (some ⟨b, 0, none⟩)), (1, .int .i64 t), (4, .pointer (some ⟨h.next, 0, none⟩)), (7, .pointer (some ⟨b7, 0, none⟩)), (15, .int .i64 x)] ∨
      ∃ v6 v17 v251, F = [(0, .pointer (some ⟨b, 0, none⟩)), (1, .int .i64 t), (4, .pointer (some ⟨h.next, 0, none⟩)), (6, v6), (7, .pointer (some ⟨b7, 0, none⟩)), (15, .int .i64 x), (17, v17), (251, v251)])
    (k : PickK h b ⟨w.mem, w.by', w.lcl.set t (aftM p.ths[t] (lclL w t) x), w.bufs, w.steps ++ [s]⟩ s lv iv tv m bvs0 sv R) :
    W G c289_tail2 F h7 (retK [.cellN 4 7, .tmp 5] R) := by
  have vo : (VM.mk w.mem w.by' w.lcl bvs sv).Ok := ⟨wm, wb, wl, V.len⟩
  have lc := VM.c_len (lv := lv) (iv := iv) (tv := tv) (m := m) vo
  have tp := VM.take_p (lv := lv) (iv := iv) (tv := tv) (m := m) (v := VM.mk w.mem w.by' w.lcl bvs sv)
  have gl := VM.get_lcl (lv := lv) (iv := iv) (tv := tv) (m := m) vo ht
  have gb := V.at'
  have t4 : (t : Int) < 4 := by omega
  have hl : t < w.lcl.length := by rw [wl]; exact ht
  have el : lclL w t = w.lcl[t] := by unfold lclL; rw [List.getElem?_eq_getElem hl]; rfl
  have le1 : 12 + t * 5 ≤ 32 := by omega
  have le2 : 12 + t * 5 + 5 ≤ 37 := by omega
  obtain ⟨sa, sc, esv⟩ := V.st.len
  have x07 : Ext h0 h7 := ⟨by have := x0.next; omega, fun y hy => by have := x0.next; rw [fr y (by omega) (by omega), x0.get y hy]⟩
  simp only [] at gl
  have nz1 : ¬ h.next = b := by omega
  have nz2 : ¬ b7 = b := by omega
  have nz3 : ¬ h.next = b7 := by omega
  rw [el] at k
  generalize w.lcl[t] = l at gl k
  have elc : l.c = [.int .i64 l.pc, .int .i64 l.r0, .int .i64 l.r1, .int .i64 l.r2, .int .i64 l.r3] := rfl
  rw [elc] at gl
  generalize hc : (VM.mk w.mem w.by' w.lcl bvs sv).c lv iv tv m = c at lc tp gl gb
  rcases hF with rfl | ⟨v6, v17, v251, rfl⟩
  all_goals
    unfold c289_tail2 c289_30 c289_30b
    simp -implicitDefEqProofs [gb, lc, tp, gl, t4, ht, le1, le2, AH.put_put]
    refine After_spec g.toStepG (P.ext x07) O htp fun h8 y8 => ?_
    have n8 := y8.next
    have gb8 := (y8.get b V.hb).trans gb
    have g48 := (y8.get h.next (by omega)).trans g4
    have g78 := (y8.get b7 n77).trans g7
    have V8 := V.ext y8
    have vo2 : (VM.mk w.mem w.by' (w.lcl.set t (aftM p.ths[t] l x)) bvs sv).Ok := ⟨wm, wb, by simp [wl], V.len⟩
    have lc2 := VM.c_len (lv := lv) (iv := iv) (tv := tv) (m := m) vo2
    have gs2 := VM.get_steps (lv := lv) (iv := iv) (tv := tv) (m := m) vo2
    have sl := VM.set_lcl (lv := lv) (iv := iv) (tv := tv) (m := m) (i := t) (x := aftM p.ths[t] l x) vo ht
    have ss5 := fun u => VM.set_steps (lv := lv) (iv := iv) (tv := tv) (m := m) (u := u) vo2
    have V9 := V8.setMem (mem := w.mem) (by' := w.by') (lcl := w.lcl.set t (aftM p.ths[t] l x))
    simp only [] at sl ss5 gs2
    rw [hc] at sl
    generalize hc2 : (VM.mk w.mem w.by' (w.lcl.set t (aftM p.ths[t] l x)) bvs sv).c lv iv tv m = c2 at lc2 gs2 sl ss5 V9
    rw [esv] at gs2
    obtain ⟨l36, gs2'⟩ := List.getElem?_eq_some_iff.1 gs2
    generalize aftM p.ths[t] l x = l' at *
    have elc' : l'.c = [.int .i64 l'.pc, .int .i64 l'.r0, .int .i64 l'.r1, .int .i64 l'.r2, .int .i64 l'.r3] := rfl
    rw [elc'] at sl
    simp -implicitDefEqProofs [gb8, gb, lc, tp, gl, t4, ht, le1, le2, Lcl.v, Lcl.c, sl, AH.put_put]
    generalize ehE : AH.put h8 b _ = hE at V9
    have nE : hE.next = h8.next := by subst ehE; simp
    have gbE : hE.get b = .cells c2 false false := by subst ehE; simp
    have oE : ∀ y, y ≠ b → hE.get y = h8.get y := fun y hy => by subst ehE; rw [AH.put_get, if_neg hy]
    clear ehE
    have g7E := (oE b7 nz2).trans g78
    have g4E := (oE h.next nz1).trans g48
    have xa : Ext hE (hE.alloc (.cells s.c false false)) := (Ext.refl hE).alloc _
    have hl : (hE.alloc (.cells s.c false false)).load hE.next 0 (1 * 7) = some s.c := load_all (g := false) (ro := false) (by simp) (by rw [Stp.c_length])
    obtain ⟨hF, p1, p2, p3, p5, p4⟩ := (V9.st.ext xa).append (m := 1) (m' := 1) (bytes := 56) (sp := none) hl (by omega) (by simp; omega) (by simp; omega)
    rw [esv] at p1
    simp only [AH.alloc_next] at p1 p2 p3
    have hF' : ∀ y, y < hE.next → blkOf sv ≠ some y → hF.get y = hE.get y := fun y hy hne => by
      rw [p5 y (by simp; omega) (fun n' e => hne (by rw [e]; rfl)), xa.get y hy]
    have gbF := (hF' b (by omega) (fun e => by have := (hsv b e).1; omega)).trans gbE
    have g7F := (hF' b7 (by omega) (fun e => by have := (hsv _ e).2; omega)).trans g7E
    have g4F := (hF' h.next (by omega) (fun e => by have := (hsv _ e).2; omega)).trans g4E
    have VF := V9.setSteps (h' := hF) (by omega) hF' p2 (fun y hy => by simp [blkOf] at hy; omega)
    have q6 : ¬ b = hE.next := by omega
    have q7 : ¬ b7 = hE.next := by omega
    have ls : s.c.length = 7 := rfl
    have lt7 : s.c.take 7 = s.c := List.take_of_length_le (by omega)
    unfold c289_31 c289_31b
    simp -implicitDefEqProofs [gbE, gbF, g7E, lc2, gs2, gs2', q6, q7, ls, lt7, splice_all, p1, AH.put_put]
    rw [splice_one (by omega), ss5]
    generalize ehG : AH.put hF b _ = hG at VF ⊢
    have nG : hG.next = hF.next := by subst ehG; simp
    have oG : ∀ y, y ≠ b → hG.get y = hF.get y := fun y hy => by subst ehG; rw [AH.put_get, if_neg hy]
    clear ehG
    have g7G := (oG _ nz2).trans g7F
    have g4G := (oG _ nz1).trans g4F
    rw [zi_7] at g4G
    have VG : MacW (hG.put h.next (.cells s.c false false)) b _ lv iv tv m bvs _ := VF.frame (by simp) fun y hy hc => by
      rw [AH.put_get, if_neg]
      rcases hc with hc | hc | ⟨t', hv', hc⟩
      · omega
      · simp [blkOf] at hc; omega
      · exact (hbv t' hv' y hc).1
    have kk := k _ _ _ ⟨by simp; omega, fun y hy hyb hys => ?_⟩ VG (fun y hy => by simp [blkOf] at hy; omega) hnr
    · unfold c289_32
      simp -implicitDefEqProofs [g7G, g4G, ls, lt7, splice_all]
      simpa [Stp.v] using kk
    · rw [AH.put_get, if_neg (by omega), oG y hyb, hF' y (by omega) hys, oE y hyb, y8.get y (by omega), fr y hy hyb]
end Go.Jq
namespace Go.Jq
variable {G : Nat → SFunc} {h : AH} {R : Value → AH → Prop}
def c289_tail : SCode := .seq (.dreg [0, 1, 4, 6, 7, 15, 17] c289_24 c289_24b) (.seq (.dreg [0, 1, 4, 6, 7, 15, 17] c289_25 c289_25b)
  (.seq (.block 2 (.seq (.reg [0, 1, 4, 6, 7, 15, 17, 220] c289_26) (.cond (t_ 220) (.dreg [0, 1, 4, 7, 15] c289_27 c289_27b) (.seq (.reg [0, 1, 4, 6, 7, 15, 17, 251] c289_28) (.cond (t_ 251) (.dreg [0, 1, 4, 7, 15] c289_29 c289_29b) .skip))))) c289_tail2))
def wrM (m : Int) (v : Mac) (t : Nat) (e : Evt) : Mac := if e.kind = 4 ∨ (e.kind = 2 ∧ m = 1) then { v with mem := v.mem.set e.loc.toNat e.w, by' := v.by'.set e.loc.toNat (v.steps.length : Int) }
      else if e.kind = 2 then { v with bufs := v.bufs.set t (bufL v t ++ [⟨e.loc, e.w, (v.steps.length : Int)⟩]) } else v
theorem wrM_lcl {m : Int} {v : Mac} {t : Nat} {e : Evt} : (wrM m v t e).lcl = v.lcl ∧ (wrM m v t e).steps = v.steps := by
  unfold wrM
  split
  · exact ⟨rfl, rfl⟩
  · split <;> exact ⟨rfl, rfl⟩
set_option maxHeartbeats 8000000 in
theorem Pick_tail (g : VmG G) {h0 h3 : AH} {p : Prg} {b b7 b13 t n : Nat} {v : Mac} {lv iv tv sv : Value} {bvs : List Value} {m x from' : Int} {ins : Ins} (x0 : Ext h0 h) (hb0 : h0.next ≤ b) (P : PrgV h0 p lv iv tv) (O : ThOk p) (V : MacW h b v lv iv tv m bvs sv) (S : Sure m v)
    (hn : v.steps.length ≤ 90) (ht : t < 4) (htp : t < p.ths.length) (ok : iOk (plP n) ins) (hn4 : n ≤ 4) (x3 : Ext h h3)
    (n7 : h.next < b7) (n13 : b7 < b13) (n3 : b13 < h3.next) (g4 : h3.get h.next = .cells (zi 7) false false) (g7 : h3.get b7 = .cells [.int .i64 t, .int .i64 t, .int .i64 0, .int .i64 0, .int .i64 0, .int .i64 0, .int .i64 from'] false false) (g13 : h3.get b13 = .cells ins.c false false)
    {F : Fr} (hF : (∃ v138, F = [(0, .pointer (some ⟨b, 0, none⟩)), (1, .int .i64 t), (4, .pointer (some ⟨h.next, 0, none⟩)), (6, .int .i64 v.steps.length), (7, .pointer (some ⟨b7, 0, none⟩)), (13, .pointer (some ⟨b13, 0, none⟩)), (15, .int .i64 x), (138, v138)]) ∨
      ∃ v16 v162, F = [(0, .pointer (some ⟨b, 0, none⟩)), (1, .int .i64 t), (4, .pointer (some ⟨h.next, 0, none⟩)), (6, .int .i64 v.steps.length), (7, .pointer (some ⟨b7, 0, none⟩)), (13, .pointer (some ⟨b13, 0, none⟩)), (15, .int .i64 x), (16, v16), (162, v162)])
    (k : PickK h b ⟨(wrM m v t (evtM ins (lclL v t) x)).mem, (wrM m v t (evtM ins (lclL v t) x)).by', v.lcl.set t (aftM p.ths[t] (lclL v t) x), (wrM m v t (evtM ins (lclL v t) x)).bufs, v.steps ++ [⟨t, t, (evtM ins (lclL v t) x).kind, (evtM ins (lclL v t) x).loc, (evtM ins (lclL v t) x).r, (evtM ins (lclL v t) x).w, from'⟩]⟩
      ⟨t, t, (evtM ins (lclL v t) x).kind, (evtM ins (lclL v t) x).loc, (evtM ins (lclL v t) x).r, (evtM ins (lclL v t) x).w, from'⟩ lv iv tv m bvs sv R) :
    W G c289_tail F h3 (retK [.cellN 4 7, .tmp 5] R) := by
  have o := S.ok (by omega)
  have hb := V.hb
  have V3 := V.ext x3
  have vo := V.toV.ok o
  have lc := VM.c_len (lv := lv) (iv := iv) (tv := tv) (m := m) vo
  have gm := VM.get_m (lv := lv) (iv := iv) (tv := tv) (m := m) (v := VM.mk v.mem v.by' v.lcl bvs sv)
  have gl := VM.get_lcl (lv := lv) (iv := iv) (tv := tv) (m := m) vo ht
  have gu := VM.get_buf (lv := lv) (iv := iv) (tv := tv) (m := m) vo ht
  have gb := V3.at'
  have hsv : ∀ y, blkOf sv = some y → b < y ∧ y < h.next := fun y hy => V.st.lo' hy
  have hbv : ∀ t' (hv : t' < bvs.length) y, blkOf bvs[t'] = some y → b < y ∧ y < h.next := fun t' hv y hy => by have := V.rb t' hv y hy; exact ⟨this.1, this.2.1⟩
  have t4 : (t : Int) < 4 := by omega
  have hl : t < v.lcl.length := by rw [o.lcl]; exact ht
  have el : lclL v t = v.lcl[t] := by unfold lclL; rw [List.getElem?_eq_getElem hl]; rfl
  have hbl : t < v.bufs.length := by rw [o.bufs]; exact ht
  have hv : t < bvs.length := by rw [V.len]; exact ht
  have eb : bufL v t = v.bufs[t] := by unfold bufL; rw [List.getElem?_eq_getElem hbl]; rfl
  have hbf := S.few _ (List.getElem_mem hbl)
  have le1 : 12 + t * 5 ≤ 32 := by omega
  have le2 : 12 + t * 5 + 5 ≤ 37 := by omega
  have t36 : 32 + t ≤ 36 := by omega
  simp only [] at gl gu
  rw [el] at k
  have el0 := el
  generalize hll : v.lcl[t] = l at gl k el
  have elc : l.c = [.int .i64 l.pc, .int .i64 l.r0, .int .i64 l.r1, .int .i64 l.r2, .int .i64 l.r3] := rfl
  rw [elc] at gl
  have sb3 := V3.rows t ht hbl hv
  generalize hc : (VM.mk v.mem v.by' v.lcl bvs sv).c lv iv tv m = c at lc gm gl gu gb
  obtain ⟨h3', gm'⟩ := List.getElem?_eq_some_iff.1 gm
  have ic : ins.c = [.int .i64 ins.kind, .int .i64 ins.reg, .int .i64 ins.loc, .int .i64 ins.areg, .int .i64 ins.aval, .int .i64 ins.op, .int .i64 ins.breg, .int .i64 ins.bval, .int .i64 ins.n] := rfl
  rw [ic] at g13
  have q1 : ¬ b = h3.next := by have := x3.next; omega
  have q2 : ¬ b13 = h3.next := by omega
  have q3 : ¬ b7 = h3.next := by omega
  have q4 : ¬ h.next = h3.next := by omega
  rcases hF with ⟨v138, rfl⟩ | ⟨v16, v162, rfl⟩
  all_goals
    unfold c289_tail c289_24 c289_24b
    simp -implicitDefEqProofs [gb, g13, lc, gl, t4, ht, le1, le2, q1, q2, AH.put_put]
    refine Event_spec (l := l) g.toStepG ok fun h5 y5 => ?_
    have xl := ok.loc hn4
    have el1 := evtM_loc (l := l) (x := x) xl
    have ek := evtM_kind (i := ins) (l := l) (x := x)
    generalize evtM ins l x = e at el1 ek k
    have n5 := y5.next
    simp at n5
    have za : Ext h3 (h3.alloc (.cells (zi 6) false false)) := (Ext.refl h3).alloc _
    have x35 := za.trans y5
    have gb5 := (x35.get b V3.hb).trans gb
    have g45 := (x35.get h.next (by omega)).trans g4
    have g75 := (x35.get b7 (by omega)).trans g7
    have g135 := (x35.get b13 (by omega)).trans g13
    have g175 : h5.get h3.next = .cells (zi 6) false false := by rw [y5.get _ (by simp)]; simp
    rw [zi_6] at g175
    simp -implicitDefEqProofs [gb5, g135, g175, lc, gl, t4, ht, le1, le2, q1, q2, q3, zi_6, Evt.v, splice, AH.put_put]
    generalize ehx : AH.put h5 h3.next _ = hx
    have nx : hx.next = h5.next := by subst ehx; simp
    have yx : Ext h3 hx := by subst ehx; exact x35.put (Nat.le_refl _) _
    have g17 : hx.get h3.next = .cells [.int .i64 0, .int .i64 0, .int .i64 e.kind, .int .i64 e.loc, .int .i64 e.r, .int .i64 e.w] false false := by subst ehx; simp
    clear ehx
    have g7x := (yx.get b7 (by omega)).trans g7
    have z1 : ¬ h3.next = b7 := by omega
    unfold c289_25 c289_25b
    simp -implicitDefEqProofs [g7x, g17, z1, AH.put_put]
    generalize ehy : AH.put hx b7 _ = hy
    obtain ⟨s, hs⟩ : ∃ s : Stp, s = ⟨t, t, e.kind, e.loc, e.r, e.w, from'⟩ := ⟨_, rfl⟩
    have ny : hy.next = hx.next := by subst ehy; simp
    have yy : Ext h hy := by subst ehy; exact (x3.trans yx).put (by omega) _
    have g7y : hy.get b7 = .cells s.c false false := by subst ehy; subst hs; simp [Stp.c]
    have oy : ∀ y, y ≠ b7 → hy.get y = hx.get y := fun y hy => by subst ehy; rw [AH.put_get, if_neg hy]
    clear ehy
    have g4y := (oy h.next (by omega)).trans ((yx.get h.next (by omega)).trans g4)
    have g17y := (oy h3.next (by omega)).trans g17
    have gby := (oy b (by omega)).trans ((yx.get b (by omega)).trans gb)
    have Vy := V.ext yy
    have hx3 := x3.next
    rw [← hs] at k
    have lm := wrM_lcl (m := m) (v := v) (t := t) (e := e)
    obtain ⟨q, hq⟩ := Int.eq_ofNat_of_zero_le el1.1
    have qlt : q < 4 := by omega
    have q4' : (q : Int) < 4 := by omega
    have q36 : 4 + q ≤ 36 := by omega
    have q36' : 8 + q ≤ 36 := by omega
    have q5 : 4 + q + 1 ≤ 8 + q := by omega
    have z2 : ¬ h3.next = b := by omega
    -- what is written at once
    have wrA : (e.kind = 4 ∨ (e.kind = 2 ∧ m = 1)) → W G (.dreg [0, 1, 4, 7, 15] c289_27 c289_27b)
        [(0, .pointer (some ⟨b, 0, none⟩)), (1, .int .i64 t), (4, .pointer (some ⟨h.next, 0, none⟩)), (6, .int .i64 v.steps.length), (7, .pointer (some ⟨b7, 0, none⟩)), (15, .int .i64 x), (17, .pointer (some ⟨h3.next, 0, none⟩)), (220, .bool true)] hy (blockK 2 (thenK (W G c289_tail2) (retK [SRes.cellN 4 7, SRes.tmp 5] R))) := by
      intro c1
      have ew : wrM m v t e = { v with mem := v.mem.set q e.w, by' := v.by'.set q (v.steps.length : Int) } := by unfold wrM; rw [if_pos c1, hq]; rfl
      rw [ew] at k
      have sm2 := VM.set_mem (lv := lv) (iv := iv) (tv := tv) (m := m) (x := e.w) vo qlt
      have vo3 : (VM.mk (v.mem.set q e.w) v.by' v.lcl bvs sv).Ok := ⟨by simp [vo.mem], vo.by', vo.lcl, V.len⟩
      have lc3 := VM.c_len (lv := lv) (iv := iv) (tv := tv) (m := m) vo3
      have sm3 := VM.set_by (lv := lv) (iv := iv) (tv := tv) (m := m) (x := (v.steps.length : Int)) vo3 qlt
      have VD := Vy.setMem (mem := v.mem.set q e.w) (by' := v.by'.set q (v.steps.length : Int)) (lcl := v.lcl)
      simp only [] at sm2 sm3
      rw [hc] at sm2
      generalize hc3 : (VM.mk (v.mem.set q e.w) v.by' v.lcl bvs sv).c lv iv tv m = c3 at sm2 sm3 lc3
      generalize hc4 : (VM.mk (v.mem.set q e.w) (v.by'.set q (v.steps.length : Int)) v.lcl bvs sv).c lv iv tv m = c4 at sm3 VD
      have sp2 : splice c (4 + q) [.int .i64 e.w] = c3 := by rw [splice_one (by omega), sm2]
      have sp3 : splice c3 (8 + q) [.int .i64 v.steps.length] = c4 := by rw [splice_one (by omega), sm3]
      unfold c289_27 c289_27b
      simp -implicitDefEqProofs [gby, g17y, lc, hq, qlt, q4', q36, q36', q5, z2, sp2, sp3, lc3, AH.put_put]
      refine Pick_tail2 (p := p) (t := t) (s := s) (x := x) g x0 hb0 hb P O VD (by simp [o.mem]) (by simp [o.by']) o.lcl (by simp; omega) ht htp hsv (fun t' hv y hy => by have := hbv t' hv y hy; omega) n7 (by simp; omega) ?_ ?_ (fun y hy hne => ?_) NewRows.refl (.inl rfl) ?_
      · rw [AH.put_get, if_neg (by omega)]; exact g4y
      · rw [AH.put_get, if_neg (by omega)]; exact g7y
      · rw [AH.put_get, if_neg hne, yy.get y hy]
      · have e' : lclL (⟨v.mem.set q e.w, v.by'.set q (v.steps.length : Int), v.lcl, v.bufs, v.steps⟩ : Mac) t = l := by unfold lclL; rw [List.getElem?_eq_getElem hl]; exact hll
        rw [e']; exact k
    simp -implicitDefEqProofs only [W_dreg] at wrA
    unfold c289_26
    generalize eQ : wO G _ _ _ _ = Q
    by_cases k4 : e.kind = 4
    · have wrA := wrA (.inl k4)
      subst eQ
      simp -implicitDefEqProofs [g17y, k4]
      exact wrA
    · by_cases k2 : e.kind = 2
      · by_cases m1 : m = 1
        · have wrA := wrA (.inr ⟨k2, m1⟩)
          subst eQ
          simp -implicitDefEqProofs [g17y, k4, k2, gby, lc, gm', m1]
          exact wrA
        · clear wrA
          have ew : wrM m v t e = { v with bufs := v.bufs.set t (v.bufs[t] ++ [⟨e.loc, e.w, (v.steps.length : Int)⟩]) } := by
            unfold wrM
            rw [if_neg (by omega), if_pos k2, eb]
          rw [ew] at k
          have sby : SlX 3 hy v.bufs[t].length (v.bufs[t].flatMap Ent.c) bvs[t] := sb3.same (by omega) fun y hy' => by
            have := hbv t hv y hy'
            rw [oy y (by omega), yx.get y (by omega)]
          obtain ⟨n', hn'⟩ : ∃ n' : Ent, n' = ⟨e.loc, e.w, (v.steps.length : Int)⟩ := ⟨_, rfl⟩
          have nc : n'.c = [.int .i64 e.loc, .int .i64 e.w, .int .i64 v.steps.length] := by subst hn'; rfl
          have o0 : Own 3 ((hy.alloc (.cells [] false false)).alloc (.cells n'.c false false)) hy.next 0 [] (.slice (some ⟨hy.next, 0, none⟩) 0 0) :=
            ⟨by simp, .inl ⟨rfl, hy.next, _, _, _, Nat.le_refl _, by simp, by simp; exact ⟨rfl, rfl, rfl⟩, rfl⟩⟩
          have yz : Ext hy ((hy.alloc (.cells [] false false)).alloc (.cells n'.c false false)) := ((Ext.refl hy).alloc _).alloc _
          obtain ⟨w1, hA, a1, a2, a3, a4⟩ := o0.append (bytes := 24) (sby.ext yz) (by omega) (by simp) (by omega)
          simp at a3
          have xA : Ext hy hA := ⟨by omega, fun y hy' => by rw [a4 y (by simp; omega) (fun e => by have := o0.ge e; omega), yz.get y hy']⟩
          have gA : hA.get (hy.next + 1) = .cells n'.c false false := by
            rw [a4 (hy.next + 1) (by simp) (by simp [blkOf])]; simp
          have sn : SlX 3 hA 1 n'.c (.slice (some ⟨hy.next + 1, 0, none⟩) 1 1) := ⟨rfl, .inr ⟨hy.next + 1, 0, none, 1, n'.c, false, false, rfl, .inl rfl, Nat.le_refl _, by omega, gA, by rw [Ent.c_length]; omega, rfl⟩⟩
          obtain ⟨w2, hB, b1, b2, b3, b4⟩ := a2.append (bytes := 24) sn (by omega) (by omega) (by omega)
          have xB : Ext hy hB := ⟨by omega, fun y hy' => by rw [b4 y (by omega) (fun e => by have := a2.ge e; omega), xA.get y hy']⟩
          have gbA := (xA.get b (by omega)).trans gby
          have gbB := (xB.get b (by omega)).trans gby
          have g17A := (xA.get h3.next (by omega)).trans g17y
          have e1 : 0 + v.bufs[t].length + 1 = v.bufs[t].length + 1 := by omega
          rw [e1] at b2
          have b2w : ∀ y, blkOf w2 = some y → b < y ∧ y < hB.next ∧ blkOf sv ≠ some y := fun y hy => by
            have := b2.ge hy
            exact ⟨by omega, this.2, fun e => by have := (hsv y e).2; omega⟩
          have b2x : SlX 3 hB (v.bufs[t] ++ [n']).length ((v.bufs[t] ++ [n']).flatMap Ent.c) w2 := by
            have q := b2.x
            rw [List.length_append, List.flatMap_append]
            simpa using q
          have VB := (Vy.ext xB).setBuf ht o.bufs b2x b2w
          obtain ⟨ua, uc, eu⟩ := b2.x.len
          obtain ⟨c2, hc2⟩ : ∃ c2, c2 = (VM.mk v.mem v.by' v.lcl (bvs.set t w2) sv).c lv iv tv m := ⟨_, rfl⟩
          obtain ⟨lt', gu'⟩ := List.getElem?_eq_some_iff.1 gu
          have ss : splice c (32 + t) [w2] = c2 := by rw [splice_one lt', ← hc, hc2]; exact VM.set_buf vo ht
          rw [← hc2] at VB
          rw [← hn'] at k
          rw [eu] at b1 ss
          rw [nc] at a1 gA
          obtain ⟨ra, rc, er⟩ := sby.len
          rw [er] at a1 gu gu'
          have z3 : ¬ b = hy.next := by omega
          have z4 : ¬ b = hy.next + 1 := by omega
          have z5 : ¬ h3.next = hy.next := by omega
          have z6 : ¬ h3.next = hy.next + 1 := by omega
          subst eQ
          simp -implicitDefEqProofs [g17y, k4, k2, gby, lc, gm', m1]
          unfold c289_28 c289_29 c289_29b
          simp -implicitDefEqProofs [t36, gby, gbA, gbB, g17y, g17A, k2, z3, z4, z5, z6, lc, t4, ht, gu, gu', a1, b1, ss, gA]
          refine Pick_tail2 (bvs0 := bvs) (p := p) (t := t) (s := s) (x := x) g x0 hb0 hb P O VB o.mem o.by' o.lcl (by simp; omega) ht htp hsv (fun t' hv' y hy => ?_) n7 (by simp; omega) ?_ ?_ (fun y hy hne => ?_) (fun t' hv' y hy => ?_) (.inl rfl) ?_
          · rw [List.getElem_set] at hy
            split at hy
            · have := b2.ge hy; omega
            · have := hbv t' (by simpa using hv') y hy; omega
          · rw [AH.put_get, if_neg (by omega), xB.get _ (by omega)]; exact g4y
          · rw [AH.put_get, if_neg (by omega), xB.get _ (by omega)]; exact g7y
          · rw [AH.put_get, if_neg hne, xB.get _ (by omega), yy.get y hy]
          · rw [List.getElem_set] at hy
            split at hy
            · have := b2.ge hy; exact .inr (by omega)
            · exact .inl ⟨by simpa using hv', hy⟩
          · have e' : lclL (⟨v.mem, v.by', v.lcl, v.bufs.set t (v.bufs[t] ++ [n']), v.steps⟩ : Mac) t = l := by unfold lclL; rw [List.getElem?_eq_getElem hl]; exact hll
            rw [e']; exact k
      · have ew : wrM m v t e = v := by
          unfold wrM
          rw [if_neg (by omega), if_neg k2]
        rw [ew] at k
        subst eQ
        unfold c289_28
        simp -implicitDefEqProofs [g17y, k4, k2, gby, lc, gm']
        refine Pick_tail2 (p := p) (t := t) (s := s) (x := x) g x0 hb0 hb P O Vy o.mem o.by' o.lcl (by omega) ht htp hsv (fun t' hv y hy => by have := hbv t' hv y hy; omega) n7 (by omega) g4y g7y (fun y hy hne => yy.get y hy) NewRows.refl (.inr ⟨_, _, _, rfl⟩) ?_
        rw [el0, hll]; exact k
end Go.Jq
namespace Go.Jq
variable {G : Nat → SFunc} {h : AH} {R : Value → AH → Prop}
def rdK (v : Mac) (t : Nat) (loc : Int) (k : Nat) : Int × Int := ((bufL v t).take k).foldl (fun a e => if e.loc = loc then (e.value, e.id) else a) (v.mem[loc.toNat]?.getD 0, v.by'[loc.toNat]?.getD 0)
def inv289 (v : Mac) (t : Nat) (loc : Int) (hz : AH) (b b4 b7 b13 : Nat) (mm : Nat) (F : Fr) (hh : AH) : Prop :=
  ∃ k : Nat, mm = (bufL v t).length - k ∧ k ≤ (bufL v t).length ∧ hh = hz.put b7 (.cells [.int .i64 t, .int .i64 t, .int .i64 0, .int .i64 0, .int .i64 0, .int .i64 0, .int .i64 (rdK v t loc k).2] false false) ∧
    F = [(0, .pointer (some ⟨b, 0, none⟩)), (1, .int .i64 t), (4, .pointer (some ⟨b4, 0, none⟩)), (6, .int .i64 v.steps.length), (7, .pointer (some ⟨b7, 0, none⟩)), (13, .pointer (some ⟨b13, 0, none⟩)), (15, .int .i64 (rdK v t loc k).1), (16, .int .i64 k)]
set_option maxHeartbeats 8000000 in
theorem Pick_thread (g : VmG G) {h0 : AH} {p : Prg} {b t n : Nat} {v : Mac} {lv iv tv sv : Value} {bvs : List Value} {m : Int} {ins : Ins} (x0 : Ext h0 h) (hb0 : h0.next ≤ b) (P : PrgV h0 p lv iv tv) (O : ThOk p) (V : MacW h b v lv iv tv m bvs sv) (S : Sure m v)
    (hn : v.steps.length ≤ 90) (ht : t < 4) (htp : t < p.ths.length) (ok : iOk (plP n) ins) (hn4 : n ≤ 4) (en : nextO p t (lclL v t) = some ins) (hm : mayM p m v t = true)
    (k : PickK h b (pickM p m v t).1 (pickM p m v t).2 lv iv tv m bvs sv R) :
    WC G 289 [.pointer (some ⟨b, 0, none⟩), .int .i64 t] h R := by
  have o := S.ok (by omega)
  have hb := V.hb
  have vo := V.toV.ok o
  have lc := VM.c_len (lv := lv) (iv := iv) (tv := tv) (m := m) vo
  have gm := VM.get_m (lv := lv) (iv := iv) (tv := tv) (m := m) (v := VM.mk v.mem v.by' v.lcl bvs sv)
  have gs := VM.get_steps (lv := lv) (iv := iv) (tv := tv) (m := m) vo
  have tp := VM.take_p (lv := lv) (iv := iv) (tv := tv) (m := m) (v := VM.mk v.mem v.by' v.lcl bvs sv)
  have gl := VM.get_lcl (lv := lv) (iv := iv) (tv := tv) (m := m) vo ht
  have gu := VM.get_buf (lv := lv) (iv := iv) (tv := tv) (m := m) vo ht
  have gb := V.at'
  have xl := ok.loc hn4
  obtain ⟨q, hq⟩ := Int.eq_ofNat_of_zero_le xl.1
  have qlt : q < 4 := by omega
  have q4' : (q : Int) < 4 := by omega
  have gme := VM.get_mem (lv := lv) (iv := iv) (tv := tv) (m := m) vo qlt
  have gby := VM.get_by (lv := lv) (iv := iv) (tv := tv) (m := m) vo qlt
  simp only [] at gs gu gl gme gby
  have hsv : ∀ y, blkOf sv = some y → b < y ∧ y < h.next := fun y hy => V.st.lo' hy
  have hbv : ∀ t' (hv : t' < bvs.length) y, blkOf bvs[t'] = some y → b < y ∧ y < h.next := fun t' hv y hy => by have := V.rb t' hv y hy; exact ⟨this.1, this.2.1⟩
  have t4 : (t : Int) < 4 := by omega
  have hl : t < v.lcl.length := by rw [o.lcl]; exact ht
  have el : lclL v t = v.lcl[t] := by unfold lclL; rw [List.getElem?_eq_getElem hl]; rfl
  have hbl : t < v.bufs.length := by rw [o.bufs]; exact ht
  have hv : t < bvs.length := by rw [V.len]; exact ht
  have eb : bufL v t = v.bufs[t] := by unfold bufL; rw [List.getElem?_eq_getElem hbl]; rfl
  have hbf := S.few _ (List.getElem_mem hbl)
  have le1 : 12 + t * 5 ≤ 32 := by omega
  have le2 : 12 + t * 5 + 5 ≤ 37 := by omega
  have t36 : 32 + t ≤ 36 := by omega
  have elc : (v.lcl[t]).c = [.int .i64 (v.lcl[t]).pc, .int .i64 (v.lcl[t]).r0, .int .i64 (v.lcl[t]).r1, .int .i64 (v.lcl[t]).r2, .int .i64 (v.lcl[t]).r3] := rfl
  rw [elc] at gl
  obtain ⟨sa, sc, esv⟩ := V.st.len
  -- what the read comes to
  have hf := flM_none (m := m) (i := (t : Int)) ⟨by omega, t4⟩
  have ep : ∀ r : Int × Int, (if readsI ins = true then rdM v t ins.loc else (0, -1)) = r → pickM p m v t = (⟨(wrM m v t (evtM ins (lclL v t) r.1)).mem, (wrM m v t (evtM ins (lclL v t) r.1)).by', v.lcl.set t (aftM p.ths[t] (lclL v t) r.1), (wrM m v t (evtM ins (lclL v t) r.1)).bufs, v.steps ++ [⟨t, t, (evtM ins (lclL v t) r.1).kind, (evtM ins (lclL v t) r.1).loc, (evtM ins (lclL v t) r.1).r, (evtM ins (lclL v t) r.1).w, r.2⟩]⟩,
      ⟨t, t, (evtM ins (lclL v t) r.1).kind, (evtM ins (lclL v t) r.1).loc, (evtM ins (lclL v t) r.1).r, (evtM ins (lclL v t) r.1).w, r.2⟩) := by
    intro r hr
    unfold pickM
    rw [hf]
    simp only [Int.toNat_natCast, en, Option.getD_some, hr, List.getElem?_eq_getElem htp]
    rfl
  refine WC_enter g.g289 rfl ?_
  show W G c289_body _ _ (retK [.cellN 4 7, .tmp 5] R)
  unfold c289_body c289_0 c289_1
  simp -implicitDefEqProofs
  have y0 : Ext h (h.alloc (.cells (zi 7) false false)) := (Ext.refl h).alloc _
  refine May_spec g (by simp; omega) (P.ext (x0.trans y0)) (V.ext y0).toV o fun h1 y1 => ?_
  have n1 := y1.next
  simp at n1
  have x01 := y0.trans y1
  have gb1 := (x01.get b hb).trans gb
  have g4 : h1.get h.next = .cells (zi 7) false false := by rw [y1.get _ (by simp)]; simp
  generalize hc : (VM.mk v.mem v.by' v.lcl bvs sv).c lv iv tv m = c at lc gm gs tp gu gl gb gb1 gme gby
  rw [esv] at gs
  obtain ⟨l36, gs'⟩ := List.getElem?_eq_some_iff.1 gs
  unfold c289_3 c289_4 c289_5 c289_6
  simp -implicitDefEqProofs [hm, gb1, lc, gs, gs', zi_7, splice]
  generalize ehx : AH.put _ h1.next _ = hx
  have n2 : hx.next = h1.next + 1 := by subst ehx; simp
  have yx : Ext h1 hx := by subst ehx; exact ((Ext.refl h1).alloc _).put (Nat.le_refl _) _
  have g7 : hx.get h1.next = .cells [.int .i64 t, .int .i64 t, .int .i64 0, .int .i64 0, .int .i64 0, .int .i64 0, .int .i64 (-1)] false false := by subst ehx; simp
  clear ehx
  have gbx := (yx.get b (by omega)).trans gb1
  have g4x := (yx.get h.next (by omega)).trans g4
  refine flushM_spec g gbx gm ?_
  have efv : flV m t = .tuple #[.int .i64 0, .int .i64 0, .bool false] := by unfold flV; rw [hf]
  rw [efv]
  have q1 : ¬ b = hx.next := by omega
  have q2 : ¬ h1.next = hx.next := by omega
  have q3 : ¬ h.next = hx.next := by omega
  unfold c289_14 c289_14b
  simp -implicitDefEqProofs [gbx, lc, tp, gl, t4, ht, le1, le2, q1, AH.put_put]
  have x0x := x01.trans yx
  have z9' : Ext hx (hx.alloc (.cells (zi 9) false false)) := (Ext.refl hx).alloc _
  refine NextO_spec g.toStepG (P.ext ((x0.trans x0x).trans z9')) fun h5 y5 => ?_
  have ew : nextW p t v.lcl[t] = .tuple #[ins.v, .bool true] := by unfold nextW; rw [← el, en]
  rw [ew]
  have n5 := y5.next
  simp at n5
  have x35 := z9'.trans y5
  have gb5 := (x35.get b (by omega)).trans gbx
  have g45 := (x35.get h.next (by omega)).trans g4x
  have g75 := (x35.get h1.next (by omega)).trans g7
  have g13 : h5.get hx.next = .cells (zi 9) false false := by rw [y5.get _ (by simp)]; simp
  rw [zi_9] at g13
  simp -implicitDefEqProofs [gb5, g13, lc, tp, gl, t4, ht, le1, le2, q1, zi_9, Ins.v, Ins.c, splice, AH.put_put]
  generalize ehz : AH.put h5 hx.next _ = hz
  have nz : hz.next = h5.next := by subst ehz; simp
  have yz : Ext hx hz := by subst ehz; exact x35.put (Nat.le_refl _) _
  have g13z : hz.get hx.next = .cells [.int .i64 ins.kind, .int .i64 ins.reg, .int .i64 ins.loc, .int .i64 ins.areg, .int .i64 ins.aval, .int .i64 ins.op, .int .i64 ins.breg, .int .i64 ins.bval, .int .i64 ins.n] false false := by subst ehz; simp
  clear ehz
  have x0z := x0x.trans yz
  have gbz := (x0z.get b (by omega)).trans gb
  have g4z := (yz.get h.next (by omega)).trans g4x
  have g7z := (yz.get h1.next (by omega)).trans g7
  have sbz := (V.ext x0z).rows t ht hbl hv
  have q5 : ¬ b = h1.next := by omega
  have q6 : ¬ hx.next = h1.next := by omega
  unfold c289_15 c289_16
  generalize eQ : wO G _ _ _ _ = Q
  by_cases hr : readsI ins = true
  · have ep := ep (rdM v t ins.loc) (by rw [if_pos hr])
    have k1 : ins.kind = 2 ∨ ins.kind = 4 := by
      unfold readsI at hr
      simpa using hr
    generalize erd : rdM v t ins.loc = r at ep
    have fin : ∀ v16 v162, W G c289_tail [(0, .pointer (some ⟨b, 0, none⟩)), (1, .int .i64 t), (4, .pointer (some ⟨h.next, 0, none⟩)), (6, .int .i64 v.steps.length), (7, .pointer (some ⟨h1.next, 0, none⟩)), (13, .pointer (some ⟨hx.next, 0, none⟩)), (15, .int .i64 r.1), (16, v16), (162, v162)]
        (hz.put h1.next (.cells [.int .i64 t, .int .i64 t, .int .i64 0, .int .i64 0, .int .i64 0, .int .i64 0, .int .i64 r.2] false false)) (retK [.cellN 4 7, .tmp 5] R) := by
      intro v16 v162
      refine Pick_tail (p := p) (t := t) (n := n) (ins := ins) (x := r.1) (from' := r.2) g x0 hb0 P O V S hn ht htp ok hn4 (x0z.put (i := h1.next) (by omega) _) (by omega) (by omega) (by simp; omega) ?_ (by simp) ?_ (.inr ⟨_, _, rfl⟩) ?_
      · rw [AH.put_get, if_neg (by omega)]; exact g4z
      · rw [AH.put_get, if_neg q6]; exact g13z
      · rw [ep] at k
        exact k
    have mlt : q < v.mem.length := by rw [o.mem]; exact qlt
    have blt : q < v.by'.length := by rw [o.by']; exact qlt
    have e0 : rdK v t ins.loc 0 = (v.mem[q], v.by'[q]) := by
      unfold rdK
      rw [hq, Int.toNat_natCast, List.getElem?_eq_getElem mlt, List.getElem?_eq_getElem blt]
      simp
    have loop : W G (.block 0 (.loop [0, 1, 4, 6, 7, 13, 15, 16] c289_23)) [(0, .pointer (some ⟨b, 0, none⟩)), (1, .int .i64 t), (4, .pointer (some ⟨h.next, 0, none⟩)), (6, .int .i64 v.steps.length), (7, .pointer (some ⟨h1.next, 0, none⟩)), (13, .pointer (some ⟨hx.next, 0, none⟩)), (15, .int .i64 v.mem[q]), (16, .int .i64 0)]
        (hz.put h1.next (.cells [.int .i64 t, .int .i64 t, .int .i64 0, .int .i64 0, .int .i64 0, .int .i64 0, .int .i64 v.by'[q]] false false)) (thenK (W G c289_tail) (retK [.cellN 4 7, .tmp 5] R)) := by
      simp -implicitDefEqProofs only [W_block]
      refine W_loop (inv289 v t ins.loc hz b h.next h1.next hx.next) (bufL v t).length ⟨0, rfl, by omega, by rw [e0], by rw [e0]; rfl⟩ ?_
      rintro mm F hh ⟨j, rfl, hj, rfl, rfl⟩
      rw [eb] at hj ⊢
      unfold c289_23 c289_19 c289_20
      have q7 : ¬ b = h1.next := by omega
      by_cases h1' : j < v.bufs[t].length
      · obtain ⟨rb, ro, rsp, rc, rc0, rg, rro, ebv, rlt, rget, rle, rrow, rj⟩ := SlV.row Ent.c_length sbz.view h1'
        have rb' := hbv t hv rb (by rw [ebv]; rfl)
        have gu1 := gu
        rw [ebv] at gu1
        obtain ⟨lt', gu'⟩ := List.getElem?_eq_some_iff.1 gu1
        have q8 : ¬ rb = h1.next := by omega
        have hw : IntKind.i64.wrap ((j : Int) + 1) = ((j + 1 : Nat) : Int) := by rw [wrap64 (by omega)]; rfl
        have es : rdK v t ins.loc (j + 1) = if v.bufs[t][j].loc = ins.loc then (v.bufs[t][j].value, v.bufs[t][j].id) else rdK v t ins.loc j := by
          unfold rdK
          rw [eb, List.take_succ_eq_append_getElem h1', List.foldl_append]
          rfl
        have r0 := rj 0 (by omega)
        have r1 := rj 1 (by omega)
        have r2 := rj 2 (by omega)
        simp [Ent.c] at r0 r1 r2
        generalize v.bufs[t][j] = e at es r0 r1 r2
        generalize eQ2 : loopK _ _ = Q2
        by_cases he : e.loc = ins.loc
        · rw [if_pos he] at es
          simp -implicitDefEqProofs [gbz, g13z, lc, t4, ht, gu1, gu', q5, q6, q8, h1', rget, r0, he]
          unfold c289_21 c289_21b
          simp -implicitDefEqProofs [gbz, g13z, lc, t4, ht, gu1, gu', q5, q6, q8, h1', rget, r0, r1, r2, he, AH.put_put]
          unfold c289_22
          simp -implicitDefEqProofs [hw]
          subst eQ2
          simp -implicitDefEqProofs only [loopK_n]
          exact ⟨v.bufs[t].length - (j + 1), by omega, j + 1, by rw [eb], by rw [eb]; exact h1', by rw [es], by rw [es]; rfl⟩
        · rw [if_neg he] at es
          simp -implicitDefEqProofs [gbz, g13z, lc, t4, ht, gu1, gu', q5, q6, q8, h1', rget, r0, he]
          unfold c289_22
          simp -implicitDefEqProofs [hw]
          subst eQ2
          simp -implicitDefEqProofs only [loopK_n]
          exact ⟨v.bufs[t].length - (j + 1), by omega, j + 1, by rw [eb], by rw [eb]; exact h1', by rw [es], by rw [es]; rfl⟩
      · have ej : j = v.bufs[t].length := by omega
        have er : rdK v t ins.loc j = r := by
          rw [← erd, ej, ← eb]
          unfold rdK rdM
          rw [List.take_length]
        rw [er]
        obtain ⟨ra, rc, ebv⟩ := sbz.len
        have gu1 := gu
        rw [ebv] at gu1
        obtain ⟨lt', gu'⟩ := List.getElem?_eq_some_iff.1 gu1
        have fin := fin (.int .i64 j) (.bool false)
        generalize eQ2 : loopK _ _ = Q2
        simp -implicitDefEqProofs [gbz, lc, t4, ht, gu1, gu', q5, h1']
        subst eQ2
        simp -implicitDefEqProofs only [loopK_e, blockK_e, if_pos, thenK_n]
        exact fin
    have q36 : 4 + q < 37 := by omega
    have q36' : 8 + q < 37 := by omega
    obtain ⟨lm', gme'⟩ := List.getElem?_eq_some_iff.1 gme
    obtain ⟨lb', gby'⟩ := List.getElem?_eq_some_iff.1 gby
    simp -implicitDefEqProofs only [W_block] at loop
    subst eQ
    rcases k1 with k1 | k1
    all_goals
      simp -implicitDefEqProofs [g13z, k1]
      unfold c289_17 c289_17b c289_18
      simp -implicitDefEqProofs [gbz, g7z, g13z, lc, hq, qlt, q4', gme, gme', gby, gby', lm', lb', q5, q6, q36, q36', AH.put_put]
      exact loop
  · have ep := ep (0, -1) (by rw [if_neg hr])
    have k1 : ¬ ins.kind = 2 ∧ ¬ ins.kind = 4 := by
      unfold readsI at hr
      simp at hr
      exact hr
    have fin : W G c289_tail [(0, .pointer (some ⟨b, 0, none⟩)), (1, .int .i64 t), (4, .pointer (some ⟨h.next, 0, none⟩)), (6, .int .i64 v.steps.length), (7, .pointer (some ⟨h1.next, 0, none⟩)), (13, .pointer (some ⟨hx.next, 0, none⟩)), (15, .int .i64 0), (138, .bool false)] hz (retK [.cellN 4 7, .tmp 5] R) := by
      refine Pick_tail (p := p) (t := t) (n := n) (ins := ins) (x := 0) (from' := -1) g x0 hb0 P O V S hn ht htp ok hn4 x0z (by omega) (by omega) (by omega) g4z g7z g13z (.inl ⟨_, rfl⟩) ?_
      rw [ep] at k
      exact k
    subst eQ
    simp -implicitDefEqProofs [g13z, k1.1, k1.2]
    exact fin
end Go.Jq
namespace Go.Jq
variable {G : Nat → SFunc} {h : AH} {R : Value → AH → Prop}
theorem Pick_spec (g : VmG G) {h0 : AH} {p : Prg} {b : Nat} {v : Mac} {lv iv tv sv : Value} {bvs : List Value} {m i : Int} (x0 : Ext h0 h) (hb0 : h0.next ≤ b) (P : PrgV h0 p lv iv tv) (O : ThOk p) (hp : p.locs.length ≤ 4) (V : MacW h b v lv iv tv m bvs sv) (S : Sure m v)
    (hn : v.steps.length ≤ 90) (hm : mayM p m v i = true) (k : PickK h b (pickM p m v i).1 (pickM p m v i).2 lv iv tv m bvs sv R) :
    WC G 289 [.pointer (some ⟨b, 0, none⟩), .int .i64 i] h R := by
  by_cases hi : 0 ≤ i ∧ i < 4
  · obtain ⟨t, rfl⟩ := Int.eq_ofNat_of_zero_le hi.1
    have hm0 := hm
    unfold mayM at hm
    rw [if_pos hi, Int.toNat_natCast] at hm
    unfold mayT at hm
    cases ex : nextO p t (lclL v t) with
    | none => rw [ex] at hm; simp at hm
    | some x =>
      have ex' := ex
      unfold nextO at ex
      split at ex
      · rename_i h1
        exact Pick_thread g x0 hb0 P O V S hn (by omega) h1 ((O.ok _ (List.getElem_mem h1)).1.ok x (nextM_mem ex).1) hp ex' hm0 k
      · simp at ex
  · have hm0 := hm
    unfold mayM at hm
    rw [if_neg hi] at hm
    cases ef : flM m i with
    | none => rw [ef] at hm; simp at hm
    | some x => exact Pick_flush g x0 hb0 P V S (by omega) ef hm0 k
def runM (p : Prg) (m : Int) : Mac → List Int → Mac
  | v, [] => v
  | v, i :: l => runM p m (pickM p m v i).1 l
def legal (p : Prg) (m : Int) : Mac → List Int → Prop
  | _, [] => True
  | v, i :: l => mayM p m v i = true ∧ legal p m (pickM p m v i).1 l
theorem runM_app {p : Prg} {m : Int} {v : Mac} {l r : List Int} : runM p m v (l ++ r) = runM p m (runM p m v l) r := by
  induction l generalizing v with
  | nil => rfl
  | cons a l ih => exact ih
theorem legal_app {p : Prg} {m : Int} {v : Mac} {l r : List Int} : legal p m v (l ++ r) ↔ legal p m v l ∧ legal p m (runM p m v l) r := by
  induction l generalizing v with
  | nil => simp [legal, runM]
  | cons a l ih => simp [legal, runM, ih, and_assoc]
theorem runM_snoc {p : Prg} {m : Int} {v : Mac} {l : List Int} {i : Int} : runM p m v (l ++ [i]) = (pickM p m (runM p m v l) i).1 := by
  rw [runM_app]; rfl
theorem legal_snoc {p : Prg} {m : Int} {v : Mac} {l : List Int} {i : Int} : legal p m v (l ++ [i]) ↔ legal p m v l ∧ mayM p m (runM p m v l) i = true := by
  rw [legal_app]; simp [legal]
theorem runM_len {p : Prg} {m : Int} {v : Mac} {l : List Int} : (runM p m v l).steps.length = v.steps.length + l.length := by
  induction l generalizing v with
  | nil => rfl
  | cons a l ih =>
    show (runM p m (pickM p m v a).1 l).steps.length = _
    rw [ih, pickM_len, List.length_append, List.length_cons]
    simp; omega
theorem Sure.run {p : Prg} {m : Int} {v : Mac} {l : List Int} (O : ThOk p) (hp : p.locs.length ≤ 4) (S : Sure m v) (hn : v.steps.length + l.length ≤ 101) (hl : legal p m v l) : Sure m (runM p m v l) := by
  induction l generalizing v with
  | nil => exact S
  | cons a l ih =>
    simp at hn
    exact ih (S.pick O hp (by omega) hl.1) (by rw [pickM_len]; simp; omega) hl.2
theorem MacV.w {b : Nat} {p : Prg} {lv iv tv : Value} {m : Int} (V : MacV h b (newMac p) lv iv tv m [.slice none 0 0, .slice none 0 0, .slice none 0 0, .slice none 0 0] (.slice none 0 0)) (hb : b < h.next) :
    MacW h b (newMac p) lv iv tv m [.slice none 0 0, .slice none 0 0, .slice none 0 0, .slice none 0 0] (.slice none 0 0) := by
  refine ⟨V.at', hb, rfl, fun t ht hb hv => ?_, SlG.nil, fun t hv y hy => ?_⟩
  · match t, ht with
    | 0, _ => exact SlX.nil
    | 1, _ => exact SlX.nil
    | 2, _ => exact SlX.nil
    | 3, _ => exact SlX.nil
  · match t, hv with
    | 0, _ => simp [blkOf] at hy
    | 1, _ => simp [blkOf] at hy
    | 2, _ => simp [blkOf] at hy
    | 3, _ => simp [blkOf] at hy
end Go.Jq
namespace Go.Jq
variable {G : Nat → SFunc} {h : AH} {R : Value → AH → Prop}
structure PgOk (p : Prg) : Prop extends ThOk p where
  locs : p.locs.length ≤ 4
  init : p.init.length ≤ 4
  ths : p.ths.length ≤ 4
def inv286 (h : AH) (p : Prg) (m : Int) (l : List Int) (lv iv tv u : Value) (b : Nat) (mm : Nat) (F : Fr) (hh : AH) : Prop :=
  ∃ (j : Nat) (bvs : List Value) (sv : Value), mm = l.length - j ∧ j ≤ l.length ∧ Ext h hh ∧ MacW hh b (runM p m (newMac p) (l.take j)) lv iv tv m bvs sv ∧ F = [(2, u), (8, .pointer (some ⟨b, 0, none⟩)), (9, .int .i64 j)]
set_option maxHeartbeats 2000000 in
theorem Run_spec (g : VmG G) {p : Prg} {lv iv tv u : Value} {m : Int} {l : List Int} (P : PrgV h p lv iv tv) (O : PgOk p) (s : SlV 1 h l.length (l.flatMap intC) u) (hl : l.length ≤ 90) (lg : legal p m (newMac p) l)
    (k : ∀ h1 b bvs sv, Ext h h1 → h.next ≤ b → MacW h1 b (runM p m (newMac p) l) lv iv tv m bvs sv → R (.tuple #[.pointer (some ⟨b, 0, none⟩), .int .i64 l.length]) h1) :
    WC G 286 [.agg #[lv, iv, tv], .int .i64 m, u] h R := by
  refine WC_enter g.g286 rfl ?_
  show W G c286_body _ _ (retK [.tmp 6, .tmp 7] R)
  unfold c286_body c286_0 c286_1 c286_2
  have x0 : ∀ c, Ext h (h.alloc c) := fun c => (Ext.refl h).alloc c
  simp -implicitDefEqProofs
  refine New_spec g (P.ext (x0 _)) O.toThOk O.init O.ths fun h1 b y1 b1 b2 V => ?_
  simp at b1
  have n1 := y1.next
  simp at n1
  have x1 := (x0 _).trans y1
  simp -implicitDefEqProofs
  refine W_loop (inv286 h p m l lv iv tv u b) l.length ⟨0, _, _, rfl, by omega, x1, V.w b2, rfl⟩ ?_
  rintro mm F hh ⟨j, bvs, sv, rfl, hj, x, W', rfl⟩
  have su := s.ext x
  obtain ⟨ua, uc, eu⟩ := su.len
  unfold c286_8 c286_3
  by_cases h1' : j < l.length
  · obtain ⟨rb, ro, rsp, rc, rc0, rg, rro, ebv, rlt, rget, rle, rrow, rj⟩ := SlV.row intC_length su h1'
    have r0 := rj 0 (by omega)
    simp [intC] at r0
    have lt : l.take j ++ [l[j]] = l.take (j + 1) := (List.take_succ_eq_append_getElem h1').symm
    have lg2 : legal p m (newMac p) (l.take (j + 1)) := by
      have : legal p m (newMac p) (l.take (j + 1) ++ l.drop (j + 1)) := by rw [List.take_append_drop]; exact lg
      exact (legal_app.1 this).1
    rw [← lt, legal_snoc] at lg2
    have S : Sure m (runM p m (newMac p) (l.take j)) := Sure.new.run O.toThOk O.locs (by simp [newMac]; omega) lg2.1
    have hw : IntKind.i64.wrap ((j : Int) + 1) = ((j + 1 : Nat) : Int) := by rw [wrap64 (by omega)]; rfl
    unfold c286_4
    simp -implicitDefEqProofs [ebv, h1', rget, r0]
    refine Pick_spec g x (by omega) P O.toThOk O.locs W' S (by rw [runM_len]; simp [newMac]; omega) lg2.2 fun h2 bvs' sv' as W2 f2 _ => ?_
    have x2 := as.below x (by omega) fun y hy => (W'.st.lo' hy).1
    simp -implicitDefEqProofs [Stp.v, Stp.c, zi_7, splice]
    unfold c286_5 c286_7
    simp -implicitDefEqProofs [hw]
    have W3 := W2.ext ((Ext.refl h2).alloc (.cells (zi 7) false false))
    refine ⟨l.length - (j + 1), by omega, j + 1, bvs', sv', rfl, h1', (x2.alloc _).put (i := h2.next) (by have := x2.next; omega) _, ?_, rfl⟩
    rw [← lt, runM_snoc]
    exact W2.ext (((Ext.refl h2).alloc _).put (Nat.le_refl _) _)
  · have ej : j = l.length := by omega
    subst ej
    rw [List.take_length] at W'
    unfold c286_9
    simp -implicitDefEqProofs [eu]
    exact k hh b bvs sv x (by omega) W'
end Go.Jq
namespace Go.Jq
variable {G : Nat → SFunc} {h : AH} {R : Value → AH → Prop}
def Apart (b : Nat) (bvs : List Value) (sv u : Value) : Prop := ∀ y, blkOf u = some y → y ≠ b ∧ blkOf sv ≠ some y ∧ ∀ (t : Nat) (hv : t < bvs.length), blkOf bvs[t] ≠ some y
def inv287 (h : AH) (p : Prg) (m : Int) (lv iv tv up : Value) (b : Nat) (mm : Nat) (F : Fr) (hh : AH) : Prop :=
  ∃ (out : List Int) (bvs : List Value) (sv u : Value), mm = 60 - out.length ∧ out.length ≤ 60 ∧ Ext h hh ∧ legal p m (newMac p) out ∧ MacW hh b (runM p m (newMac p) out) lv iv tv m bvs sv ∧ SlG 1 hh h.next out.length (out.flatMap intC) u ∧ Apart b bvs sv u ∧
    F = [(2, up), (7, .pointer (some ⟨b, 0, none⟩)), (8, u), (9, .int .i64 out.length)]
theorem enM_mem {p : Prg} {m : Int} {v : Mac} {n : Nat} {i : Int} (h : i ∈ enM p m v n) : mayM p m v i = true := by
  unfold enM at h
  rw [List.mem_map] at h
  obtain ⟨a, h1, rfl⟩ := h
  exact (List.mem_filter.1 h1).2
theorem SlG.same {k lo n : Nat} {h h1 : AH} {cs : List Value} {v : Value} (s : SlG k h lo n cs v) (hn : h.next ≤ h1.next) (hg : ∀ b, blkOf v = some b → h1.get b = h.get b) : SlG k h1 lo n cs v := by
  refine ⟨s.1, ?_⟩
  rcases s.2 with q | ⟨b, q1, q2, q3, q4⟩
  · exact .inl q
  · exact .inr ⟨b, q1, Nat.lt_of_lt_of_le q2 hn, by rw [hg b (by rw [q4]; rfl)]; exact q3, q4⟩
set_option maxHeartbeats 4000000 in
theorem Any_spec (g : VmG G) {p : Prg} {lv iv tv up : Value} {m : Int} {l : List Int} (P : PrgV h p lv iv tv) (O : PgOk p) (s : SlV 1 h l.length (l.flatMap intC) up)
    (k : ∀ h1 out u, Ext h h1 → legal p m (newMac p) out → out.length ≤ 60 → (enM p m (runM p m (newMac p) out) 24 = [] ∨ out.length = 60) → SlG 1 h1 h.next out.length (out.flatMap intC) u → R u h1) :
    WC G 287 [.agg #[lv, iv, tv], .int .i64 m, up] h R := by
  refine WC_enter g.g287 rfl ?_
  show W G c287_body _ _ (retK [.tmp 6] R)
  unfold c287_body c287_0 c287_1 c287_2 c287_3
  have x0 : ∀ c, Ext h (h.alloc c) := fun c => (Ext.refl h).alloc c
  simp -implicitDefEqProofs
  refine New_spec g (P.ext (x0 _)) O.toThOk O.init O.ths fun h1 b y1 b1 b2 V => ?_
  simp at b1
  have n1 := y1.next
  simp at n1
  have x1 := (x0 _).trans y1
  simp -implicitDefEqProofs
  refine W_loop (inv287 h p m lv iv tv up b) 60 ⟨[], _, _, .slice none 0 0, rfl, by simp, x1, trivial, V.w b2, SlG.nil, fun y hy => by simp [blkOf] at hy, rfl⟩ ?_
  rintro mm F hh ⟨out, bvs, sv, u, rfl, hj, x, lg, W', su, ap, rfl⟩
  have sp := s.ext x
  have S : Sure m (runM p m (newMac p) out) := Sure.new.run O.toThOk O.locs (by simp [newMac]; omega) lg
  have hsl : (runM p m (newMac p) out).steps.length = out.length := by rw [runM_len]; simp [newMac]
  have hn := x.next
  have hb := W'.hb
  unfold c287_14 c287_4 c287_5
  by_cases h1' : out.length < 60
  · have h1'' : (out.length : Int) < 60 := by omega
    simp -implicitDefEqProofs [h1', h1'']
    refine Enabled_spec g hb (P.ext x) W'.toV (S.ok (by omega)) fun h2 ux x2 sx => ?_
    have n2 := x2.next
    have W2 := W'.ext x2
    have su2 := su.ext x2
    unfold c287_6
    obtain ⟨xa, xc, ex⟩ := sx.len
    by_cases he : (enM p m (runM p m (newMac p) out) 24).length = 0
    · unfold c287_7
      simp -implicitDefEqProofs [ex, he]
      exact k h2 out u (x.trans x2) lg (by omega) (.inl (List.eq_nil_of_length_eq_zero he)) su2
    · have hel := enM_len (p := p) (m := m) (v := runM p m (newMac p) out) (k := 24)
      have emem : ∀ i (hi : i < (enM p m (runM p m (newMac p) out) 24).length), mayM p m (runM p m (newMac p) out) (enM p m (runM p m (newMac p) out) 24)[i] = true := fun i hi => enM_mem (List.getElem_mem hi)
      have hL : (0 : Int) < ((enM p m (runM p m (newMac p) out) 24).length : Int) := by omega
      have hL0 : ¬ ((enM p m (runM p m (newMac p) out) 24).length : Int) = 0 := by omega
      have sxv := sx.view
      have hkv : ∃ kv : Int, 0 ≤ kv ∧ kv = (if h : out.length < l.length then iand .i64 l[out.length] 65535 else (out.length : Int) * 3) := by
        refine ⟨_, ?_, rfl⟩
        split
        · exact (iand_bound (by omega) (by omega)).1
        · omega
      obtain ⟨kv, kv0, ekv⟩ := hkv
      obtain ⟨d, hd⟩ := Int.eq_ofNat_of_zero_le (Int.tmod_nonneg ((enM p m (runM p m (newMac p) out) 24).length : Int) kv0)
      have hdl : d < (enM p m (runM p m (newMac p) out) 24).length := by have := Int.tmod_lt_of_pos kv hL; omega
      have hmay := emem d hdl
      obtain ⟨rb, ro, rsp, rc, rc0, rg, rro, ebv, rlt, rget, rle, rrow, rj⟩ := SlV.row intC_length sxv hdl
      have r0 := rj 0 (by omega)
      simp [intC] at r0
      have hux : ∀ y, blkOf ux = some y → hh.next ≤ y := fun y hy => (sx.lo' hy).1
      have hrb : hh.next ≤ rb := hux rb (by rw [ebv]; rfl)
      have sx0 := sx
      clear sxv sx
      generalize eE : enM p m (runM p m (newMac p) out) 24 = E at *
      generalize E[d] = pk at r0 hmay rrow rj
      have hw3 : IntKind.i64.wrap ((out.length : Int) * 3) = (out.length : Int) * 3 := wrap64 (by omega)
      by_cases hp : out.length < l.length
      · rw [dif_pos hp] at ekv
        obtain ⟨sb, so, ssp, scc, sc0, sg, sro, esp, slt, sget, sle, srow, sj⟩ := SlV.row intC_length (sp.ext x2) hp
        have s0 := sj 0 (by omega)
        simp [intC] at s0
        unfold c287_8 c287_9 c287_10 c287_11
        simp -implicitDefEqProofs [ebv, he, hL0, hw3, hp, esp, sget, s0, ← ekv, hd, hdl, rget, r0]
        refine Pick_spec g (x.trans x2) (by omega) P O.toThOk O.locs W2 S (by omega) hmay fun h3 bvs' sv' as W3 f3 nr => ?_
        have n3 := as.next
        have x3 := as.below (x.trans x2) (by omega) fun y hy => (W'.st.lo' hy).1
        have hsv : ∀ y, blkOf sv = some y → y < hh.next := fun y hy => (W'.st.lo' hy).2
        have rget3 : h3.get rb = .cells rc0 rg rro := (as.get rb rlt (by omega) fun e => by have := hsv rb e; omega).trans rget
        have su3 : SlG 1 h3 h.next out.length (out.flatMap intC) u := su2.same n3 fun y hy => as.get y (su2.lo' hy).2 (ap y hy).1 (ap y hy).2.1
        have ap3 : Apart b bvs' sv' u := fun y hy => ⟨(ap y hy).1, fun e => by have := f3 y e; have := (su2.lo' hy).2; omega, fun t hv e => by
          rcases nr t hv y e with ⟨hv0, e0⟩ | e0
          · exact (ap y hy).2.2 t hv0 e0
          · have := (su2.lo' hy).2; omega⟩
        have q1 : ¬ rb = h3.next := by omega
        unfold c287_12
        simp -implicitDefEqProofs [he, hL0, hd, hdl, rget3, r0, q1]
        refine su3.app4 (ec := [.int .i64 pk]) rfl (by omega) (by omega) fun u' h4 s4 n4 f4 a4 => ?_
        have W4 : MacW h4 b _ lv iv tv m bvs' sv' := W3.frame n4 fun y hy hc => f4 y hy fun e => by
          have := ap3 y e
          rcases hc with hc | hc | ⟨t, hv, hc⟩
          · exact this.1 hc
          · exact this.2.1 hc
          · exact this.2.2 t hv hc
        have x4 : Ext h h4 := ⟨by omega, fun y hy => by
          have n3' := x3.next
          rw [f4 y (by omega) fun e => by have := (su3.lo' e).1; omega, x3.get y hy]⟩
        have hw : IntKind.i64.wrap ((out.length : Int) + 1) = ((out.length + 1 : Nat) : Int) := by rw [wrap64 (by omega)]; rfl
        unfold c287_13
        simp -implicitDefEqProofs [hw]
        refine ⟨60 - (out.length + 1), by omega, out ++ [pk], bvs', sv', u', by simp, by simp; omega, x4, legal_snoc.2 ⟨lg, hmay⟩, ?_, ?_, fun y hy => ?_, ?_⟩
        · rw [runM_snoc]; exact W4
        · rw [List.length_append, List.flatMap_append]
          simpa [intC] using s4
        · have y3 := a4 y hy
          refine ⟨by have := W3.hb; omega, fun e => by have := (W3.st.lo' e).2; omega, fun t hv e => by have := (W3.rb t hv y e).2.1; omega⟩
        · simp
      · rw [dif_neg hp] at ekv
        obtain ⟨ua, uc, eup⟩ := sp.len
        unfold c287_8 c287_9 c287_11
        have hw3 : IntKind.i64.wrap ((out.length : Int) * 3) = kv := by rw [ekv]; exact hw3
        simp -implicitDefEqProofs [ebv, he, hL0, hw3, hp, eup, hd, hdl, rget, r0]
        refine Pick_spec g (x.trans x2) (by omega) P O.toThOk O.locs W2 S (by omega) hmay fun h3 bvs' sv' as W3 f3 nr => ?_
        have n3 := as.next
        have x3 := as.below (x.trans x2) (by omega) fun y hy => (W'.st.lo' hy).1
        have hsv : ∀ y, blkOf sv = some y → y < hh.next := fun y hy => (W'.st.lo' hy).2
        have rget3 : h3.get rb = .cells rc0 rg rro := (as.get rb rlt (by omega) fun e => by have := hsv rb e; omega).trans rget
        have su3 : SlG 1 h3 h.next out.length (out.flatMap intC) u := su2.same n3 fun y hy => as.get y (su2.lo' hy).2 (ap y hy).1 (ap y hy).2.1
        have ap3 : Apart b bvs' sv' u := fun y hy => ⟨(ap y hy).1, fun e => by have := f3 y e; have := (su2.lo' hy).2; omega, fun t hv e => by
          rcases nr t hv y e with ⟨hv0, e0⟩ | e0
          · exact (ap y hy).2.2 t hv0 e0
          · have := (su2.lo' hy).2; omega⟩
        have q1 : ¬ rb = h3.next := by omega
        unfold c287_12
        simp -implicitDefEqProofs [he, hL0, hd, hdl, rget3, r0, q1]
        refine su3.app4 (ec := [.int .i64 pk]) rfl (by omega) (by omega) fun u' h4 s4 n4 f4 a4 => ?_
        have W4 : MacW h4 b _ lv iv tv m bvs' sv' := W3.frame n4 fun y hy hc => f4 y hy fun e => by
          have := ap3 y e
          rcases hc with hc | hc | ⟨t, hv, hc⟩
          · exact this.1 hc
          · exact this.2.1 hc
          · exact this.2.2 t hv hc
        have x4 : Ext h h4 := ⟨by omega, fun y hy => by
          have n3' := x3.next
          rw [f4 y (by omega) fun e => by have := (su3.lo' e).1; omega, x3.get y hy]⟩
        have hw : IntKind.i64.wrap ((out.length : Int) + 1) = ((out.length + 1 : Nat) : Int) := by rw [wrap64 (by omega)]; rfl
        unfold c287_13
        simp -implicitDefEqProofs [hw]
        refine ⟨60 - (out.length + 1), by omega, out ++ [pk], bvs', sv', u', by simp, by simp; omega, x4, legal_snoc.2 ⟨lg, hmay⟩, ?_, ?_, fun y hy => ?_, ?_⟩
        · rw [runM_snoc]; exact W4
        · rw [List.length_append, List.flatMap_append]
          simpa [intC] using s4
        · have y3 := a4 y hy
          refine ⟨by have := W3.hb; omega, fun e => by have := (W3.st.lo' e).2; omega, fun t hv e => by have := (W3.rb t hv y e).2.1; omega⟩
        · simp
  · have ej : out.length = 60 := by omega
    unfold c287_15
    simp -implicitDefEqProofs [ej]
    exact k hh out u x lg (by omega) (.inr ej) su
end Go.Jq
namespace Go.Jq
variable {G : Nat → SFunc} {h : AH} {R : Value → AH → Prop}
structure OwnG (G : Nat → SFunc) : Prop where
  vm : VmG G
  comp : CompG G
  hb : HBG G
  g30 : G 30 = c30
  g285 : G 285 = c285
theorem PrgOk.pg {most : Nat} {p : Prg} (o : PrgOk most p) : PgOk p := ⟨⟨o.ok⟩, by have := o.locs_len; omega, by have := o.locs_len; have := o.init; omega, by have := o.ths; omega⟩
theorem cellsEq_refl {l : List Value} (h : ∀ x ∈ l, ∃ k n, x = .int k n) : cellsEq (List.replicate l.length 0) l l = some true := by
  induction l with
  | nil => rfl
  | cons a l ih =>
    obtain ⟨k, n, rfl⟩ := h a List.mem_cons_self
    rw [List.length_cons, List.replicate_succ]
    unfold cellsEq
    rw [ih fun x hx => h x (List.mem_cons_of_mem _ hx)]
    simp [cellEq]
theorem relC_ints {n : Nat} {r : Nat → Nat} : ∀ x ∈ relC n r, ∃ k n, x = .int k n := by
  intro x hx
  unfold relC at hx
  rcases List.mem_cons.1 hx with rfl | hx
  · exact ⟨_, _, rfl⟩
  · unfold rowC at hx
    rw [List.mem_map] at hx
    obtain ⟨i, _, rfl⟩ := hx
    exact ⟨_, _, rfl⟩
theorem relC_eq {n : Nat} {r : Nat → Nat} : cellsEq (zk 65) (relC n r) (relC n r) = some true := by
  have := cellsEq_refl (relC_ints (n := n) (r := r))
  rw [relC_length] at this
  exact this
def inv285a (h : AH) (sv : Value) (b : Nat) (n : Nat) (r : Nat → Nat) (mm : Nat) (F : Fr) (hh : AH) : Prop :=
  ∃ i : Nat, mm = n - i ∧ i ≤ n ∧ Ext h hh ∧ F = [(10, sv), (11, .pointer (some ⟨b, 0, none⟩)), (12, .int .i64 i)]
def inv285b (h : AH) (sv : Value) (b : Nat) (n : Nat) (i : Nat) (mm : Nat) (F : Fr) (hh : AH) : Prop :=
  ∃ k : Nat, mm = n - k ∧ k ≤ n ∧ Ext h hh ∧ F = [(10, sv), (11, .pointer (some ⟨b, 0, none⟩)), (12, .int .i64 i), (13, .int .i64 k)]
set_option maxRecDepth 20000 in
set_option maxHeartbeats 8000000 in
theorem TraceOwn_spec (g : OwnG G) (aw : ∀ (h : AH) (R : Value → AH → Prop), (∀ h1, Ext h h1 → R (.bool true) h1) → WC G 269 [] h R) {lv up : Value} {l pk : List Int} {m0 : Int} (s : SlV 1 h l.length (l.flatMap intC) lv) (hl : l.length ≤ 9223372036854775807) (sp : SlV 1 h pk.length (pk.flatMap intC) up)
    (k : ∀ h1, Ext h h1 → R (.bool true) h1) : WC G 285 [lv, .int .i64 m0, up] h R := by
  refine WC_enter g.g285 rfl ?_
  show W G c285_body _ _ (retK [.tmp 6] R)
  unfold c285_body c285_0 c285_1
  simp -implicitDefEqProofs
  refine Of_spec (most := 10) g.comp (by omega) s hl fun h1 p plv piv ptv x1 P O => ?_
  have n1 := x1.next
  have O' := O.pg
  unfold c285_2
  simp -implicitDefEqProofs
  generalize IntKind.i64.wrap ((iand .i64 m0 255).tmod 3 + 1) = m
  generalize ehx : AH.put _ h1.next _ = hx
  have nx : hx.next = h1.next + 1 := by subst ehx; simp
  have yx : Ext h1 hx := by subst ehx; exact ((Ext.refl h1).alloc _).put (Nat.le_refl _) _
  have g7 : hx.get h1.next = .cells [plv, piv, ptv] false false := by subst ehx; simp [splice]
  clear ehx
  have xx := x1.trans yx
  have Px := P.ext yx
  unfold c285_3 c285_3b
  simp -implicitDefEqProofs [g7]
  refine Any_spec g.vm Px O' (sp.ext xx) fun h2 out u x2 lg ho _ su => ?_
  have n2 := x2.next
  have g72 := (x2.get h1.next (by omega)).trans g7
  simp -implicitDefEqProofs [g7, g72]
  refine Run_spec g.vm (Px.ext x2) O' su.view (by omega) lg fun h3 b bvs sv x3 hb W3 => ?_
  have n3 := x3.next
  have g73 := (x3.get h1.next (by omega)).trans g72
  have S : Sure m (runM p m (newMac p) out) := Sure.new.run O'.toThOk O'.locs (by simp [newMac]; omega) lg
  have hsl : (runM p m (newMac p) out).steps.length = out.length := by rw [runM_len]; simp [newMac]
  have vo := W3.toV.ok (S.ok (by omega))
  have lc := VM.c_len (lv := plv) (iv := piv) (tv := ptv) (m := m) vo
  have gs := VM.get_steps (lv := plv) (iv := piv) (tv := ptv) (m := m) vo
  have gb := W3.at'
  have st := W3.st
  simp only [] at gs
  generalize (VM.mk _ _ _ _ _).c plv piv ptv m = c at lc gs gb
  obtain ⟨l36, gs'⟩ := List.getElem?_eq_some_iff.1 gs
  generalize runM p m (newMac p) out = v at *
  simp -implicitDefEqProofs [g7, g72, g73]
  unfold c285_4 c285_5
  simp -implicitDefEqProofs [gb, lc, gs, gs']
  refine HB_spec g.hb st.view (by omega) fun h4 x4 => ?_
  have n4 := x4.next
  have en : hbN v.steps = v.steps.length := by unfold hbN; rw [if_neg (by omega)]
  have hN : v.steps.length ≤ 64 := by omega
  have hr : RowsOk (hbR m v.steps) := by rw [hbR_of hN]; exact clo_ok hbPre_ok
  rw [en]
  generalize hr0 : hbR m v.steps = r at *
  have sz : splice zrel 0 (relC v.steps.length r) = relC v.steps.length r := zrel_splice
  have zl : zrel.length = 65 := by simp [zrel, zu]
  simp -implicitDefEqProofs [relV, sz, zl]
  generalize ehz : AH.put _ h4.next _ = hz
  have nz : hz.next = h4.next + 1 := by subst ehz; simp
  have yz : Ext h4 hz := by subst ehz; exact ((Ext.refl h4).alloc _).put (Nat.le_refl _) _
  have g11 : hz.get h4.next = .cells (relC v.steps.length r) false false := by subst ehz; simp
  clear ehz
  have relAt : ∀ h5, Ext hz h5 → h5.get h4.next = .cells (relC v.steps.length r) false false := fun h5 z => by rw [z.get _ (by omega)]; exact g11
  have stz := (st.ext x4).ext yz
  obtain ⟨sa, sc, esv⟩ := stz.len
  have svv := stz.view
  have acy := own_acy S hN
  have clo' := own_clo (m := m) (v := v) hN
  have back := fun (i k : Nat) (hik : k ≤ i) => own_back S hN (i := i) (k := k) hik
  have has := fun (i k : Nat) (h1 : i < k) (h2 : k < v.steps.length) => own_has (m := m) (l := v.steps) hN h1 h2
  rw [hr0] at acy clo' back has
  have xz : Ext h hz := (((xx.trans x2).trans x3).trans x4).trans yz
  have tk : (relC v.steps.length r).take 65 = relC v.steps.length r := List.take_of_length_le (by rw [relC_length]; omega)
  subst esv
  unfold c285_6 c285_6b
  simp -implicitDefEqProofs [g11, tk]
  refine N_rel g.hb.toRelG fun h5 x5 => ?_
  have g115 := relAt _ x5
  simp -implicitDefEqProofs [g115, tk]
  refine Acyclic_rel g.hb.toRelG g.g30 hN hr fun h6 x6 => ?_
  have g116 := relAt _ (x5.trans x6)
  rw [acy]
  simp -implicitDefEqProofs [g115, g116, tk]
  refine Closure_rel g.hb.toRelG hN hr fun h7 x7 => ?_
  have g117 := relAt _ ((x5.trans x6).trans x7)
  rw [clo']
  simp -implicitDefEqProofs [relV, relC_eq, g115, g116, g117, tk]
  unfold c285_8
  have xz7 := ((xz.trans x5).trans x6).trans x7
  have xh7 := (x5.trans x6).trans x7
  simp -implicitDefEqProofs
  refine W_loop (inv285a h7 (.slice sa v.steps.length sc) h4.next v.steps.length r) v.steps.length ⟨0, rfl, by omega, Ext.refl h7, rfl⟩ ?_
  rintro mm F hh ⟨i, rfl, hi, x, rfl⟩
  unfold c285_19 c285_9 c285_10
  by_cases h1' : i < v.steps.length
  · simp -implicitDefEqProofs [h1']
    refine W_loop (inv285b h7 (.slice sa v.steps.length sc) h4.next v.steps.length i) v.steps.length ⟨0, rfl, by omega, x, rfl⟩ ?_
    clear x
    rintro mm F hh ⟨j, rfl, hj, x, rfl⟩
    have gA := relAt _ (xh7.trans x)
    unfold c285_17 c285_11
    have hw : IntKind.i64.wrap ((j : Int) + 1) = ((j + 1 : Nat) : Int) := by rw [wrap64 (by omega)]; rfl
    by_cases h2' : j < v.steps.length
    · obtain ⟨rb, ro, rsp, rc, rc0, rg, rro, ebv, rlt, rget, rle, rrow, rj⟩ := SlV.row Stp.c_length (svv.ext (xh7.trans x)) h1'
      obtain ⟨qb, qo, qsp, qc, qc0, qg, qro, eqv, qlt, qget, qle, qrow, qj⟩ := SlV.row Stp.c_length (svv.ext (xh7.trans x)) h2'
      simp only [Value.slice.injEq, true_and] at ebv eqv
      obtain ⟨rfl, rfl⟩ := ebv
      obtain ⟨e1, e2⟩ := eqv
      simp only [Option.some.injEq, Addr.mk.injEq] at e1
      obtain ⟨rfl, rfl, rfl⟩ := e1
      subst e2
      rw [rget] at qget
      simp only [ABlk.cells.injEq] at qget
      obtain ⟨rfl, rfl, rfl⟩ := qget
      have ei : atS v.steps i = v.steps[i] := by unfold atS; rw [List.getElem?_eq_getElem h1']; rfl
      have ej : atS v.steps j = v.steps[j] := by unfold atS; rw [List.getElem?_eq_getElem h2']; rfl
      by_cases hij : j ≤ i
      · have bk := back i j hij
        have hB : relB v.steps.length r i j = false := by unfold relB hasB; simp [bk]
        have nij : ¬ (i : Int) < j := by omega
        have hij' : (j : Int) ≤ i := by omega
        unfold c285_12 c285_14 c285_14b c285_16
        simp -implicitDefEqProofs [h2', hij, hij', gA, tk]
        refine Has_rel g.hb.toRelG hN hr fun h8 x8 => ?_
        rw [hB]
        simp -implicitDefEqProofs [nij, hw]
        exact ⟨v.steps.length - (j + 1), by omega, j + 1, rfl, h2', x.trans x8, by simp⟩
      · have nij : ¬ (j : Int) ≤ i := by omega
        have lij : (i : Int) < j := by omega
        have hs := has i j (by omega) h2'
        have hB : (r i).testBit j = true → relB v.steps.length r i j = true := by
          intro e
          unfold relB hasB inB
          simp [e]
          omega
        have i0 := rj 0 (by omega)
        have j0 := qj 0 (by omega)
        have j2 := qj 2 (by omega)
        have j6 := qj 6 (by omega)
        rw [ei, ej] at hs
        generalize v.steps[i] = si at i0 hs
        generalize v.steps[j] = sj at j0 j2 j6 hs
        simp [Stp.c] at i0 j0 j2 j6
        unfold c285_12 c285_14 c285_14b c285_16
        generalize eQ : wO G _ _ _ _ = Q
        by_cases p1 : si.pick = sj.pick
        · have hB := hB (hs (.inl p1))
          subst eQ
          simp -implicitDefEqProofs [nij, lij, h1', h2', rget, i0, j0, p1, gA, tk, hw]
          refine Has_rel g.hb.toRelG hN hr fun h8 x8 => ?_
          rw [hB]
          simp -implicitDefEqProofs [hw]
          exact ⟨v.steps.length - (j + 1), by omega, j + 1, rfl, h2', x.trans x8, by simp⟩
        · by_cases p2 : sj.kind = 6
          · by_cases p3 : sj.from' = i
            · have hB := hB (hs (.inr ⟨p2, p3⟩))
              subst eQ
              simp -implicitDefEqProofs [nij, lij, h1', h2', rget, i0, j0, j2, j6, p1, p2, p3, gA, tk, hw]
              refine Has_rel g.hb.toRelG hN hr fun h8 x8 => ?_
              rw [hB]
              simp -implicitDefEqProofs [hw]
              exact ⟨v.steps.length - (j + 1), by omega, j + 1, rfl, h2', x.trans x8, by simp⟩
            · subst eQ
              simp -implicitDefEqProofs [nij, lij, h1', h2', rget, i0, j0, j2, j6, p1, p2, p3, gA, tk, hw]
              exact ⟨v.steps.length - (j + 1), by omega, j + 1, rfl, h2', x, by simp⟩
          · subst eQ
            simp -implicitDefEqProofs [nij, lij, h1', h2', rget, i0, j0, j2, j6, p1, p2, gA, tk, hw]
            exact ⟨v.steps.length - (j + 1), by omega, j + 1, rfl, h2', x, by simp⟩
    · have ej : j = v.steps.length := by omega
      unfold c285_18
      have hw : IntKind.i64.wrap ((i : Int) + 1) = ((i + 1 : Nat) : Int) := by rw [wrap64 (by omega)]; rfl
      simp -implicitDefEqProofs [h2', hw]
      exact ⟨v.steps.length - (i + 1), by omega, i + 1, rfl, h1', x, by simp⟩
  · unfold c285_20
    simp -implicitDefEqProofs [h1']
    refine aw _ _ fun h8 x8 => ?_
    simp -implicitDefEqProofs
    exact k h8 ((xz7.trans x).trans x8)
end Go.Jq
