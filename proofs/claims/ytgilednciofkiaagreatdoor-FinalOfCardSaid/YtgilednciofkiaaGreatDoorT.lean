/- Decimal numerals; words with blanks between. -/
import Derived.Test.YtgilednciofkiaaGreatDoorM3
import Derived.Test.YtgilednciofkiaaGreatDoorC
import Derived.Test.YtgilednciofkiaaGreatDoorI
import Derived.Laws.Strings
import Derived.KernelRfl
set_option linter.unusedSimpArgs false
set_option linter.unusedVariables false
namespace Go.Jq
theorem decF_fuel : ∀ {f u : Nat}, u < 10 ^ (f + 1) → decF f u = decF (f + 1) u := by
  intro f
  induction f with
  | zero => intro u h; simp at h; simp [decF, h]
  | succ f ih =>
    intro u h
    show (if u < 10 then [UInt8.ofNat (48 + u)] else decF f (u / 10) ++ [UInt8.ofNat (48 + u % 10)]) = if u < 10 then [UInt8.ofNat (48 + u)] else decF (f + 1) (u / 10) ++ [UInt8.ofNat (48 + u % 10)]
    split
    · rfl
    · rw [ih (by rw [Nat.pow_succ] at h; omega)]
def dec (u : Nat) : List UInt8 := decF 20 u
theorem dec_small {u : Nat} (h : u < 10) : dec u = [UInt8.ofNat (48 + u)] := by unfold dec decF; rw [if_pos h]
theorem dec_big {u : Nat} (h : ¬ u < 10) (hu : u < 2 ^ 64) : dec u = dec (u / 10) ++ [UInt8.ofNat (48 + u % 10)] := by
  show (if u < 10 then [UInt8.ofNat (48 + u)] else decF 19 (u / 10) ++ [UInt8.ofNat (48 + u % 10)]) = _
  rw [if_neg h, decF_fuel (by omega)]; rfl
theorem itoaF_eq {n : Int} : itoaF n = if n < 0 then 45 :: dec n.natAbs else dec n.toNat := rfl
theorem decF_len : ∀ {f u : Nat}, (decF f u).length ≤ f + 1 := by
  intro f
  induction f with
  | zero => intro u; simp [decF]
  | succ f ih =>
    intro u
    unfold decF
    split
    · simp
    · have := ih (u := u / 10); simp; omega
theorem itoaF_len {n : Int} : (itoaF n).length ≤ 22 := by
  unfold itoaF
  split
  · have := decF_len (f := 20) (u := n.natAbs); simp; omega
  · have := decF_len (f := 20) (u := n.toNat); omega
def I64 (n : Int) : Prop := -9223372036854775808 ≤ n ∧ n ≤ 9223372036854775807
def jn (ws : List (List UInt8)) : List UInt8 := Lib.join ws [32]
theorem jn_snoc {ws : List (List UInt8)} {w : List UInt8} : jn (ws ++ [w]) = if ws = [] then w else jn ws ++ (32 :: w) := by
  cases ws with
  | nil => simp [jn, Lib.join_one]
  | cons a r =>
    show Lib.join (a :: (r ++ [w])) [32] = _
    rw [Lib.join_cons, if_neg (by simp)]
    show _ = Lib.join (a :: r) [32] ++ _
    rw [Lib.join_cons]
    simp [Lib.joinTail]
theorem jn_cons {a b : List UInt8} {r : List (List UInt8)} : jn (a :: b :: r) = a ++ (32 :: jn (b :: r)) := by
  unfold jn
  rw [Lib.join_cons, Lib.join_cons]
  simp [Lib.joinTail]
theorem jn_ne {ws : List (List UInt8)} (h : ws ≠ []) (hw : ∀ w ∈ ws, w ≠ []) : jn ws ≠ [] := by
  match ws, h with
  | [a], _ => simpa [jn, Lib.join_one] using hw a (by simp)
  | a :: b :: r, _ => rw [jn_cons]; simp
end Go.Jq
namespace Go.Jq
variable {G : Nat → SFunc} {h : AH} {R : Value → AH → Prop}
theorem sstr_l {a b : List UInt8} (h : a.length + b.length ≤ 9223372036854775807) : sstr .add ⟨a.toArray⟩ ⟨b.toArray⟩ = some (.string ⟨(a ++ b).toArray⟩) := by
  have e : ((⟨a.toArray⟩ : ByteArray) ++ ⟨b.toArray⟩) = ⟨(a ++ b).toArray⟩ := by
    apply ByteArray.ext
    simp
  have s : ∀ l : List UInt8, (⟨l.toArray⟩ : ByteArray).size = l.length := fun l => by simp [ByteArray.size]
  unfold sstr
  simp only [s]
  rw [if_neg (by omega), e]
theorem sstr_c {a b c : List UInt8} (e : a ++ b = c) (h : c.length ≤ 9223372036854775807) : sstr .add ⟨a.toArray⟩ ⟨b.toArray⟩ = some (.string ⟨c.toArray⟩) := by
  subst e
  exact sstr_l (by simpa using h)
theorem dig_ext : ∀ k : Nat, k < 10 → (⟨#[48, 49, 50, 51, 52, 53, 54, 55, 56, 57]⟩ : ByteArray).extract k (k + 1) = ⟨[UInt8.ofNat (48 + k)].toArray⟩ := by
  intro k hk
  match k, hk with
  | 0, _ => decide
  | 1, _ => decide
  | 2, _ => decide
  | 3, _ => decide
  | 4, _ => decide
  | 5, _ => decide
  | 6, _ => decide
  | 7, _ => decide
  | 8, _ => decide
  | 9, _ => decide
  | k + 10, hk => omega
structure TxtG (G : Nat → SFunc) : Prop where
  g276 : G 276 = c276
  g264 : G 264 = c264
  g262 : G 262 = c262
  g271 : G 271 = c271
  n86 : (G 86).body = .native 3
  n87 : (G 87).body = .native 2
def inv276 (h : AH) (u0 : Nat) (sg : Value) (mm : Nat) (F : Fr) (hh : AH) : Prop :=
  ∃ (u : Nat) (s : List UInt8), mm = u ∧ u ≤ u0 ∧ dec u0 = dec u ++ s ∧ s.length ≤ 22 ∧ hh = h ∧ F = [(3, .int .u64 u), (4, sg), (5, .string ⟨s.toArray⟩)]
theorem dec_len {u : Nat} : (dec u).length ≤ 21 := decF_len
set_option maxHeartbeats 2000000 in
theorem Text2_spec (g : TxtG G) {n : Int} (hn : I64 n) (k : R (.string ⟨(itoaF n).toArray⟩) h) : WC G 276 [.int .i64 n] h R := by
  unfold I64 at hn
  refine WC_enter g.g276 rfl ?_
  show W G c276_body _ _ (retK [.tmp 2] R)
  unfold c276_body c276_0 c276_1 c276_2 c276_3 c276_4 c276_5 c276_6
  have fin : ∀ (u0 : Nat) (sg : List UInt8), u0 < 2 ^ 64 → sg.length ≤ 1 → sg ++ dec u0 = itoaF n → W G (.seq (.block 0 (.loop [3, 4, 5] c276_11)) (.seq (.reg [4, 5, 7] c276_12) (.seq (.reg [2] c276_13) .ret)))
      [(3, .int .u64 u0), (4, .string ⟨sg.toArray⟩), (5, .string ⟨[].toArray⟩)] h (retK [.tmp 2] R) := by
    intro u0 sg hu hsg e
    simp -implicitDefEqProofs only [W_seq, W_block]
    refine W_loop (inv276 h u0 (.string ⟨sg.toArray⟩)) u0 ⟨u0, [], rfl, Nat.le_refl _, by simp, by simp, rfl, rfl⟩ ?_
    rintro u F hh ⟨_, s, rfl, hle, ed, hs, rfl, rfl⟩
    unfold c276_11 c276_7
    by_cases h9 : 9 < u
    · have h9' : (9 : Int) < u := by omega
      have r1 : ((u : Int)).tmod 10 = ((u % 10 : Nat) : Int) := by rw [Int.tmod_eq_emod_of_nonneg (by omega)]; omega
      have r2 : ((u : Int)).tdiv 10 = ((u / 10 : Nat) : Int) := by rw [Int.tdiv_eq_ediv_of_nonneg (by omega)]; omega
      have w1 : IntKind.i64.wrap ((u % 10 : Nat) : Int) = ((u % 10 : Nat) : Int) := wrap64 (by omega)
      have w2 : IntKind.i64.wrap (((u % 10 : Nat) : Int) + 1) = ((u % 10 + 1 : Nat) : Int) := by rw [wrap64 (by omega)]; rfl
      have w3 : IntKind.u64.wrap ((u / 10 : Nat) : Int) = ((u / 10 : Nat) : Int) := by
        simp only [IntKind.wrap, IntKind.bits, IntKind.signed]; simp; omega
      have b1 : u % 10 < 10 := Nat.mod_lt _ (by omega)
      have dx := dig_ext (u % 10) b1
      have e2 := dec_big (u := u) (by omega) (by omega)
      rw [e2, List.append_assoc] at ed
      have st := sstr_l (a := [UInt8.ofNat (48 + u % 10)]) (b := s) (by simp; omega)
      have dl := congrArg List.length ed
      have dl2 := dec_len (u := u0)
      simp at dl
      generalize hq : u % 10 = q at *
      have q9 : q ≤ 9 := by omega
      have q9' : (q : Int) ≤ 10 := by omega
      have q10 : (q : Int) + 1 ≤ 10 := by omega
      unfold c276_8 c276_9 c276_10
      have qq : (q : Int) ≤ q + 1 := by omega
      have sz : ((⟨#[48, 49, 50, 51, 52, 53, 54, 55, 56, 57]⟩ : ByteArray).size : Int) = 10 := rfl
      obtain ⟨d, hd⟩ : ∃ d, d = UInt8.ofNat (48 + q) := ⟨_, rfl⟩
      rw [← hd] at dx st ed
      simp -implicitDefEqProofs [h9, h9', r1, r2, w1, w2, w3, qq, q10, sz, dx, st]
      exact ⟨u / 10, by omega, u / 10, d :: s, rfl, by omega, by rw [ed]; rfl, by simp; omega, rfl, by rw [← w3]; simp⟩
    · have h9' : ¬ (9 : Int) < u := by omega
      rw [dec_small (u := u) (by omega)] at ed
      have dl := congrArg List.length ed
      have dl2 := dec_len (u := u0)
      simp at dl
      have w1 : IntKind.i64.wrap (u : Int) = (u : Int) := wrap64 (by omega)
      have w2 : IntKind.i64.wrap ((u : Int) + 1) = ((u + 1 : Nat) : Int) := by rw [wrap64 (by omega)]; rfl
      have dx := dig_ext u (by omega)
      have qq : (u : Int) ≤ u + 1 := by omega
      have q10 : (u : Int) + 1 ≤ 10 := by omega
      have sz : ((⟨#[48, 49, 50, 51, 52, 53, 54, 55, 56, 57]⟩ : ByteArray).size : Int) = 10 := rfl
      obtain ⟨d, hd⟩ : ∃ d, d = UInt8.ofNat (48 + u) := ⟨_, rfl⟩
      rw [← hd] at dx ed
      have s1 := sstr_l (a := sg) (b := [d]) (by simp; omega)
      have s2 := sstr_l (a := sg ++ [d]) (b := s) (by simp; omega)
      have ee : sg ++ [d] ++ s = itoaF n := by rw [← e, ed, List.append_assoc]
      rw [ee] at s2
      unfold c276_12 c276_13
      simp -implicitDefEqProofs [h9, h9']
      simp -implicitDefEqProofs [w1, w2, qq, q10, sz, dx, s1, s2]
      exact k
  simp -implicitDefEqProofs only [W_seq, W_block] at fin
  by_cases h0 : n < 0
  · have f := fin n.natAbs [45] (by omega) (by simp) (by rw [itoaF_eq, if_pos h0]; rfl)
    have w1 : IntKind.u64.wrap n = n + 18446744073709551616 := by
      simp only [IntKind.wrap, IntKind.bits, IntKind.signed]; simp; omega
    have w2 : IntKind.u64.wrap (-(n + 18446744073709551616)) = (n.natAbs : Int) := by
      simp only [IntKind.wrap, IntKind.bits, IntKind.signed]; simp; omega
    simp -implicitDefEqProofs [h0, w1, w2]
    exact f
  · obtain ⟨n, rfl⟩ := Int.eq_ofNat_of_zero_le (show 0 ≤ n by omega)
    have f := fin n [] (by omega) (by simp) (by rw [itoaF_eq, if_neg h0]; rfl)
    have w1 : IntKind.u64.wrap (n : Int) = (n : Int) := by
      simp only [IntKind.wrap, IntKind.bits, IntKind.signed]; simp; omega
    simp -implicitDefEqProofs [h0, w1]
    exact f
theorem TextN_spec (g : TxtG G) {n : Int} (hn : I64 n) (k : R (.string ⟨(itoaF n).toArray⟩) h) : WC G 264 [.int .i64 n] h R := by
  refine WC_enter g.g264 rfl ?_
  show W G c264_body _ _ (retK [.tmp 2] R)
  unfold c264_body c264_0 c264_1
  simp -implicitDefEqProofs
  refine WC_native g.n86 (v := .string ⟨(itoaF n).toArray⟩) ?_ ?_
  · simp only [natOf]; rw [if_pos ⟨trivial, hn⟩]
  · simp -implicitDefEqProofs
    exact k
end Go.Jq
namespace Go.Jq
variable {G : Nat → SFunc} {h : AH} {R : Value → AH → Prop}
def endC (A : List Int) : List Value := A.map (Value.int .i64)
theorem endC_len {A : List Int} : (endC A).length = A.length := by simp [endC]
def atI (A : List Int) (i : Nat) : Int := A[i]?.getD 0
theorem endC_get {A : List Int} {i : Nat} (hi : i < A.length) : (endC A)[i]? = some (.int .i64 (atI A i)) := by
  unfold endC atI
  rw [List.getElem?_map, List.getElem?_eq_getElem hi]; rfl
theorem endC_four {A : List Int} {i : Nat} (hi : i + 4 ≤ A.length) : ((endC A).drop i).take 4 = [.int .i64 (atI A i), .int .i64 (atI A (i + 1)), .int .i64 (atI A (i + 2)), .int .i64 (atI A (i + 3))] := by
  apply List.ext_getElem?
  intro j
  rw [List.getElem?_take]
  by_cases h4 : j < 4
  · rw [if_pos h4, List.getElem?_drop, endC_get (by omega)]
    match j, h4 with
    | 0, _ => rfl
    | 1, _ => rfl
    | 2, _ => rfl
    | 3, _ => rfl
  · rw [if_neg h4, List.getElem?_eq_none (by simp; omega)]
def wordT (t r : Nat) (x : Int) : List UInt8 := itoaF t ++ [58, 114] ++ itoaF r ++ [61] ++ itoaF x
def wordL (c x : Int) : List UInt8 := [UInt8.ofNat c.toNat] ++ [61] ++ itoaF x
def strC (w : List UInt8) : List Value := [.string ⟨w.toArray⟩]
def wsR (A : List Int) (t k : Nat) : List (List UInt8) := (List.range k).map fun r => wordT t r (atI A (t * 4 + r))
def wsT (A : List Int) (n : Nat) : List (List UInt8) := (List.range n).flatMap fun t => wsR A t 4
def wsL (A : List Int) (locs : List Int) (k : Nat) : List (List UInt8) := (List.range k).map fun i => wordL (atI locs i) (atI A (16 + i))
def wsA (A : List Int) (p : Prg) : List (List UInt8) := wsT A p.ths.length ++ wsL A p.locs p.locs.length
theorem wsR_succ {A : List Int} {t k : Nat} : wsR A t (k + 1) = wsR A t k ++ [wordT t k (atI A (t * 4 + k))] := by simp [wsR, List.range_succ]
theorem wsT_succ {A : List Int} {n : Nat} : wsT A (n + 1) = wsT A n ++ wsR A n 4 := by simp [wsT, List.range_succ]
theorem wsL_succ {A locs : List Int} {k : Nat} : wsL A locs (k + 1) = wsL A locs k ++ [wordL (atI locs k) (atI A (16 + k))] := by simp [wsL, List.range_succ]
theorem wsR_len {A : List Int} {t k : Nat} : (wsR A t k).length = k := by simp [wsR]
theorem wsT_len {A : List Int} {n : Nat} : (wsT A n).length = n * 4 := by
  induction n with
  | zero => rfl
  | succ n ih => rw [wsT_succ, List.length_append, ih, wsR_len]; omega
theorem wsL_len {A locs : List Int} {k : Nat} : (wsL A locs k).length = k := by simp [wsL]
structure EndOk (A : List Int) : Prop where
  len : A.length = 20
  i64 : ∀ x ∈ A, I64 x
theorem EndOk.at {A : List Int} (o : EndOk A) (i : Nat) : I64 (atI A i) := by
  unfold atI
  by_cases h : i < A.length
  · rw [List.getElem?_eq_getElem h]; exact o.i64 _ (List.getElem_mem h)
  · rw [List.getElem?_eq_none (by omega)]; exact ⟨by simp, by simp⟩
theorem I64.small {n : Nat} (h : n ≤ 1000) : I64 (n : Int) := ⟨by omega, by omega⟩
theorem str_words {ws : List (List UInt8)} : strsOf (ws.flatMap strC) = some (ws.map fun w => ⟨w.toArray⟩) := by
  induction ws with
  | nil => rfl
  | cons w ws ih =>
    rw [List.flatMap_cons]
    show strsOf (.string ⟨w.toArray⟩ :: ws.flatMap strC) = _
    simp only [strsOf, ih, List.map_cons]
theorem join_words {ws : List (List UInt8)} : joinOf (ws.map fun w => (⟨w.toArray⟩ : ByteArray)) ⟨#[32]⟩ = jn ws := by
  unfold joinOf jn
  rw [List.map_map]
  congr 1
  induction ws with
  | nil => rfl
  | cons w ws ih => rw [List.map_cons, ih]; simp
theorem jn_len {ws : List (List UInt8)} (h : ∀ w ∈ ws, w.length ≤ 100) : (jn ws).length ≤ ws.length * 101 := by
  induction ws with
  | nil => simp [jn, Lib.join_nil]
  | cons a r ih =>
    cases r with
    | nil => have := h a (by simp); simp [jn, Lib.join_one]; omega
    | cons b r =>
      rw [jn_cons]
      have h1 := h a (by simp)
      have h2 := ih fun w hw => h w (List.mem_cons_of_mem _ hw)
      simp at h2 ⊢
      omega
theorem wordT_len {t r : Nat} {x : Int} : (wordT t r x).length ≤ 100 := by
  have h1 := itoaF_len (n := (t : Int))
  have h2 := itoaF_len (n := (r : Int))
  have h3 := itoaF_len (n := x)
  unfold wordT; simp; omega
theorem wordL_len {c x : Int} : (wordL c x).length ≤ 100 := by
  have h3 := itoaF_len (n := x)
  unfold wordL; simp; omega
theorem wsT_mem {A : List Int} {n : Nat} {w : List UInt8} (h : w ∈ wsT A n) : ∃ t r, t < n ∧ r < 4 ∧ w = wordT t r (atI A (t * 4 + r)) := by
  unfold wsT at h
  obtain ⟨t, ht, h⟩ := List.mem_flatMap.1 h
  unfold wsR at h
  obtain ⟨r, hr, rfl⟩ := List.mem_map.1 h
  exact ⟨t, r, List.mem_range.1 ht, List.mem_range.1 hr, rfl⟩
theorem wsL_mem {A locs : List Int} {k : Nat} {w : List UInt8} (h : w ∈ wsL A locs k) : ∃ i, i < k ∧ w = wordL (atI locs i) (atI A (16 + i)) := by
  unfold wsL at h
  obtain ⟨i, hi, rfl⟩ := List.mem_map.1 h
  exact ⟨i, List.mem_range.1 hi, rfl⟩
theorem wsA_len100 {A : List Int} {p : Prg} : ∀ w ∈ wsA A p, w.length ≤ 100 := by
  intro w hw
  rcases List.mem_append.1 hw with h | h
  · obtain ⟨t, r, _, _, rfl⟩ := wsT_mem h; exact wordT_len
  · obtain ⟨i, _, rfl⟩ := wsL_mem h; exact wordL_len
structure PrgT (p : Prg) : Prop where
  ths : 1 ≤ p.ths.length ∧ p.ths.length ≤ 4
  locs : p.locs.length ≤ 4
  chr : ∀ c ∈ p.locs, 0 < c ∧ c < 128 ∧ c ≠ 32
theorem PrgT.at {p : Prg} (o : PrgT p) {i : Nat} (hi : i < p.locs.length) : 0 < atI p.locs i ∧ atI p.locs i < 128 ∧ atI p.locs i ≠ 32 := by
  unfold atI
  rw [List.getElem?_eq_getElem hi]
  exact o.chr _ (List.getElem_mem hi)
theorem enc_ascii {c : Int} (h : 0 ≤ c ∧ c < 128) : Utf8.encode c = ⟨[UInt8.ofNat c.toNat].toArray⟩ := by
  unfold Utf8.encode
  have hv : Utf8.valid c = true := by unfold Utf8.valid; simp; omega
  simp only [hv, if_true]
  rw [if_pos (by omega)]
structure PrgL (h : AH) (p : Prg) (lv tv : Value) : Prop where
  locs : SlV 1 h p.locs.length (p.locs.flatMap bytC) lv
  ths : ∃ a c, tv = .slice a p.ths.length c
theorem PrgV.l {p : Prg} {lv iv tv : Value} (P : PrgV h p lv iv tv) : PrgL h p lv tv := ⟨P.locs, P.ths.len⟩
theorem PrgL.ext {h1 : AH} {p : Prg} {lv tv : Value} (P : PrgL h p lv tv) (x : Ext h h1) : PrgL h1 p lv tv := ⟨P.locs.ext x, P.ths⟩
theorem PrgL.put {p : Prg} {lv tv : Value} {A : List Int} {b : Nat} {g ro : Bool} {o : ABlk} (P : PrgL h p lv tv) (hb : h.get b = .cells (endC A) g ro) : PrgL (h.put b o) p lv tv := by
  refine ⟨?_, P.ths⟩
  obtain ⟨s1, s2⟩ := P.locs
  refine ⟨s1, ?_⟩
  rcases s2 with s2 | ⟨b', o', sp, c, c0, g', ro', e1, e2, e3, e4, e5⟩
  · exact .inl s2
  · by_cases hz : p.locs.length = 0
    · rw [hz] at e1
      exact .inl ⟨hz, _, _, e1⟩
    · refine .inr ⟨b', o', sp, c, c0, g', ro', e1, by simpa using e2, ?_, e4, e5⟩
      rw [AH.put_get, if_neg]
      · exact e3
      · rintro rfl
        rw [hb] at e3
        simp only [ABlk.cells.injEq] at e3
        obtain ⟨rfl, _⟩ := e3
        match hl : p.locs, hz with
        | x :: r, _ =>
          rw [hl] at e5
          have hm : Value.int .u8 x ∈ endC A := List.mem_of_mem_drop (List.mem_of_mem_take (by rw [e5]; simp [bytC]))
          unfold endC at hm
          obtain ⟨y, _, hy⟩ := List.mem_map.1 hm
          simp at hy
def inv262a (h : AH) (A : List Int) (nt : Nat) (mm : Nat) (F : Fr) (hh : AH) : Prop :=
  ∃ (t : Nat) (u : Value), mm = nt - t ∧ t ≤ nt ∧ Ext h hh ∧ SlG 1 hh h.next (wsT A t).length ((wsT A t).flatMap strC) u ∧ F = [(2, .pointer (some ⟨h.next - 2, 0, none⟩)), (3, .pointer (some ⟨h.next - 1, 0, none⟩)), (5, u), (14, .int .i64 nt), (15, .int .i64 t)]
def inv262b (h : AH) (A : List Int) (nt t : Nat) (mm : Nat) (F : Fr) (hh : AH) : Prop :=
  ∃ (r : Nat) (u : Value), mm = 4 - r ∧ r ≤ 4 ∧ Ext h hh ∧ SlG 1 hh h.next (wsT A t ++ wsR A t r).length ((wsT A t ++ wsR A t r).flatMap strC) u ∧
    F = [(2, .pointer (some ⟨h.next - 2, 0, none⟩)), (3, .pointer (some ⟨h.next - 1, 0, none⟩)), (5, u), (6, .int .i64 t), (14, .int .i64 nt), (15, .int .i64 t), (21, .agg #[.int .i64 (atI A (t * 4)), .int .i64 (atI A (t * 4 + 1)), .int .i64 (atI A (t * 4 + 2)), .int .i64 (atI A (t * 4 + 3))]), (22, .int .i64 r)]
def inv262c (h : AH) (A : List Int) (p : Prg) (lv : Value) (mm : Nat) (F : Fr) (hh : AH) : Prop :=
  ∃ (i : Nat) (u : Value), mm = p.locs.length - i ∧ i ≤ p.locs.length ∧ Ext h hh ∧ SlG 1 hh h.next (wsT A p.ths.length ++ wsL A p.locs i).length ((wsT A p.ths.length ++ wsL A p.locs i).flatMap strC) u ∧
    F = [(3, .pointer (some ⟨h.next - 1, 0, none⟩)), (5, u), (42, lv), (43, .int .i64 p.locs.length), (44, .int .i64 i)]
end Go.Jq
namespace Go.Jq
variable {G : Nat → SFunc} {h : AH} {R : Value → AH → Prop}
set_option maxHeartbeats 4000000 in
theorem FText_spec (g : TxtG G) {p : Prg} {lv iv tv : Value} {A : List Int} (P : PrgL h p lv tv) (O : PrgT p) (E : EndOk A) (k : ∀ h1, Ext h h1 → R (.string ⟨(jn (wsA A p)).toArray⟩) h1) :
    WC G 262 [.agg #[lv, iv, tv], .agg (endC A).toArray] h R := by
  obtain ⟨ta, tc, etv⟩ := P.ths
  obtain ⟨la, lc, elv⟩ := P.locs.len
  have hths := O.ths
  have hlocs := O.locs
  have eA := endC_len (A := A)
  have lA := E.len
  refine WC_enter g.g262 rfl ?_
  show W G c262_body _ _ (retK [.tmp 4] R)
  unfold c262_body c262_0 c262_1 c262_2
  simp -implicitDefEqProofs
  obtain ⟨h2, eh2⟩ : ∃ h2, h2 = (h.alloc (.cells [lv, iv, tv] false false)).alloc (.cells (endC A) false false) := ⟨_, rfl⟩
  have n2 : h2.next = h.next + 2 := by subst eh2; simp
  have x2 : Ext h h2 := by subst eh2; exact ((Ext.refl h).alloc _).alloc _
  have g2 : h2.get h.next = .cells [lv, iv, tv] false false := by subst eh2; simp
  have g3 : h2.get (h.next + 1) = .cells (endC A) false false := by subst eh2; simp
  rw [← eh2]
  clear eh2
  have e2 : h2.next - 2 = h.next := by omega
  have e3 : h2.next - 1 = h.next + 1 := by omega
  have mn : (if (4 : Int) < (p.ths.length : Int) then (4 : Int) else (p.ths.length : Int)) = (p.ths.length : Int) := if_neg (by omega)
  subst etv
  simp -implicitDefEqProofs [g2, mn]
  refine W_loop (inv262a h2 A p.ths.length) p.ths.length ⟨0, _, rfl, by omega, Ext.refl h2, SlG.nil, by rw [e2, e3]; rfl⟩ ?_
  rintro mm F hh ⟨t, u, rfl, ht, x, su, rfl⟩
  have gp := (x.get h.next (by omega)).trans g2
  have gf := (x.get (h.next + 1) (by omega)).trans g3
  rw [e2, e3]
  unfold c262_12 c262_3 c262_4 c262_5 c262_11
  by_cases h1' : t < p.ths.length
  · have t4 : t < 4 := by omega
    have t4' : (t : Int) < 4 := by omega
    have four := endC_four (A := A) (i := t * 4) (by omega)
    have le4 : t * 4 + 4 ≤ 20 := by omega
    have le5 : t * 4 ≤ 16 := by omega
    simp -implicitDefEqProofs [h1', gf, eA, lA, t4, t4', four, le4, le5]
    refine W_loop (inv262b h2 A p.ths.length t) 4 ⟨0, u, rfl, by omega, x, by simpa [wsR] using su, by rw [e2, e3]; rfl⟩ ?_
    clear su gp gf x
    rintro mm F hh ⟨r, u, rfl, hr, x, su, rfl⟩
    rw [e2, e3]
    unfold c262_10 c262_6
    have wl := wsT_len (A := A) (n := t)
    have wr := wsR_len (A := A) (t := t) (k := r)
    have hnx := x.next
    by_cases h3 : r < 4
    · have h3' : (r : Int) < 4 := by omega
      have i4 : ([.int .i64 (atI A (t * 4)), .int .i64 (atI A (t * 4 + 1)), .int .i64 (atI A (t * 4 + 2)), .int .i64 (atI A (t * 4 + 3))] : List Value)[r]? = some (.int .i64 (atI A (t * 4 + r))) := by
        match r, h3 with
        | 0, _ => rfl
        | 1, _ => rfl
        | 2, _ => rfl
        | 3, _ => rfl
      obtain ⟨i4l, i4'⟩ := List.getElem?_eq_some_iff.1 i4
      have l1 := itoaF_len (n := (t : Int))
      have l2 := itoaF_len (n := (r : Int))
      have l3 := itoaF_len (n := atI A (t * 4 + r))
      obtain ⟨w1, e1⟩ : ∃ w, itoaF t ++ [58, 114] = w := ⟨_, rfl⟩
      obtain ⟨w2, e2'⟩ : ∃ w, w1 ++ itoaF r = w := ⟨_, rfl⟩
      obtain ⟨w3, e3'⟩ : ∃ w, w2 ++ [61] = w := ⟨_, rfl⟩
      obtain ⟨w4, e4⟩ : ∃ w, w3 ++ itoaF (atI A (t * 4 + r)) = w := ⟨_, rfl⟩
      have d1 := congrArg List.length e1
      have d2 := congrArg List.length e2'
      have d3 := congrArg List.length e3'
      have d4 := congrArg List.length e4
      simp at d1 d2 d3 d4
      have s1 := sstr_c e1 (by omega)
      have s2 := sstr_c e2' (by omega)
      have s3 := sstr_c e3' (by omega)
      have s4 := sstr_c e4 (by omega)
      have ew : wordT t r (atI A (t * 4 + r)) = w4 := by rw [← e4, ← e3', ← e2', ← e1]; rfl
      have hx := E.at (t * 4 + r)
      have ws := wsR_succ (A := A) (t := t) (k := r)
      rw [ew] at ws
      clear e1 e2' e3' e4 ew d1 d2 d3 d4 l1 l2 l3
      generalize hxv : atI A (t * 4 + r) = xv at hx i4 i4' s4 ws
      have hw : IntKind.i64.wrap ((r : Int) + 1) = ((r + 1 : Nat) : Int) := by rw [wrap64 (by omega)]; rfl
      unfold c262_7 c262_8 c262_9
      simp -implicitDefEqProofs [h3, h3', i4, i4']
      refine TextN_spec g (I64.small (by omega)) ?_
      simp -implicitDefEqProofs [s1]
      refine TextN_spec g (I64.small (by omega)) ?_
      simp -implicitDefEqProofs [s2, s3]
      refine TextN_spec g hx ?_
      simp -implicitDefEqProofs [s4]
      refine su.app1 (h0 := h2) (ec := strC w4) rfl (by rw [List.length_append, wl, wr]; omega) x (Nat.le_refl _) (by omega) fun u' h' s' x' => ?_
      simp -implicitDefEqProofs [hw]
      refine ⟨4 - (r + 1), by omega, r + 1, u', rfl, by omega, x', ?_, by rw [e2, e3]; rfl⟩
      have ea : wsT A t ++ wsR A t (r + 1) = (wsT A t ++ wsR A t r) ++ [w4] := by rw [ws, List.append_assoc]
      rw [ea, List.length_append, List.flatMap_append]
      simpa using s'
    · have er : r = 4 := by omega
      subst er
      have hw : IntKind.i64.wrap ((t : Int) + 1) = ((t + 1 : Nat) : Int) := by rw [wrap64 (by omega)]; rfl
      simp -implicitDefEqProofs [hw]
      exact ⟨p.ths.length - (t + 1), by omega, t + 1, u, rfl, h1', x, by rw [wsT_succ]; exact su, by rw [e2, e3]; rfl⟩
  · have et : t = p.ths.length := by omega
    subst et
    subst elv
    unfold c262_13
    simp -implicitDefEqProofs [gp]
    refine W_loop (inv262c h2 A p (.slice la p.locs.length lc)) p.locs.length ⟨0, u, rfl, by omega, x, by simpa [wsL] using su, by rw [e3]; rfl⟩ ?_
    clear su gp gf x
    rintro mm F hh ⟨i, u, rfl, hi, x, su, rfl⟩
    rw [e3]
    have gf := (x.get (h.next + 1) (by omega)).trans g3
    have hnx := x.next
    have wl := wsT_len (A := A) (n := p.ths.length)
    have wr := wsL_len (A := A) (locs := p.locs) (k := i)
    unfold c262_19 c262_14
    by_cases h3 : i < p.locs.length
    · obtain ⟨rb, ro, rsp, rc, rc0, rg, rro, ebv, rlt, rget, rle, rrow, rj⟩ := SlV.row bytC_length (P.locs.ext (x2.trans x)) h3
      simp only [Value.slice.injEq, true_and] at ebv
      obtain ⟨rfl, rfl⟩ := ebv
      have r0 := rj 0 (by omega)
      have ec : p.locs[i] = atI p.locs i := by unfold atI; rw [List.getElem?_eq_getElem h3]; rfl
      rw [ec] at r0
      simp [bytC] at r0
      have hc := O.at h3
      generalize hcc : atI p.locs i = c at r0 hc
      have l3 := itoaF_len (n := atI A (16 + i))
      obtain ⟨w1, e1⟩ : ∃ w, [UInt8.ofNat c.toNat] ++ [61] = w := ⟨_, rfl⟩
      obtain ⟨w2, e2'⟩ : ∃ w, w1 ++ itoaF (atI A (16 + i)) = w := ⟨_, rfl⟩
      have d1 := congrArg List.length e1
      have d2 := congrArg List.length e2'
      simp at d1 d2
      have en := enc_ascii (c := c) (by omega)
      obtain ⟨b0, hb0⟩ : ∃ b, b = UInt8.ofNat c.toNat := ⟨_, rfl⟩
      rw [← hb0] at en e1
      have s1 := sstr_c (a := [b0]) e1 (by omega)
      have s2 := sstr_c e2' (by omega)
      have ew : wordL c (atI A (16 + i)) = w2 := by rw [← e2', ← e1, hb0]; rfl
      have hx := E.at (16 + i)
      have ws := wsL_succ (A := A) (locs := p.locs) (k := i)
      rw [hcc, ew] at ws
      have i16 := endC_get (A := A) (i := 16 + i) (by omega)
      have i4 : (i : Int) < 4 := by omega
      have i4' : i < 4 := by omega
      obtain ⟨i16l, i16'⟩ := List.getElem?_eq_some_iff.1 i16
      clear e1 e2' ew d1 d2 l3
      generalize hxv : atI A (16 + i) = xv at hx i16 i16' s2 ws
      have hw : IntKind.i64.wrap ((i : Int) + 1) = ((i + 1 : Nat) : Int) := by rw [wrap64 (by omega)]; rfl
      have c32 : IntKind.i32.wrap c = c := by
        simp only [IntKind.wrap, IntKind.bits, IntKind.signed]; simp; omega
      unfold c262_15 c262_16 c262_17 c262_18
      simp -implicitDefEqProofs [h3, i4, i4', rget, r0, c32, tostrB, en, s1, gf, i16, i16', eA, lA]
      refine TextN_spec g hx ?_
      simp -implicitDefEqProofs [s2]
      refine su.app1 (h0 := h2) (ec := strC w2) rfl (by rw [List.length_append, wl, wr]; omega) x (Nat.le_refl _) (by omega) fun u' h' s' x' => ?_
      simp -implicitDefEqProofs [hw]
      refine ⟨p.locs.length - (i + 1), by omega, i + 1, u', rfl, h3, x', ?_, by rw [e3]; rfl⟩
      have ea : wsT A p.ths.length ++ wsL A p.locs (i + 1) = (wsT A p.ths.length ++ wsL A p.locs i) ++ [w2] := by rw [ws, List.append_assoc]
      rw [ea, List.length_append, List.flatMap_append]
      simpa using s'
    · have ei : i = p.locs.length := by omega
      subst ei
      have eW : wsT A p.ths.length ++ wsL A p.locs p.locs.length = wsA A p := rfl
      rw [eW] at su
      have lW : (wsA A p).length = p.ths.length * 4 + p.locs.length := by rw [wsA, List.length_append, wl, wsL_len]
      unfold c262_20
      simp -implicitDefEqProofs
      rcases su.2 with ⟨q, _⟩ | ⟨b, b1, b2, b3, rfl⟩
      · omega
      · have jl := jn_len (wsA_len100 (A := A) (p := p))
        refine WC_native g.n87 (v := .string ⟨(jn (wsA A p)).toArray⟩) ?_ ?_
        · simp only [natOf]
          have hl : hh.load b 0 (wsA A p).length = some ((wsA A p).flatMap strC) := load_all b3 (by rw [su.1]; omega)
          rw [hl]
          simp only [str_words, join_words]
          rw [if_pos (by omega)]
        · simp -implicitDefEqProofs
          exact k hh (x2.trans x)
end Go.Jq
namespace Go.Jq
variable {G : Nat → SFunc} {h : AH} {R : Value → AH → Prop}
theorem sstr_ne {l : List UInt8} : sstr .neq ⟨l.toArray⟩ ⟨#[]⟩ = some (.bool (decide (l ≠ []))) := by
  unfold sstr
  simp only [show (⟨#[]⟩ : ByteArray) = ⟨([] : List UInt8).toArray⟩ from rfl, ByteArray.toList_mk]
  cases l <;> simp
def jb (ws : List (List UInt8)) : List UInt8 := if ws = [] then [] else jn ws ++ [32]
theorem jn_jb {ws : List (List UInt8)} {w : List UInt8} : jn (ws ++ [w]) = jb ws ++ w := by
  rw [jn_snoc]
  unfold jb
  by_cases e : ws = []
  · rw [if_pos e, if_pos e]; rfl
  · rw [if_neg e, if_neg e]; simp
theorem jn_nil_iff {ws : List (List UInt8)} (hw : ∀ w ∈ ws, w ≠ []) : jn ws = [] ↔ ws = [] := by
  constructor
  · intro e
    by_cases q : ws = []
    · exact q
    · exact absurd e (jn_ne q hw)
  · rintro rfl; rfl
theorem wordT_ne {t r : Nat} {x : Int} : wordT t r x ≠ [] := by unfold wordT; simp
theorem wordL_ne {c x : Int} : wordL c x ≠ [] := by unfold wordL; simp
def inv271a (h : AH) (A : List Int) (p : Prg) (mm : Nat) (F : Fr) (hh : AH) : Prop :=
  ∃ t : Nat, mm = p.ths.length - t ∧ t ≤ p.ths.length ∧ Ext h hh ∧ F = [(2, .pointer (some ⟨h.next - 2, 0, none⟩)), (3, .pointer (some ⟨h.next - 1, 0, none⟩)), (5, .string ⟨(jn (wsT A t)).toArray⟩), (6, .int .i64 t)]
def inv271b (h : AH) (A : List Int) (t : Nat) (mm : Nat) (F : Fr) (hh : AH) : Prop :=
  ∃ r : Nat, mm = 4 - r ∧ r ≤ 4 ∧ Ext h hh ∧ F = [(2, .pointer (some ⟨h.next - 2, 0, none⟩)), (3, .pointer (some ⟨h.next - 1, 0, none⟩)), (5, .string ⟨(jn (wsT A t ++ wsR A t r)).toArray⟩), (6, .int .i64 t), (7, .int .i64 r)]
def inv271c (h : AH) (A : List Int) (p : Prg) (mm : Nat) (F : Fr) (hh : AH) : Prop :=
  ∃ i : Nat, mm = p.locs.length - i ∧ i ≤ p.locs.length ∧ Ext h hh ∧ F = [(2, .pointer (some ⟨h.next - 2, 0, none⟩)), (3, .pointer (some ⟨h.next - 1, 0, none⟩)), (5, .string ⟨(jn (wsT A p.ths.length ++ wsL A p.locs i)).toArray⟩), (8, .int .i64 i)]
set_option maxRecDepth 10000 in
set_option maxHeartbeats 4000000 in
theorem RText_spec (g : TxtG G) {p : Prg} {lv iv tv : Value} {A : List Int} (P : PrgL h p lv tv) (O : PrgT p) (E : EndOk A) (k : ∀ h1, Ext h h1 → R (.string ⟨(jn (wsA A p)).toArray⟩) h1) :
    WC G 271 [.agg #[lv, iv, tv], .agg (endC A).toArray] h R := by
  obtain ⟨ta, tc, etv⟩ := P.ths
  obtain ⟨la, lc, elv⟩ := P.locs.len
  have hths := O.ths
  have hlocs := O.locs
  have eA := endC_len (A := A)
  have lA := E.len
  refine WC_enter g.g271 rfl ?_
  show W G c271_body _ _ (retK [.tmp 4] R)
  unfold c271_body c271_0 c271_1 c271_2
  simp -implicitDefEqProofs
  obtain ⟨h2, eh2⟩ : ∃ h2, h2 = (h.alloc (.cells [lv, iv, tv] false false)).alloc (.cells (endC A) false false) := ⟨_, rfl⟩
  have n2 : h2.next = h.next + 2 := by subst eh2; simp
  have x2 : Ext h h2 := by subst eh2; exact ((Ext.refl h).alloc _).alloc _
  have g2 : h2.get h.next = .cells [lv, iv, tv] false false := by subst eh2; simp
  have g3 : h2.get (h.next + 1) = .cells (endC A) false false := by subst eh2; simp
  rw [← eh2]
  clear eh2
  have e2 : h2.next - 2 = h.next := by omega
  have e3 : h2.next - 1 = h.next + 1 := by omega
  subst etv
  subst elv
  refine W_loop (inv271a h2 A p) p.ths.length ⟨0, rfl, by omega, Ext.refl h2, by rw [e2, e3]; rfl⟩ ?_
  rintro mm F hh ⟨t, rfl, ht, x, rfl⟩
  have gp := (x.get h.next (by omega)).trans g2
  rw [e2, e3]
  unfold c271_12 c271_3 c271_4 c271_11
  by_cases h1' : t < p.ths.length
  · have t4 : t < 4 := by omega
    have t4' : (t : Int) < 4 := by omega
    simp -implicitDefEqProofs [h1', gp, t4, t4']
    refine W_loop (inv271b h2 A t) 4 ⟨0, rfl, by omega, x, by rw [e2, e3]; simp [wsR]⟩ ?_
    clear gp x
    rintro mm F hh ⟨r, rfl, hr, x, rfl⟩
    have gf := (x.get (h.next + 1) (by omega)).trans g3
    rw [e2, e3]
    unfold c271_10 c271_5 c271_6
    have wl := wsT_len (A := A) (n := t)
    have wr := wsR_len (A := A) (t := t) (k := r)
    by_cases h3 : r < 4
    · have h3' : (r : Int) < 4 := by omega
      have l1 := itoaF_len (n := (t : Int))
      have l2 := itoaF_len (n := (r : Int))
      have l3 := itoaF_len (n := atI A (t * 4 + r))
      have l0 : (jn (wsT A t ++ wsR A t r)).length ≤ (wsT A t ++ wsR A t r).length * 101 := jn_len fun w hw => by
        rcases List.mem_append.1 hw with q | q
        · obtain ⟨_, _, _, _, rfl⟩ := wsT_mem q; exact wordT_len
        · unfold wsR at q; obtain ⟨_, _, rfl⟩ := List.mem_map.1 q; exact wordT_len
      have ne := jn_nil_iff (ws := wsT A t ++ wsR A t r) fun w hw => by
        rcases List.mem_append.1 hw with q | q
        · obtain ⟨_, _, _, _, rfl⟩ := wsT_mem q; exact wordT_ne
        · unfold wsR at q; obtain ⟨_, _, rfl⟩ := List.mem_map.1 q; exact wordT_ne
      rw [List.length_append, wl, wr] at l0
      obtain ⟨w0, e0⟩ : ∃ w, jb (wsT A t ++ wsR A t r) = w := ⟨_, rfl⟩
      have d0 : w0.length ≤ (jn (wsT A t ++ wsR A t r)).length + 1 := by
        rw [← e0]; unfold jb; split <;> simp
      obtain ⟨w1, e1⟩ : ∃ w, w0 ++ itoaF t = w := ⟨_, rfl⟩
      obtain ⟨w2, e2'⟩ : ∃ w, w1 ++ [58, 114] = w := ⟨_, rfl⟩
      obtain ⟨w3, e3'⟩ : ∃ w, w2 ++ itoaF r = w := ⟨_, rfl⟩
      obtain ⟨w4, e4⟩ : ∃ w, w3 ++ [61] = w := ⟨_, rfl⟩
      obtain ⟨w5, e5⟩ : ∃ w, w4 ++ itoaF (atI A (t * 4 + r)) = w := ⟨_, rfl⟩
      have d1 := congrArg List.length e1
      have d2 := congrArg List.length e2'
      have d3 := congrArg List.length e3'
      have d4 := congrArg List.length e4
      have d5 := congrArg List.length e5
      simp at d1 d2 d3 d4 d5
      have s1 := sstr_c e1 (by omega)
      have s2 := sstr_c e2' (by omega)
      have s3 := sstr_c e3' (by omega)
      have s4 := sstr_c e4 (by omega)
      have s5 := sstr_c e5 (by omega)
      have ew : jn (wsT A t ++ wsR A t (r + 1)) = w5 := by
        rw [wsR_succ, ← List.append_assoc, jn_jb, e0, ← e5, ← e4, ← e3', ← e2', ← e1]
        unfold wordT
        simp [List.append_assoc]
      have hx := E.at (t * 4 + r)
      have i1 := endC_get (A := A) (i := t * 4 + r) (by omega)
      obtain ⟨i1l, i1'⟩ := List.getElem?_eq_some_iff.1 i1
      have hw : IntKind.i64.wrap ((r : Int) + 1) = ((r + 1 : Nat) : Int) := by rw [wrap64 (by omega)]; rfl
      have sn := sstr_ne (l := jn (wsT A t ++ wsR A t r))
      unfold c271_7 c271_8 c271_8b c271_9
      generalize eQ : loopK _ _ = Q
      by_cases q : wsT A t ++ wsR A t r = []
      · have j0 : jn (wsT A t ++ wsR A t r) = [] := ne.2 q
        have w00 : w0 = [] := by rw [← e0, jb, if_pos q]
        rw [w00] at s1
        rw [j0] at sn ⊢
        simp -implicitDefEqProofs [h3, h3', sn, gf, t4, t4', i1, i1', eA, lA]
        refine Text2_spec g (I64.small (by omega)) ?_
        simp -implicitDefEqProofs [h3, h3', s1, s2, gf, t4, t4', i1, i1', eA, lA]
        refine Text2_spec g (I64.small (by omega)) ?_
        simp -implicitDefEqProofs [h3, h3', s3, s4, gf, t4, t4', i1, i1', eA, lA]
        refine Text2_spec g hx ?_
        simp -implicitDefEqProofs [h3, h3', s5, gf, t4, t4', i1, i1', eA, lA, hw]
        subst eQ
        simp -implicitDefEqProofs only [loopK_n]
        exact ⟨4 - (r + 1), by omega, r + 1, rfl, by omega, x, by rw [e2, e3, ew]; rfl⟩
      · have j0 : jn (wsT A t ++ wsR A t r) ≠ [] := fun e => q (ne.1 e)
        have ej : jn (wsT A t ++ wsR A t r) ++ [32] = w0 := by rw [← e0, jb, if_neg q]
        have s0 := sstr_c ej (by omega)
        generalize jn (wsT A t ++ wsR A t r) = jj at *
        rw [show decide (jj ≠ []) = true from decide_eq_true j0] at sn
        simp -implicitDefEqProofs [h3, h3', sn, s0, gf, t4, t4', i1, i1', eA, lA]
        refine Text2_spec g (I64.small (by omega)) ?_
        simp -implicitDefEqProofs [h3, h3', s1, s2, gf, t4, t4', i1, i1', eA, lA]
        refine Text2_spec g (I64.small (by omega)) ?_
        simp -implicitDefEqProofs [h3, h3', s3, s4, gf, t4, t4', i1, i1', eA, lA]
        refine Text2_spec g hx ?_
        simp -implicitDefEqProofs [h3, h3', s5, gf, t4, t4', i1, i1', eA, lA, hw]
        subst eQ
        simp -implicitDefEqProofs only [loopK_n]
        exact ⟨4 - (r + 1), by omega, r + 1, rfl, by omega, x, by rw [e2, e3, ew]; rfl⟩
    · have er : r = 4 := by omega
      subst er
      have hw : IntKind.i64.wrap ((t : Int) + 1) = ((t + 1 : Nat) : Int) := by rw [wrap64 (by omega)]; rfl
      have es : jn (wsT A t ++ wsR A t 4) = jn (wsT A (t + 1)) := by rw [wsT_succ]
      rw [es]
      simp -implicitDefEqProofs [hw]
      exact ⟨p.ths.length - (t + 1), by omega, t + 1, rfl, h1', x, by rw [e2, e3]; rfl⟩
  · have et : t = p.ths.length := by omega
    subst et
    unfold c271_13
    simp -implicitDefEqProofs [gp]
    refine W_loop (inv271c h2 A p) p.locs.length ⟨0, rfl, by omega, x, by rw [e2, e3]; simp [wsL]⟩ ?_
    clear gp x
    rintro mm F hh ⟨i, rfl, hi, x, rfl⟩
    rw [e2, e3]
    have gp := (x.get h.next (by omega)).trans g2
    have gf := (x.get (h.next + 1) (by omega)).trans g3
    have hnx := x.next
    have wl := wsT_len (A := A) (n := p.ths.length)
    have wr := wsL_len (A := A) (locs := p.locs) (k := i)
    unfold c271_19 c271_14 c271_15
    by_cases h3 : i < p.locs.length
    · obtain ⟨rb, ro, rsp, rc, rc0, rg, rro, ebv, rlt, rget, rle, rrow, rj⟩ := SlV.row bytC_length (P.locs.ext (x2.trans x)) h3
      simp only [Value.slice.injEq, true_and] at ebv
      obtain ⟨rfl, rfl⟩ := ebv
      have r0 := rj 0 (by omega)
      have ec : p.locs[i] = atI p.locs i := by unfold atI; rw [List.getElem?_eq_getElem h3]; rfl
      rw [ec] at r0
      simp [bytC] at r0
      have hc := O.at h3
      have l0 : (jn (wsT A p.ths.length ++ wsL A p.locs i)).length ≤ (wsT A p.ths.length ++ wsL A p.locs i).length * 101 := jn_len fun w hw => by
        rcases List.mem_append.1 hw with q | q
        · obtain ⟨_, _, _, _, rfl⟩ := wsT_mem q; exact wordT_len
        · obtain ⟨_, _, rfl⟩ := wsL_mem q; exact wordL_len
      have hne : wsT A p.ths.length ++ wsL A p.locs i ≠ [] := fun e => by
        have := congrArg List.length e
        rw [List.length_append, wl] at this
        simp at this; omega
      have j0 : jn (wsT A p.ths.length ++ wsL A p.locs i) ≠ [] := jn_ne hne fun w hw => by
        rcases List.mem_append.1 hw with q | q
        · obtain ⟨_, _, _, _, rfl⟩ := wsT_mem q; exact wordT_ne
        · obtain ⟨_, _, rfl⟩ := wsL_mem q; exact wordL_ne
      rw [List.length_append, wl, wr] at l0
      have l3 := itoaF_len (n := atI A (16 + i))
      have es := wsL_succ (A := A) (locs := p.locs) (k := i)
      have ej0 : jb (wsT A p.ths.length ++ wsL A p.locs i) = jn (wsT A p.ths.length ++ wsL A p.locs i) ++ [32] := by rw [jb, if_neg hne]
      have eJ : jn (wsT A p.ths.length ++ wsL A p.locs (i + 1)) = jn (wsT A p.ths.length ++ wsL A p.locs i) ++ [32] ++ wordL (atI p.locs i) (atI A (16 + i)) := by
        rw [es, ← List.append_assoc, jn_jb, ej0]
      generalize jn (wsT A p.ths.length ++ wsL A p.locs i) = jj at *
      generalize hcc : atI p.locs i = c at r0 hc eJ
      obtain ⟨b0, hb0⟩ : ∃ b, b = UInt8.ofNat c.toNat := ⟨_, rfl⟩
      obtain ⟨w0, e0⟩ : ∃ w, jj ++ [32] = w := ⟨_, rfl⟩
      obtain ⟨w1, e1⟩ : ∃ w, w0 ++ [b0] = w := ⟨_, rfl⟩
      obtain ⟨w2, e2'⟩ : ∃ w, w1 ++ [61] = w := ⟨_, rfl⟩
      obtain ⟨w3, e3'⟩ : ∃ w, w2 ++ itoaF (atI A (16 + i)) = w := ⟨_, rfl⟩
      have d0 := congrArg List.length e0
      have d1 := congrArg List.length e1
      have d2 := congrArg List.length e2'
      have d3 := congrArg List.length e3'
      simp at d0 d1 d2 d3
      have s0 := sstr_c e0 (by omega)
      have s1 := sstr_c e1 (by omega)
      have s2 := sstr_c e2' (by omega)
      have s3 := sstr_c e3' (by omega)
      have ew : jn (wsT A p.ths.length ++ wsL A p.locs (i + 1)) = w3 := by
        rw [eJ, ← e3', ← e2', ← e1, e0, hb0]
        unfold wordL
        simp [List.append_assoc]
      have hx := E.at (16 + i)
      have i16 := endC_get (A := A) (i := 16 + i) (by omega)
      obtain ⟨i16l, i16'⟩ := List.getElem?_eq_some_iff.1 i16
      have i4 : (i : Int) < 4 := by omega
      have i4' : i < 4 := by omega
      have hw : IntKind.i64.wrap ((i : Int) + 1) = ((i + 1 : Nat) : Int) := by rw [wrap64 (by omega)]; rfl
      have sn := sstr_ne (l := jj)
      rw [show decide (jj ≠ []) = true from decide_eq_true j0] at sn
      have q1 : ¬ h.next = hh.next := by omega
      have q2 : ¬ h.next + 1 = hh.next := by omega
      have q3 : ¬ rb = hh.next := by omega
      have by1 : bytesV [.int .u8 c] = some [b0] := by rw [hb0]; rfl
      unfold c271_16 c271_17 c271_17b c271_18
      simp -implicitDefEqProofs [h3, i4, i4', rget, r0, sn, s0, s1, s2, gp, gf, i16, i16', eA, lA, q1, q2, q3, by1]
      refine Text2_spec g hx ?_
      simp -implicitDefEqProofs [h3, i4, i4', rget, r0, s3, gp, gf, i16, i16', eA, lA, q1, q2, q3, by1, hw]
      exact ⟨p.locs.length - (i + 1), by omega, i + 1, rfl, h3, x.alloc _, by rw [e2, e3, ew]; rfl⟩
    · have ei : i = p.locs.length := by omega
      subst ei
      unfold c271_20
      simp -implicitDefEqProofs [gp]
      exact k hh (x2.trans x)
end Go.Jq
namespace Go.Jq
variable {G : Nat → SFunc} {h : AH} {R : Value → AH → Prop}
def FT_list : List (Nat × SFunc) := [(262, c262), (261, c261), (264, c264), (87, c87), (49, c49), (263, c263), (86, c86), (93, c93), (94, c94), (95, c95), (96, c96), (97, c97), (265, c265), (168, c168), (141, c141), (169, c169), (142, c142), (266, c266), (214, c214), (215, c215), (216, c216), (217, c217), (218, c218), (219, c219), (220, c220), (221, c221), (195, c195), (196, c196), (198, c198), (246, c246), (225, c225), (226, c226), (247, c247), (248, c248), (230, c230), (256, c256)]
set_option maxRecDepth 1000000 in
theorem aw13_run : okTrue ((mach (triOf FT_list) 100000).call 261 [] ⟨0, .leaf⟩) = true := by kernel_rfl
theorem aw13_spec (g : ∀ x ∈ FT_list, G x.1 = x.2) (k : ∀ h1, Ext h h1 → R (.bool true) h1) : WC G 261 [] h R := carried_true g aw13_run rfl k
end Go.Jq
