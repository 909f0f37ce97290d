/- The functions are the given ones. Printed by mkres.py. -/
import Derived.Test.YtmaemogjdnlcoaaGreatDoorX2
import Derived.KernelRfl
import Derived.Test.YtmaemogjdnlcoaaGreatDoorM3
import Derived.Test.YtmaemogjdnlcoaaGreatDoorK1
import Derived.Test.YtmaemogjdnlcoaaGreatDoorK2
import Derived.Test.YtmaemogjdnlcoaaGreatDoorK3
import Derived.Test.YtmaemogjdnlcoaaGreatDoorK4
import Derived.Test.YtmaemogjdnlcoaaGreatDoorK5
import Derived.Test.YtmaemogjdnlcoaaGreatDoorK6
set_option linter.unusedSimpArgs false
set_option linter.unusedVariables false
set_option maxRecDepth 20000
namespace Go.Jq
theorem q19 : c19 = rconv r19 := by kernel_rfl
theorem q20 : c20 = rconv r20 := by kernel_rfl
theorem q28 : c28 = rconv r28 := by kernel_rfl
theorem q29 : c29 = rconv r29 := by kernel_rfl
theorem q30 : c30 = rconv r30 := by kernel_rfl
theorem q31 : c31 = rconv r31 := by kernel_rfl
theorem q32 : c32 = rconv r32 := by kernel_rfl
theorem q33 : c33 = rconv r33 := by kernel_rfl
theorem q34 : c34 = rconv r34 := by kernel_rfl
theorem q35 : c35 = rconv r35 := by kernel_rfl
theorem q36 : c36 = rconv r36 := by kernel_rfl
theorem q38 : c38 = rconv r38 := by kernel_rfl
theorem q51 : c51 = rconv r51 := by kernel_rfl
theorem q52 : c52 = rconv r52 := by kernel_rfl
theorem q53 : c53 = rconv r53 := by kernel_rfl
theorem q54 : c54 = rconv r54 := by kernel_rfl
theorem q55 : c55 = rconv r55 := by kernel_rfl
theorem q56 : c56 = rconv r56 := by kernel_rfl
theorem q57 : c57 = rconv r57 := by kernel_rfl
theorem q58 : c58 = rconv r58 := by kernel_rfl
theorem q59 : c59 = rconv r59 := by kernel_rfl
theorem q60 : c60 = rconv r60 := by kernel_rfl
theorem q61 : c61 = rconv r61 := by kernel_rfl
theorem q62 : c62 = rconv r62 := by kernel_rfl
theorem q63 : c63 = rconv r63 := by kernel_rfl
theorem q64 : c64 = rconv r64 := by kernel_rfl
theorem q65 : c65 = rconv r65 := by kernel_rfl
theorem q66 : c66 = rconv r66 := by kernel_rfl
theorem q67 : c67 = rconv r67 := by kernel_rfl
theorem q68 : c68 = rconv r68 := by kernel_rfl
theorem q69 : c69 = rconv r69 := by kernel_rfl
theorem q70 : c70 = rconv r70 := by kernel_rfl
theorem q71 : c71 = rconv r71 := by kernel_rfl
theorem q72 : c72 = rconv r72 := by kernel_rfl
theorem q73 : c73 = rconv r73 := by kernel_rfl
theorem q74 : c74 = rconv r74 := by kernel_rfl
theorem q75 : c75 = rconv r75 := by kernel_rfl
theorem q76 : c76 = rconv r76 := by kernel_rfl
theorem q77 : c77 = rconv r77 := by kernel_rfl
theorem q78 : c78 = rconv r78 := by kernel_rfl
theorem q79 : c79 = rconv r79 := by kernel_rfl
theorem q98 : c98 = rconv r98 := by kernel_rfl
theorem q99 : c99 = rconv r99 := by kernel_rfl
theorem q100 : c100 = rconv r100 := by kernel_rfl
theorem q101 : c101 = rconv r101 := by kernel_rfl
theorem q102 : c102 = rconv r102 := by kernel_rfl
theorem q103 : c103 = rconv r103 := by kernel_rfl
theorem q104 : c104 = rconv r104 := by kernel_rfl
theorem q105 : c105 = rconv r105 := by kernel_rfl
theorem q106 : c106 = rconv r106 := by kernel_rfl
theorem q107 : c107 = rconv r107 := by kernel_rfl
theorem q108 : c108 = rconv r108 := by kernel_rfl
theorem q109 : c109 = rconv r109 := by kernel_rfl
theorem q110 : c110 = rconv r110 := by kernel_rfl
theorem q111 : c111 = rconv r111 := by kernel_rfl
theorem q112 : c112 = rconv r112 := by kernel_rfl
theorem q113 : c113 = rconv r113 := by kernel_rfl
theorem q114 : c114 = rconv r114 := by kernel_rfl
theorem q115 : c115 = rconv r115 := by kernel_rfl
theorem q116 : c116 = rconv r116 := by kernel_rfl
theorem q117 : c117 = rconv r117 := by kernel_rfl
theorem q118 : c118 = rconv r118 := by kernel_rfl
theorem q119 : c119 = rconv r119 := by kernel_rfl
theorem q120 : c120 = rconv r120 := by kernel_rfl
theorem q121 : c121 = rconv r121 := by kernel_rfl
theorem q122 : c122 = rconv r122 := by kernel_rfl
theorem q123 : c123 = rconv r123 := by kernel_rfl
theorem q124 : c124 = rconv r124 := by kernel_rfl
theorem q125 : c125 = rconv r125 := by kernel_rfl
theorem q126 : c126 = rconv r126 := by kernel_rfl
theorem q127 : c127 = rconv r127 := by kernel_rfl
theorem q128 : c128 = rconv r128 := by kernel_rfl
theorem q129 : c129 = rconv r129 := by kernel_rfl
theorem q130 : c130 = rconv r130 := by kernel_rfl
theorem q131 : c131 = rconv r131 := by kernel_rfl
theorem q132 : c132 = rconv r132 := by kernel_rfl
theorem q133 : c133 = rconv r133 := by kernel_rfl
theorem q134 : c134 = rconv r134 := by kernel_rfl
theorem q135 : c135 = rconv r135 := by kernel_rfl
theorem q136 : c136 = rconv r136 := by kernel_rfl
theorem q137 : c137 = rconv r137 := by kernel_rfl
theorem q138 : c138 = rconv r138 := by kernel_rfl
theorem q139 : c139 = rconv r139 := by kernel_rfl
theorem q140 : c140 = rconv r140 := by kernel_rfl
theorem q141 : c141 = rconv r141 := by kernel_rfl
theorem q142 : c142 = rconv r142 := by kernel_rfl
theorem q143 : c143 = rconv r143 := by kernel_rfl
theorem q144 : c144 = rconv r144 := by kernel_rfl
theorem q145 : c145 = rconv r145 := by kernel_rfl
theorem q146 : c146 = rconv r146 := by kernel_rfl
theorem q147 : c147 = rconv r147 := by kernel_rfl
theorem q170 : c170 = rconv r170 := by kernel_rfl
theorem q171 : c171 = rconv r171 := by kernel_rfl
theorem q172 : c172 = rconv r172 := by kernel_rfl
theorem q173 : c173 = rconv r173 := by kernel_rfl
theorem q174 : c174 = rconv r174 := by kernel_rfl
theorem q176 : c176 = rconv r176 := by kernel_rfl
theorem q177 : c177 = rconv r177 := by kernel_rfl
theorem q178 : c178 = rconv r178 := by kernel_rfl
theorem q179 : c179 = rconv r179 := by kernel_rfl
theorem q180 : c180 = rconv r180 := by kernel_rfl
theorem q181 : c181 = rconv r181 := by kernel_rfl
theorem q182 : c182 = rconv r182 := by kernel_rfl
theorem q183 : c183 = rconv r183 := by kernel_rfl
theorem q184 : c184 = rconv r184 := by kernel_rfl
theorem q185 : c185 = rconv r185 := by kernel_rfl
theorem q186 : c186 = rconv r186 := by kernel_rfl
theorem q187 : c187 = rconv r187 := by kernel_rfl
theorem q196 : c196 = rconv r196 := by kernel_rfl
theorem q197 : c197 = rconv r197 := by kernel_rfl
theorem q198 : c198 = rconv r198 := by kernel_rfl
theorem q223 : c223 = rconv r223 := by kernel_rfl
theorem q229 : c229 = rconv r229 := by kernel_rfl
theorem q230 : c230 = rconv r230 := by kernel_rfl
theorem q250 : c250 = rconv r250 := by kernel_rfl
theorem X_TL : X_T = triOf X_L := by kernel_rfl
end Go.Jq

namespace Go.Jq
variable {G : Nat → SFunc} {h : AH} {R : Value → AH → Prop}

theorem x_fine : (X_L.all fun x => match x.2 with | .inl r => r.body.fine | .inr _ => true) = true := by kernel_rfl
theorem x_fine' : ∀ x ∈ X_L, ∀ r, x.2 = .inl r → r.body.fine = true := fun x hx r e => by
  have := List.all_eq_true.1 x_fine x hx
  rw [e] at this; exact this
theorem okAll_elim {n N : Nat} {o : Option (EV × TH)} (H : okAll n N o = true) : ∃ b q sp c T, o = some (.tup [.slc b q sp n c, .raw (.bool true)], T) ∧ T.next = N := by
  unfold okAll at H
  split at H
  · rename_i b q sp m c T
    cases e : Nat.beq m n with
    | false => rw [e] at H; simp at H
    | true =>
      rw [e] at H
      simp only [cond_true] at H
      obtain rfl := Nat.eq_of_beq_eq_true e
      exact ⟨b, q, sp, c, T, rfl, Nat.eq_of_beq_eq_true H⟩
  · simp at H
theorem run_all (g : ∀ x ∈ X_L, G x.1 = rconv x.2) {n N k : Nat} {args : List EV} {T0 : TH} (H : okAll n N ((machR X_T k).call 19 args T0) = true) {vs : List Value} (ha : args.map (den h.next) = vs)
    (kk : ∀ h1 a c, (∀ y, y < h.next → h1.get y = h.get y) → h1.next = h.next + N → R (.tuple #[.slice a n c, .bool true]) h1) : WC G 19 vs (denH h T0) R := by
  obtain ⟨b, q, sp, c, T, e, hN⟩ := okAll_elim H
  refine carriedR X_TL x_fine' g e ha ?_
  have := kk (denH h T) (some ⟨h.next + b, q, sp⟩) c (fun y hy => denH_ext hy) (by rw [denH_next, hN])
  simpa [den, denL] using this

/-- the first shape, made -/
def SBat (h hh : AH) (p : Value) : Prop := ∃ v T, sb0 = some (v, T) ∧ p = den h.next v ∧ hh = denH h T
theorem sb_make (g : ∀ x ∈ X_L, G x.1 = rconv x.2) {m : Int} {n N : Nat} (H : okAll n N (runSB m) = true) (k : ∀ h1 p, SBat h h1 p → R p h1) : WC G 20 [] h R := by
  cases e : sb0 with
  | none => unfold runSB at H; rw [e] at H; simp [okAll] at H
  | some x =>
    obtain ⟨v, T⟩ := x
    have := carriedR (h := h) (R := R) X_TL x_fine' g (n := 30) (f := 20) (args := []) (T0 := ⟨0, .leaf⟩) (vs := []) e rfl (k _ _ ⟨v, T, e, rfl, rfl⟩)
    rw [denH_nil] at this
    exact this
theorem sb_all (g : ∀ x ∈ X_L, G x.1 = rconv x.2) {m : Int} {n N : Nat} (H : okAll n N (runSB m) = true) {hh : AH} {p : Value} (S : SBat h hh p)
    (k : ∀ h1 a c, (∀ y, y < h.next → h1.get y = h.get y) → h1.next = h.next + N → R (.tuple #[.slice a n c, .bool true]) h1) : WC G 19 [p, .int .i64 m, .int .i64 100] hh R := by
  obtain ⟨v, T, e, rfl, rfl⟩ := S
  unfold runSB at H
  rw [e] at H
  exact run_all g H rfl k

def mpL : List (Nat × EBlk) := [(0, .cells [eI (-1), eI 1] false false),
  (1, .cells [.raw (.int .u8 120), .raw (.int .u8 121)] false false),
  (2, .cells [eI 0, eI 0] false false),
  (3, .cells [eI 1, eI 0, eI 0, eI (-1), eI 1, eI 0, eI 0, eI 0, eI 0, eI 1, eI 0, eI 1, eI (-1), eI 1, eI 0, eI 0, eI 0, eI 0] false false),
  (4, .cells [eI 2, eI 0, eI 1, eI 0, eI 0, eI 0, eI 0, eI 0, eI 0, eI 2, eI 1, eI 0, eI 0, eI 0, eI 0, eI 0, eI 0, eI 0] false false),
  (5, .cells [.slc 3 0 none 2 2, .slc 4 0 none 2 2] false false)]
/-- the second shape: it stands behind 'b', and other things behind it -/
theorem mp_all (g : ∀ x ∈ X_L, G x.1 = rconv x.2) {m : Int} {n N N0 b : Nat} (H : okAll n N (runMP m N0) = true) {hh : AH} (hn : hh.next = b + N0) (hg : ∀ x ∈ mpL, hh.get (b + x.1) = denB b x.2) {vs : List Value} (ha : [mpV, eI m, eI 100].map (den b) = vs)
    (k : ∀ h1 a c, R (.tuple #[.slice a n c, .bool true]) h1) : WC G 19 vs hh R := by
  have e : hh = denH ⟨b, hh.get⟩ ⟨N0, mpTri⟩ := by
    refine AH.ext'' hn fun i => ?_
    simp only [denH]
    split
    · rfl
    · rename_i hi
      split
      · rename_i x ex
        have := hg _ (triOf_get (l := mpL) ex)
        rw [show b + (i - b) = i by omega] at this
        exact this
      · rfl
  rw [e]
  exact run_all (h := ⟨b, hh.get⟩) g H ha fun h1 a c _ _ => k h1 a c

/-- the law's own check of what the document fixes -/
theorem aw12_spec (g : ∀ x ∈ X_L, G x.1 = rconv x.2) (g21 : G 21 = c21) (k : ∀ h1, R (.bool true) h1) : WC G 21 [] h R := by
  refine WC_enter g21 rfl ?_
  show W G c21_body _ _ (retK [.tmp 0] R)
  unfold c21_body c21_0 c21_1
  simp -implicitDefEqProofs
  refine sb_make g kr1 fun h1 p S1 => ?_
  simp -implicitDefEqProofs
  refine sb_all g kr1 S1 fun h2 a2 n2 _ _ => ?_
  simp -implicitDefEqProofs [c21_2]
  refine sb_make g kr2 fun h3 p3 S3 => ?_
  simp -implicitDefEqProofs
  refine sb_all g kr2 S3 fun h4 a4 n4 _ _ => ?_
  simp -implicitDefEqProofs [c21_3]
  exact k _
end Go.Jq

namespace Go.Jq
variable {G : Nat → SFunc} {h : AH} {R : Value → AH → Prop}

theorem zi_9 : zi 9 = [.int .i64 0, .int .i64 0, .int .i64 0, .int .i64 0, .int .i64 0, .int .i64 0, .int .i64 0, .int .i64 0, .int .i64 0] := rfl
theorem zi_18 : zi 18 = [.int .i64 0, .int .i64 0, .int .i64 0, .int .i64 0, .int .i64 0, .int .i64 0, .int .i64 0, .int .i64 0, .int .i64 0, .int .i64 0, .int .i64 0, .int .i64 0, .int .i64 0, .int .i64 0, .int .i64 0, .int .i64 0, .int .i64 0, .int .i64 0] := rfl
theorem w_0 : IntKind.i64.wrap 0 = 0 := by decide
theorem w_1 : IntKind.i64.wrap 1 = 1 := by decide
theorem w_2 : IntKind.i64.wrap 2 = 2 := by decide
theorem counts1 (g : ∀ x ∈ X_L, G x.1 = rconv x.2) (g21 : G 21 = c21) (g16 : G 16 = c16) {a : Int} (ha : IntKind.i64.wrap ((iand .i64 a 255).tmod 3 + 1) = 1) (k : ∀ h1, R (.bool true) h1) : WC G 16 [.int .i64 a] h R := by
  refine WC_enter g16 rfl ?_
  show W G c16_body _ _ (retK [.tmp 2] R)
  unfold c16_body c16_0 c16_1
  simp -implicitDefEqProofs [ha]
  simp -implicitDefEqProofs [c16_2]
  simp -implicitDefEqProofs [c16_3, zi_9, zi_18, splice, markB]
  generalize e : AH.put _ (h.next + 4 + 2) _ = hh
  have hn : hh.next = h.next + 7 := by subst e; simp
  have hg : ∀ x ∈ mpL, hh.get (h.next + x.1) = denB h.next x.2 := by
    intro x hx
    simp only [mpL, List.mem_cons, List.not_mem_nil, or_false] at hx
    subst e
    rcases hx with rfl | rfl | rfl | rfl | rfl | rfl <;> simp [denB, den, eI, Nat.add_assoc]
  have h6 : hh.get (h.next + 6) = .cells [.slice (some ⟨h.next + 1, 0, none⟩) 2 2, .slice (some ⟨h.next + 2, 0, none⟩) 2 2, .slice (some ⟨h.next + 5, 0, none⟩) 2 2] false false := by subst e; simp [Nat.add_assoc]
  clear e
  simp -implicitDefEqProofs [c16_4]
  refine sb_make g kr1 fun h1 p S1 => ?_
  simp -implicitDefEqProofs
  refine sb_all g kr1 S1 fun h2 a2 n2 g2 n2' => ?_
  have hg2 : ∀ x ∈ mpL, h2.get (h.next + x.1) = denB h.next x.2 := fun x hx => by
    rw [g2 _ (by
      simp only [mpL, List.mem_cons, List.not_mem_nil, or_false] at hx
      rcases hx with rfl | rfl | rfl | rfl | rfl | rfl <;> simp only [] <;> omega)]
    exact hg x hx
  have h62 : h2.get (h.next + 6) = _ := (g2 _ (by omega)).trans h6
  have hn2 : h2.next = h.next + 3596 := by omega
  simp -implicitDefEqProofs [c16_5, Nat.add_assoc, h62]
  refine mp_all g (b := h.next) kr4 hn2 hg2 (by simp [mpV, eI, den, denL]) fun h3 a3 n3 => ?_
  simp -implicitDefEqProofs [c16_6, w_0, w_1, w_2]
  refine aw12_spec g g21 fun h4 => ?_
  simp -implicitDefEqProofs
  exact k _
theorem counts2 (g : ∀ x ∈ X_L, G x.1 = rconv x.2) (g21 : G 21 = c21) (g16 : G 16 = c16) {a : Int} (ha : IntKind.i64.wrap ((iand .i64 a 255).tmod 3 + 1) = 2) (k : ∀ h1, R (.bool true) h1) : WC G 16 [.int .i64 a] h R := by
  refine WC_enter g16 rfl ?_
  show W G c16_body _ _ (retK [.tmp 2] R)
  unfold c16_body c16_0 c16_1
  simp -implicitDefEqProofs [ha]
  simp -implicitDefEqProofs [c16_2]
  simp -implicitDefEqProofs [c16_3, zi_9, zi_18, splice, markB]
  generalize e : AH.put _ (h.next + 4 + 2) _ = hh
  have hn : hh.next = h.next + 7 := by subst e; simp
  have hg : ∀ x ∈ mpL, hh.get (h.next + x.1) = denB h.next x.2 := by
    intro x hx
    simp only [mpL, List.mem_cons, List.not_mem_nil, or_false] at hx
    subst e
    rcases hx with rfl | rfl | rfl | rfl | rfl | rfl <;> simp [denB, den, eI, Nat.add_assoc]
  have h6 : hh.get (h.next + 6) = .cells [.slice (some ⟨h.next + 1, 0, none⟩) 2 2, .slice (some ⟨h.next + 2, 0, none⟩) 2 2, .slice (some ⟨h.next + 5, 0, none⟩) 2 2] false false := by subst e; simp [Nat.add_assoc]
  clear e
  simp -implicitDefEqProofs [c16_4]
  refine sb_make g kr2 fun h1 p S1 => ?_
  simp -implicitDefEqProofs
  refine sb_all g kr2 S1 fun h2 a2 n2 g2 n2' => ?_
  have hg2 : ∀ x ∈ mpL, h2.get (h.next + x.1) = denB h.next x.2 := fun x hx => by
    rw [g2 _ (by
      simp only [mpL, List.mem_cons, List.not_mem_nil, or_false] at hx
      rcases hx with rfl | rfl | rfl | rfl | rfl | rfl <;> simp only [] <;> omega)]
    exact hg x hx
  have h62 : h2.get (h.next + 6) = _ := (g2 _ (by omega)).trans h6
  have hn2 : h2.next = h.next + 3867 := by omega
  simp -implicitDefEqProofs [c16_5, Nat.add_assoc, h62]
  refine mp_all g (b := h.next) kr5 hn2 hg2 (by simp [mpV, eI, den, denL]) fun h3 a3 n3 => ?_
  simp -implicitDefEqProofs [c16_6, w_0, w_1, w_2]
  refine aw12_spec g g21 fun h4 => ?_
  simp -implicitDefEqProofs
  exact k _
theorem counts3 (g : ∀ x ∈ X_L, G x.1 = rconv x.2) (g21 : G 21 = c21) (g16 : G 16 = c16) {a : Int} (ha : IntKind.i64.wrap ((iand .i64 a 255).tmod 3 + 1) = 3) (k : ∀ h1, R (.bool true) h1) : WC G 16 [.int .i64 a] h R := by
  refine WC_enter g16 rfl ?_
  show W G c16_body _ _ (retK [.tmp 2] R)
  unfold c16_body c16_0 c16_1
  simp -implicitDefEqProofs [ha]
  simp -implicitDefEqProofs [c16_2]
  simp -implicitDefEqProofs [c16_3, zi_9, zi_18, splice, markB]
  generalize e : AH.put _ (h.next + 4 + 2) _ = hh
  have hn : hh.next = h.next + 7 := by subst e; simp
  have hg : ∀ x ∈ mpL, hh.get (h.next + x.1) = denB h.next x.2 := by
    intro x hx
    simp only [mpL, List.mem_cons, List.not_mem_nil, or_false] at hx
    subst e
    rcases hx with rfl | rfl | rfl | rfl | rfl | rfl <;> simp [denB, den, eI, Nat.add_assoc]
  have h6 : hh.get (h.next + 6) = .cells [.slice (some ⟨h.next + 1, 0, none⟩) 2 2, .slice (some ⟨h.next + 2, 0, none⟩) 2 2, .slice (some ⟨h.next + 5, 0, none⟩) 2 2] false false := by subst e; simp [Nat.add_assoc]
  clear e
  simp -implicitDefEqProofs [c16_4]
  refine sb_make g kr3 fun h1 p S1 => ?_
  simp -implicitDefEqProofs
  refine sb_all g kr3 S1 fun h2 a2 n2 g2 n2' => ?_
  have hg2 : ∀ x ∈ mpL, h2.get (h.next + x.1) = denB h.next x.2 := fun x hx => by
    rw [g2 _ (by
      simp only [mpL, List.mem_cons, List.not_mem_nil, or_false] at hx
      rcases hx with rfl | rfl | rfl | rfl | rfl | rfl <;> simp only [] <;> omega)]
    exact hg x hx
  have h62 : h2.get (h.next + 6) = _ := (g2 _ (by omega)).trans h6
  have hn2 : h2.next = h.next + 3867 := by omega
  simp -implicitDefEqProofs [c16_5, Nat.add_assoc, h62]
  refine mp_all g (b := h.next) kr6 hn2 hg2 (by simp [mpV, eI, den, denL]) fun h3 a3 n3 => ?_
  simp -implicitDefEqProofs [c16_6, w_0, w_1, w_2]
  refine aw12_spec g g21 fun h4 => ?_
  simp -implicitDefEqProofs
  exact k _

theorem AxiomCounts_spec (g : ∀ x ∈ X_L, G x.1 = rconv x.2) (g21 : G 21 = c21) (g16 : G 16 = c16) {a : Int} (k : ∀ h1, R (.bool true) h1) : WC G 16 [.int .i64 a] h R := by
  have b := iand_bound (a := a) (m := 255) (by omega) (by omega)
  have e : IntKind.i64.wrap ((iand .i64 a 255).tmod 3 + 1) = 1 ∨ IntKind.i64.wrap ((iand .i64 a 255).tmod 3 + 1) = 2 ∨ IntKind.i64.wrap ((iand .i64 a 255).tmod 3 + 1) = 3 := by
    rw [Int.tmod_eq_emod_of_nonneg b.1, wrap64 (by omega)]
    omega
  rcases e with e | e | e
  · exact counts1 g g21 g16 e k
  · exact counts2 g g21 g16 e k
  · exact counts3 g g21 g16 e k
end Go.Jq

