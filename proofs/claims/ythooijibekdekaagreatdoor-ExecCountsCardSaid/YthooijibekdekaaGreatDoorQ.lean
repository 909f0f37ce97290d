/- The functions are the given ones. Printed by mkres.py. -/
import Derived.Test.YthooijibekdekaaGreatDoorX2
import Derived.KernelRfl
import Derived.Test.YthooijibekdekaaGreatDoorM3
import Derived.Test.YthooijibekdekaaGreatDoorK1
import Derived.Test.YthooijibekdekaaGreatDoorK2
import Derived.Test.YthooijibekdekaaGreatDoorK3
import Derived.Test.YthooijibekdekaaGreatDoorK4
import Derived.Test.YthooijibekdekaaGreatDoorK5
import Derived.Test.YthooijibekdekaaGreatDoorK6
set_option linter.unusedSimpArgs false
set_option linter.unusedVariables false
set_option maxRecDepth 20000
namespace Go.Jq
theorem q17 : c17 = rconv r17 := by kernel_rfl
theorem q22 : c22 = rconv r22 := by kernel_rfl
theorem q23 : c23 = rconv r23 := by kernel_rfl
theorem q30 : c30 = rconv r30 := by kernel_rfl
theorem q31 : c31 = rconv r31 := by kernel_rfl
theorem q33 : c33 = rconv r33 := by kernel_rfl
theorem q36 : c36 = rconv r36 := by kernel_rfl
theorem q37 : c37 = rconv r37 := by kernel_rfl
theorem q38 : c38 = rconv r38 := by kernel_rfl
theorem q39 : c39 = rconv r39 := by kernel_rfl
theorem q40 : c40 = rconv r40 := by kernel_rfl
theorem q41 : c41 = rconv r41 := by kernel_rfl
theorem q52 : c52 = rconv r52 := by kernel_rfl
theorem q53 : c53 = rconv r53 := by kernel_rfl
theorem q56 : c56 = rconv r56 := by kernel_rfl
theorem q57 : c57 = rconv r57 := by kernel_rfl
theorem q58 : c58 = rconv r58 := by kernel_rfl
theorem q59 : c59 = rconv r59 := by kernel_rfl
theorem q60 : c60 = rconv r60 := by kernel_rfl
theorem q61 : c61 = rconv r61 := by kernel_rfl
theorem q62 : c62 = rconv r62 := by kernel_rfl
theorem q63 : c63 = rconv r63 := by kernel_rfl
theorem q64 : c64 = rconv r64 := by kernel_rfl
theorem q65 : c65 = rconv r65 := by kernel_rfl
theorem q66 : c66 = rconv r66 := by kernel_rfl
theorem q67 : c67 = rconv r67 := by kernel_rfl
theorem q68 : c68 = rconv r68 := by kernel_rfl
theorem q69 : c69 = rconv r69 := by kernel_rfl
theorem q70 : c70 = rconv r70 := by kernel_rfl
theorem q78 : c78 = rconv r78 := by kernel_rfl
theorem q79 : c79 = rconv r79 := by kernel_rfl
theorem q80 : c80 = rconv r80 := by kernel_rfl
theorem q81 : c81 = rconv r81 := by kernel_rfl
theorem q82 : c82 = rconv r82 := by kernel_rfl
theorem q83 : c83 = rconv r83 := by kernel_rfl
theorem q84 : c84 = rconv r84 := by kernel_rfl
theorem q85 : c85 = rconv r85 := by kernel_rfl
theorem q86 : c86 = rconv r86 := by kernel_rfl
theorem q87 : c87 = rconv r87 := by kernel_rfl
theorem q98 : c98 = rconv r98 := by kernel_rfl
theorem q100 : c100 = rconv r100 := by kernel_rfl
theorem q101 : c101 = rconv r101 := by kernel_rfl
theorem q102 : c102 = rconv r102 := by kernel_rfl
theorem q103 : c103 = rconv r103 := by kernel_rfl
theorem q104 : c104 = rconv r104 := by kernel_rfl
theorem q105 : c105 = rconv r105 := by kernel_rfl
theorem q106 : c106 = rconv r106 := by kernel_rfl
theorem q107 : c107 = rconv r107 := by kernel_rfl
theorem q108 : c108 = rconv r108 := by kernel_rfl
theorem q109 : c109 = rconv r109 := by kernel_rfl
theorem q110 : c110 = rconv r110 := by kernel_rfl
theorem q111 : c111 = rconv r111 := by kernel_rfl
theorem q112 : c112 = rconv r112 := by kernel_rfl
theorem q113 : c113 = rconv r113 := by kernel_rfl
theorem q114 : c114 = rconv r114 := by kernel_rfl
theorem q115 : c115 = rconv r115 := by kernel_rfl
theorem q116 : c116 = rconv r116 := by kernel_rfl
theorem q117 : c117 = rconv r117 := by kernel_rfl
theorem q118 : c118 = rconv r118 := by kernel_rfl
theorem q119 : c119 = rconv r119 := by kernel_rfl
theorem q120 : c120 = rconv r120 := by kernel_rfl
theorem q121 : c121 = rconv r121 := by kernel_rfl
theorem q122 : c122 = rconv r122 := by kernel_rfl
theorem q123 : c123 = rconv r123 := by kernel_rfl
theorem q124 : c124 = rconv r124 := by kernel_rfl
theorem q140 : c140 = rconv r140 := by kernel_rfl
theorem q141 : c141 = rconv r141 := by kernel_rfl
theorem q142 : c142 = rconv r142 := by kernel_rfl
theorem q143 : c143 = rconv r143 := by kernel_rfl
theorem q144 : c144 = rconv r144 := by kernel_rfl
theorem q145 : c145 = rconv r145 := by kernel_rfl
theorem q146 : c146 = rconv r146 := by kernel_rfl
theorem q147 : c147 = rconv r147 := by kernel_rfl
theorem q148 : c148 = rconv r148 := by kernel_rfl
theorem q149 : c149 = rconv r149 := by kernel_rfl
theorem q150 : c150 = rconv r150 := by kernel_rfl
theorem q151 : c151 = rconv r151 := by kernel_rfl
theorem q153 : c153 = rconv r153 := by kernel_rfl
theorem q154 : c154 = rconv r154 := by kernel_rfl
theorem q171 : c171 = rconv r171 := by kernel_rfl
theorem q172 : c172 = rconv r172 := by kernel_rfl
theorem q173 : c173 = rconv r173 := by kernel_rfl
theorem q174 : c174 = rconv r174 := by kernel_rfl
theorem q176 : c176 = rconv r176 := by kernel_rfl
theorem q177 : c177 = rconv r177 := by kernel_rfl
theorem q178 : c178 = rconv r178 := by kernel_rfl
theorem q179 : c179 = rconv r179 := by kernel_rfl
theorem q180 : c180 = rconv r180 := by kernel_rfl
theorem q187 : c187 = rconv r187 := by kernel_rfl
theorem q190 : c190 = rconv r190 := by kernel_rfl
theorem q192 : c192 = rconv r192 := by kernel_rfl
theorem q196 : c196 = rconv r196 := by kernel_rfl
theorem q197 : c197 = rconv r197 := by kernel_rfl
theorem q198 : c198 = rconv r198 := by kernel_rfl
theorem q199 : c199 = rconv r199 := by kernel_rfl
theorem q200 : c200 = rconv r200 := by kernel_rfl
theorem q201 : c201 = rconv r201 := by kernel_rfl
theorem q223 : c223 = rconv r223 := by kernel_rfl
theorem q228 : c228 = rconv r228 := by kernel_rfl
theorem q229 : c229 = rconv r229 := by kernel_rfl
theorem q230 : c230 = rconv r230 := by kernel_rfl
theorem q231 : c231 = rconv r231 := by kernel_rfl
theorem q250 : c250 = rconv r250 := by kernel_rfl
theorem q251 : c251 = rconv r251 := by kernel_rfl
theorem U_TL : U_T = triOf U_L := by kernel_rfl
end Go.Jq
namespace Go.Jq
theorem iEq_eq : ∀ {a b : Int}, iEq a b = true → a = b
  | .ofNat a, .ofNat b, h => by rw [Nat.eq_of_beq_eq_true h]
  | .negSucc a, .negSucc b, h => by rw [Nat.eq_of_beq_eq_true h]
  | .ofNat _, .negSucc _, h => by simp [iEq] at h
  | .negSucc _, .ofNat _, h => by simp [iEq] at h
theorem bEq_eq : ∀ {a b : Bool}, bEq a b = true → a = b := by decide
theorem nEq {a b : Nat} (h : Nat.beq a b = true) : a = b := Nat.eq_of_beq_eq_true h
theorem cnd {a b : Bool} (h : cond a b false = true) : a = true ∧ b = true := by cases a <;> simp_all
theorem evEq_eq {a b : EV} (h : evEq a b = true) : a = b := by
  unfold evEq at h
  split at h
  · rw [iEq_eq h]
  · rw [iEq_eq h]
  · rw [bEq_eq h]
  · obtain ⟨h1, h2⟩ := cnd h; rw [nEq h1, nEq h2]
  · obtain ⟨h1, h⟩ := cnd h; obtain ⟨h2, h⟩ := cnd h; obtain ⟨h3, h⟩ := cnd h; rw [nEq h1, nEq h2, nEq h3, nEq h]
  · obtain ⟨h1, h⟩ := cnd h; obtain ⟨h2, h⟩ := cnd h; obtain ⟨h3, h⟩ := cnd h; obtain ⟨h4, h⟩ := cnd h; rw [nEq h1, nEq h2, nEq h3, nEq h4, nEq h]
  · simp at h
theorem evsEq_eq : ∀ {l m : List EV}, evsEq l m = true → l = m
  | [], [], _ => rfl
  | a :: l, b :: m, h => by
    obtain ⟨h1, h2⟩ := cnd h
    rw [evEq_eq h1, evsEq_eq h2]
  | [], _ :: _, h => by simp [evsEq] at h
  | _ :: _, [], h => by simp [evsEq] at h
theorem frEq_eq : ∀ {l m : EFr}, frEq l m = true → l = m
  | [], [], _ => rfl
  | (i, a) :: l, (j, b) :: m, h => by
    obtain ⟨h1, h2⟩ := cnd h
    obtain ⟨h2, h3⟩ := cnd h2
    rw [nEq h1, evEq_eq h2, frEq_eq h3]
  | [], _ :: _, h => by simp [frEq] at h
  | _ :: _, [], h => by simp [frEq] at h
theorem blkEq_eq {a b : EBlk} (h : blkEq a b = true) : a = b ∧ b ≠ .dead := by
  unfold blkEq at h
  split at h
  · obtain ⟨h1, h⟩ := cnd h; obtain ⟨h2, h⟩ := cnd h
    rw [evsEq_eq h1, bEq_eq h2, bEq_eq h]; exact ⟨rfl, by simp⟩
  · simp at h
structure Pt.At (p : Pt) (b : Nat) (F : Fr) (hh : AH) : Prop where
  fr : F = denF b p.F
  next : hh.next = b + p.N
  blk : ∀ x ∈ p.L, hh.get (b + x.1) = denB b x.2
theorem Pt.At.heap {p : Pt} {b : Nat} {F : Fr} {hh : AH} (P : p.At b F hh) : hh = denH ⟨b, hh.get⟩ p.th := by
  refine AH.ext'' P.next fun i => ?_
  simp only [denH, Pt.th]
  split
  · rfl
  · rename_i hi
    split
    · rename_i x ex
      have := P.blk _ (triOf_get ex)
      rw [show b + (i - b) = i by omega] at this
      exact this
    · rfl
theorem allEq_eq {T : TH} : ∀ {l : List (Nat × EBlk)}, allEq T l = true → ∀ x ∈ l, T.get x.1 = x.2 ∧ x.2 ≠ .dead
  | [], _, x, hx => by simp at hx
  | (i, b) :: l, h, x, hx => by
    obtain ⟨h1, h2⟩ := cnd h
    rcases List.mem_cons.1 hx with rfl | hx
    · exact blkEq_eq h1
    · exact allEq_eq h2 x hx
variable {G : Nat → SFunc}
def Runs (G : Nat → SFunc) (c : SCode) (F : Fr) (h : AH) (Q : SExit → Fr → AH → Prop) : Prop := ∃ e F1 h1, Run G (.code c F h) (.code e F1 h1) ∧ Q e F1 h1
def seqL : List SCode → SCode → SCode
  | [], X => X
  | c :: l, X => .seq c (seqL l X)
theorem runL_ok {h : AH} {call : ECall} {loop : ELoop} (hc : CallOk G h call) (hl : LoopOk G h loop) {X : SCode} {Q : SExit → Fr → AH → Prop} : ∀ {l : List SCode} {F F1 : EFr} {T T1 : TH}, runL call loop l F T = some (F1, T1) → Runs G X (denF h.next F1) (denH h T1) Q → Runs G (seqL l X) (denF h.next F) (denH h T) Q
  | [], F, F1, T, T1, H, k => by
    simp only [runL, Option.some.injEq, Prod.mk.injEq] at H; obtain ⟨rfl, rfl⟩ := H; exact k
  | c :: l, F, F1, T, T1, H, k => by
    simp only [runL] at H
    split at H
    · rename_i F2 T2 e2
      obtain ⟨e, F3, h3, r, q⟩ := runL_ok hc hl H k
      exact ⟨e, F3, h3, .seqN (codeE_ok hc hl e2) r, q⟩
    · simp at H
theorem u_fine : (U_L.all fun x => match x.2 with | .inl r => r.body.fine | .inr _ => true) = true := by kernel_rfl
theorem u_fine' : ∀ x ∈ U_L, ∀ r, x.2 = .inl r → r.body.fine = true := fun x hx r e => by
  have := List.all_eq_true.1 u_fine x hx
  rw [e] at this; exact this
theorem uRun_ok (g : ∀ x ∈ U_L, G x.1 = rconv x.2) {l : List SCode} {p : Pt} {b : Nat} {F : Fr} {hh : AH} (P : p.At b F hh) {F1 : EFr} {T1 : TH} (H : uRun l p = some (F1, T1)) {X : SCode} {Q : SExit → Fr → AH → Prop}
    (k : Runs G X (denF b F1) (denH ⟨b, hh.get⟩ T1) Q) : Runs G (seqL l X) F hh Q := by
  have hm := mach_ok (G := G) (h := ⟨b, hh.get⟩) (Gt := triOf (U_L.map fun x => (x.1, rconv x.2))) (fun f s e => by
    rw [triOf_map] at e
    simp only [Option.map_eq_some_iff] at e
    obtain ⟨u, e1, rfl⟩ := e
    exact g _ (triOf_get e1)) 3000
  have e := machR_eq u_fine' 3000
  unfold uRun at H
  rw [U_TL, e.1, e.2.1] at H
  rw [P.heap, P.fr]
  exact runL_ok (h := ⟨b, hh.get⟩) hm.1 hm.2 H k
theorem seg (g : ∀ x ∈ U_L, G x.1 = rconv x.2) {l : List SCode} {p q : Pt} {b : Nat} {F : Fr} {hh : AH} (P : p.At b F hh) (H : segOk q (uRun l p) = true) {X : SCode} {Q : SExit → Fr → AH → Prop}
    (k : ∀ F1 h1, q.At b F1 h1 → Runs G X F1 h1 Q) : Runs G (seqL l X) F hh Q := by
  unfold segOk at H
  split at H
  · rename_i F1 T1 e
    obtain ⟨h1, h⟩ := cnd H
    obtain ⟨h2, h3⟩ := cnd h
    refine uRun_ok g P e (k _ _ ⟨by rw [frEq_eq h1], by rw [denH_next, nEq h2], fun x hx => ?_⟩)
    obtain ⟨e1, e2⟩ := allEq_eq h3 x hx
    exact denH_get (h := ⟨b, hh.get⟩) e1 e2
  · simp at H
theorem segEnd (g : ∀ x ∈ U_L, G x.1 = rconv x.2) {l : List SCode} {p : Pt} {b : Nat} {F : Fr} {hh : AH} (P : p.At b F hh) (H : okEnd (uRun l p) = true) {X : SCode} {Q : SExit → Fr → AH → Prop}
    (k : ∀ h1, Runs G X [(2, .bool true)] h1 Q) : Runs G (seqL l X) F hh Q := by
  unfold okEnd at H
  split at H
  · rename_i b1 T1 e
    subst H
    exact uRun_ok g P e (k _)
  · simp at H
theorem c17_eq : c17_body = .seq (.reg [0] c17_0) (.seq (.reg [0] c17_1) (seqL [lA, lB, lC, lD, lE, lF, lG, lH] .ret)) := rfl
theorem rest_ok (g : ∀ x ∈ U_L, G x.1 = rconv x.2) {n : Int} (hn : n = 1 ∨ n = 2 ∨ n = 3) {h : AH} : Runs G (seqL [lA, lB, lC, lD, lE, lF, lG, lH] .ret) [(0, .int .i64 n)] h fun e F1 _ => e = .ret ∧ F1 = [(2, .bool true)] := by
  have fin : ∀ h1, Runs G .ret [(2, .bool true)] h1 fun e F1 _ => e = .ret ∧ F1 = [(2, .bool true)] := fun h1 => ⟨_, _, _, .ret, rfl, rfl⟩
  rcases hn with rfl | rfl | rfl
  · exact segEnd g (p := p1) (b := h.next) ⟨rfl, rfl, fun x hx => by simp [p1] at hx⟩ ks1 fin
  · exact segEnd g (p := p2) (b := h.next) ⟨rfl, rfl, fun x hx => by simp [p2] at hx⟩ ks2 fin
  · refine seg g (l := [lA, lB, lC, lD]) (X := seqL [lE, lF, lG, lH] .ret) (p := p3) (q := p3a) (b := h.next) ⟨rfl, rfl, fun x hx => by simp [p3] at hx⟩ ks3 fun F1 h1 P1 => ?_
    refine seg g (l := [lE, lF]) (X := seqL [lG, lH] .ret) (q := p3b) P1 ks4 fun F2 h2 P2 => ?_
    refine seg g (l := [lG]) (X := seqL [lH] .ret) (q := p3c) P2 ks5 fun F3 h3 P3 => ?_
    exact segEnd g (l := [lH]) (X := .ret) P3 ks6 fin
theorem and3 (a : Int) : IntKind.i64.wrap ((iand .i64 a 255).tmod 3 + 1) = 1 ∨ IntKind.i64.wrap ((iand .i64 a 255).tmod 3 + 1) = 2 ∨ IntKind.i64.wrap ((iand .i64 a 255).tmod 3 + 1) = 3 := by
  have b := iand_bound (a := a) (m := 255) (by omega) (by omega)
  rw [Int.tmod_eq_emod_of_nonneg b.1, wrap64 (by omega)]
  omega
set_option maxHeartbeats 1000000 in
theorem ExecCounts_spec (g : ∀ x ∈ U_L, G x.1 = rconv x.2) (g17 : G 17 = c17) {n : Int} {h : AH} {R : Value → AH → Prop} (k : ∀ h1, R (.bool true) h1) : WC G 17 [.int .i64 n] h R := by
  have hk : ∃ m : Int, (m = 1 ∨ m = 2 ∨ m = 3) ∧ W G (.seq (.reg [0] c17_0) (.reg [0] c17_1)) (Fr.from 0 [.int .i64 n]) h fun e F1 h1 => e = .normal ∧ F1 = [(0, .int .i64 m)] := by
    have h3 : ∃ m : Int, (m = 1 ∨ m = 2 ∨ m = 3) ∧ IntKind.i64.wrap ((iand .i64 n 255).tmod 3 + 1) = m := ⟨_, and3 n, rfl⟩
    obtain ⟨m, hm, e⟩ := h3
    refine ⟨m, hm, ?_⟩
    unfold c17_0 c17_1
    simp -implicitDefEqProofs [e, Fr.from]
  obtain ⟨m, hm, H⟩ := hk
  obtain ⟨e, F1, h1, r, rfl, rfl⟩ := W_run H
  obtain ⟨e2, F2, h2, r2, rfl, rfl⟩ := rest_ok g hm (h := h1)
  refine ⟨_, h2, .enter (vs := [.bool true]) (by rw [g17]; rfl) (e := .ret) (F1 := [(2, .bool true)]) ?_ (.inr rfl) (by rw [g17]; rfl), k _⟩
  rw [g17]
  show Run G (.code c17_body _ _) _
  rw [c17_eq]
  cases r with
  | seqN ra rb => exact .seqN ra (.seqN rb r2)
  | seqE _ hne => exact absurd rfl hne
end Go.Jq
