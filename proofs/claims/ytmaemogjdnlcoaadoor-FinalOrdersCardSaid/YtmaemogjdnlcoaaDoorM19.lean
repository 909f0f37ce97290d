/- The small code's runs are the model's: the theorem. -/
import Derived.Test.YtmaemogjdnlcoaaDoorM18
set_option linter.unusedSimpArgs false
set_option linter.unusedVariables false
namespace Go.Jq
open Go.RowKit

/-- Each function that is named stands in the program, and its small code is its code's. -/
def NatOk (C : Ctx) (k : Nat) (F : FuncId) : Prop := ∀ (h : AH) (γ : Gm) (w : World) (args : List Value) (args' : Array Value) (v : Value), natOf k h args = some v → HR C γ h w → FA2 (VR C γ) args args'.toList → Calls C.P F args' w (Called C γ h v h)
def Tab (C : Ctx) (G : Nat → SFunc) : Prop := ∀ f, C.L f = true → (∃ fn ls, C.P.funcs[C.φ f]? = some fn ∧ cFunc C.P C.ψ fn ls = some (G f)) ∨ ∃ k, (G f).body = .native k ∧ NatOk C k (C.φ f)

theorem cCode_native {P : Program} {ψ : FuncId → Option Nat} {N k : Nat} {cd : Code} {ls ls' : List (List Nat)} : cCode P ψ N cd ls ≠ some (.native k, ls') := by
  intro hc
  cases cd <;> (try simp only [cCode] at hc) <;> try (simp at hc; done)
  all_goals first | ((repeat' split at hc) <;> simp at hc; done) | (cases ls <;> simp only [cCode] at hc <;> (repeat' split at hc) <;> simp at hc; done)
theorem cFunc_native {P : Program} {ψ : FuncId → Option Nat} {fn : Func} {ls : List (List Nat)} {s : SFunc} {k : Nat} (h : cFunc P ψ fn ls = some s) : s.body ≠ .native k := by
  unfold cFunc at h
  intro e
  split at h
  · split at h
    · rename_i sc rsl hcode hres
      split at h
      · simp only [Option.some.injEq] at h
        subst h
        simp only at e
        subst e
        exact cCode_native hcode
      · simp at h
    · simp at h
  · simp at h

section
variable {C : Ctx} {G : Nat → SFunc}

theorem cOpers_cons {P : Program} {ψ : FuncId → Option Nat} {N : Nat} {os : Array Oper} {ol : List Oper} {s : SOper} {l : List SOper} (h : cOpers P ψ N os ol = some (s :: l)) : ∃ o r, ol = o :: r ∧ cOper P ψ N os o = some s ∧ cOpers P ψ N os r = some l := by
  cases ol with
  | nil => simp [cOpers] at h
  | cons o r =>
    simp only [cOpers] at h
    split at h
    · rename_i a m h1 h2
      simp only [Option.some.injEq, List.cons.injEq] at h
      obtain ⟨rfl, rfl⟩ := h
      exact ⟨o, r, rfl, h1, h2⟩
    · simp at h

theorem wpList_on {P : Program} {os : Array Oper} {Q : Exit → Act → World → Prop} {o : Oper} {r : List Oper} {a : Act} {w : World} (hw : Region.wanted o (yielded os a.tmps) = true) (h : o.wp P a w (wpList P os Q r) Q) : wpList P os Q (o :: r) a w := by
  unfold wpList
  rw [if_pos hw]
  exact .inl h
theorem wpList_off {P : Program} {os : Array Oper} {Q : Exit → Act → World → Prop} {o : Oper} {r : List Oper} {a : Act} {w : World} (hw : Region.wanted o (yielded os a.tmps) = false) (h : wpList P os Q r (a.put o.dst undef) w) : wpList P os Q (o :: r) a w := by
  unfold wpList
  rw [if_neg (by rw [hw]; simp)]
  exact h

theorem from_get {args : List Value} {t : Nat} {v : Value} (h : (Fr.from 0 args).get t = some v) : args[t]? = some v := by
  rw [Fr.get_from] at h
  simpa using h

theorem seqE_post {e : SExit} {K : Act → World → Prop} {Q : Exit → Act → World → Prop} {a : Act} {w : World} (hne : e ≠ .normal) (h : Q e.conc a w) : Exit.then K Q e.conc a w := by
  cases e with
  | normal => exact absurd rfl hne
  | ret => exact h
  | exit id => exact h

theorem mapM_arr {P : Program} {w : World} {rv : Array ResultVar} {f g : ResultVar → Sem Value} {vs : List Value} (hfg : ∀ x, f x = g x) (h : (rv.toList.mapM f).run P w = .ok vs w) : (rv.mapM g).run P w = .ok vs.toArray w := by
  have : f = g := funext hfg
  subst this
  rw [Array.mapM_eq_mapM_toList, Sem.run_map, h]
  rfl

theorem sound (tab : Tab C G) {j : Job} {r : Res} (H : Run G j r) : Snd C G j r := by
  induction H with
  | skip =>
    refine ⟨Nat.le_refl _, fun N cd ls ls' hc γ w a hh hf => ?_⟩
    have post : Post C γ _ N .normal _ _ .normal a w := ⟨rfl, γ, .same (Nat.le_refl _), hh, hf⟩
    cases cd <;> (try simp only [cCode] at hc) <;> try (simp at hc; done)
    case skip => exact ⟨wp_skip post, fun b e => by simp at e⟩
    case label => exact ⟨wp_label post, fun b e => by simp at e⟩
    all_goals first | ((repeat' split at hc) <;> simp at hc; done) | (cases ls <;> simp only [cCode] at hc <;> (repeat' split at hc) <;> simp at hc; done)
  | ret =>
    refine ⟨Nat.le_refl _, fun N cd ls ls' hc γ w a hh hf => ?_⟩
    have post : Post C γ _ N .ret _ _ .ret a w := ⟨rfl, γ, .same (Nat.le_refl _), hh, hf⟩
    cases cd <;> (try simp only [cCode] at hc) <;> try (simp at hc; done)
    case ret => exact ⟨wp_ret post, fun b e => by simp at e⟩
    all_goals first | ((repeat' split at hc) <;> simp at hc; done) | (cases ls <;> simp only [cCode] at hc <;> (repeat' split at hc) <;> simp at hc; done)
  | exit =>
    rename_i id _ _
    refine ⟨Nat.le_refl _, fun N cd ls ls' hc γ w a hh hf => ?_⟩
    have post : Post C γ _ N (.exit id) _ _ (.exit id) a w := ⟨rfl, γ, .same (Nat.le_refl _), hh, hf⟩
    cases cd <;> (try simp only [cCode] at hc) <;> try (simp at hc; done)
    case exit => simp at hc; obtain ⟨rfl, _⟩ := hc; exact ⟨wp_exit post, fun b e => by simp at e⟩
    all_goals first | ((repeat' split at hc) <;> simp at hc; done) | (cases ls <;> simp only [cCode] at hc <;> (repeat' split at hc) <;> simp at hc; done)
  | seqN h1 h2 i1 i2 =>
    rename_i a b F F1 h hh1 r
    cases r with
    | ops => trivial
    | val => trivial
    | code e F2 h2' =>
      obtain ⟨n1, i1⟩ := i1
      obtain ⟨n2, i2⟩ := i2
      refine ⟨Nat.le_trans n1 n2, fun N cd ls ls' hc γ w ac hh hf => ?_⟩
      cases cd <;> (try simp only [cCode] at hc) <;> try (simp at hc; done)
      case seq x y =>
        split at hc
        · rename_i sx ls1 hx
          split at hc
          · rename_i sy ls2 hy
            simp only [Option.some.injEq, Prod.mk.injEq, SCode.seq.injEq] at hc
            obtain ⟨⟨rfl, rfl⟩, rfl⟩ := hc
            refine ⟨wp_seq (Code.wp_mono ?_ (i1 N x ls ls1 hx γ w ac hh hf).1), fun b e => by simp at e⟩
            intro e' a' w' hp
            obtain ⟨rfl, γ', g1, g2, g3⟩ := hp
            exact Code.wp_mono (fun e2 a2 w2 hp2 => Post.mono g1 hp2) (i2 N y ls1 ls2 hy γ' w' a' g2 g3).1
          · simp at hc
        · simp at hc
      all_goals first | ((repeat' split at hc) <;> simp at hc; done) | (cases ls <;> simp only [cCode] at hc <;> (repeat' split at hc) <;> simp at hc; done)
  | seqE h1 hne i1 =>
    obtain ⟨n1, i1⟩ := i1
    refine ⟨n1, fun N cd ls ls' hc γ w ac hh hf => ?_⟩
    cases cd <;> (try simp only [cCode] at hc) <;> try (simp at hc; done)
    case seq x y =>
      split at hc
      · rename_i sx ls1 hx
        split at hc
        · rename_i sy ls2 hy
          simp only [Option.some.injEq, Prod.mk.injEq, SCode.seq.injEq] at hc
          obtain ⟨⟨rfl, rfl⟩, rfl⟩ := hc
          refine ⟨wp_seq (Code.wp_mono ?_ (i1 N x ls ls1 hx γ w ac hh hf).1), fun b e => by simp at e⟩
          intro e' a' w' hp
          have he' := hp.1
          subst he'
          exact seqE_post hne hp
        · simp at hc
      · simp at hc
    all_goals first | ((repeat' split at hc) <;> simp at hc; done) | (cases ls <;> simp only [cCode] at hc <;> (repeat' split at hc) <;> simp at hc; done)
  | cond hv h1 i1 =>
    rename_i c t a b F h r
    cases r with
    | ops => trivial
    | val => trivial
    | code e F2 h2' =>
      obtain ⟨n1, i1⟩ := i1
      refine ⟨n1, fun N cd ls ls' hc γ w ac hh hf => ?_⟩
      cases cd <;> (try simp only [cCode] at hc) <;> try (simp at hc; done)
      case cond oc x y =>
        split at hc
        · rename_i sc sx ls1 h0 hx
          split at hc
          · rename_i sy ls2 hy
            simp only [Option.some.injEq, Prod.mk.injEq, SCode.cond.injEq] at hc
            obtain ⟨⟨rfl, rfl, rfl⟩, rfl⟩ := hc
            have hb := (hf.or oc sc _ h0 hv).bool_inv
            refine ⟨wp_cond hb ?_, fun b e => by simp at e⟩
            cases t with
            | true => exact (i1 N x ls ls1 hx γ w ac hh hf).1
            | false => exact (i1 N y ls1 ls2 hy γ w ac hh hf).1
          · simp at hc
        · simp at hc
      all_goals first | ((repeat' split at hc) <;> simp at hc; done) | (cases ls <;> simp only [cCode] at hc <;> (repeat' split at hc) <;> simp at hc; done)
  | block h1 i1 =>
    obtain ⟨n1, i1⟩ := i1
    refine ⟨n1, fun N cd ls ls' hc γ w ac hh hf => ?_⟩
    cases cd <;> (try simp only [cCode] at hc) <;> try (simp at hc; done)
    case block id x =>
      split at hc
      · rename_i sx ls1 hx
        simp only [Option.some.injEq, Prod.mk.injEq, SCode.block.injEq] at hc
        obtain ⟨⟨rfl, rfl⟩, rfl⟩ := hc
        exact ⟨wp_block (Code.wp_mono (fun e' a' w' hp => exit_block hp) (i1 N x ls ls1 hx γ w ac hh hf).1), fun b e => by simp at e⟩
      · simp at hc
    all_goals first | ((repeat' split at hc) <;> simp at hc; done) | (cases ls <;> simp only [cCode] at hc <;> (repeat' split at hc) <;> simp at hc; done)
  | loopN h1 h2 i1 i2 =>
    rename_i live a F F1 h hh1 r
    cases r with
    | ops => trivial
    | val => trivial
    | code e F2 h2' =>
      obtain ⟨n1, i1⟩ := i1
      obtain ⟨n2, i2⟩ := i2
      refine ⟨Nat.le_trans n1 n2, fun N cd ls ls' hc γ w ac hh hf => ?_⟩
      cases cd <;> (try simp only [cCode] at hc) <;> try (simp at hc; done)
      case loop x =>
        have hc0 := hc
        cases ls with
        | nil => simp [cCode] at hc
        | cons l0 ls0 =>
          simp only [cCode] at hc
          split at hc
          · rename_i sx ls1 hx
            simp only [Option.some.injEq, Prod.mk.injEq, SCode.loop.injEq] at hc
            obtain ⟨⟨rfl, rfl⟩, rfl⟩ := hc
            have key : LoopWp C.P x (Post C γ h N e F2 h2') ac w := by
              refine LoopWp.round (Code.wp_mono ?_ (i1 N x ls0 ls1 hx γ w ac hh (hf.keep _)).1)
              intro e' a' w' hp
              obtain ⟨rfl, γ', g1, g2, g3⟩ := hp
              have := (i2 N (.loop x) _ _ hc0 γ' w' a' g2 g3).2 x rfl
              intro b k cs
              obtain ⟨e3, a3, w3, q3, r3⟩ := this b k cs
              exact ⟨e3, a3, w3, Post.mono g1 q3, r3⟩
            exact ⟨key.wp, fun b eb => by simp only [Code.loop.injEq] at eb; subst eb; exact key⟩
          · simp at hc
      all_goals first | ((repeat' split at hc) <;> simp at hc; done) | (cases ls <;> simp only [cCode] at hc <;> (repeat' split at hc) <;> simp at hc; done)
  | loopE h1 hne i1 =>
    rename_i live a F F1 h hh1 e
    obtain ⟨n1, i1⟩ := i1
    refine ⟨n1, fun N cd ls ls' hc γ w ac hh hf => ?_⟩
    cases cd <;> (try simp only [cCode] at hc) <;> try (simp at hc; done)
    case loop x =>
      cases ls with
      | nil => simp [cCode] at hc
      | cons l0 ls0 =>
        simp only [cCode] at hc
        split at hc
        · rename_i sx ls1 hx
          simp only [Option.some.injEq, Prod.mk.injEq, SCode.loop.injEq] at hc
          obtain ⟨⟨rfl, rfl⟩, rfl⟩ := hc
          have key : LoopWp C.P x (Post C γ h N e F1 hh1) ac w := by
            refine LoopWp.round (Code.wp_mono ?_ (i1 N x ls0 ls1 hx γ w ac hh (hf.keep _)).1)
            intro e' a' w' hp
            obtain ⟨rfl, g⟩ := hp
            cases e with
            | normal => exact absurd rfl hne
            | ret => exact ⟨rfl, g⟩
            | exit id => exact ⟨rfl, g⟩
          exact ⟨key.wp, fun b eb => by simp only [Code.loop.injEq] at eb; subst eb; exact key⟩
        · simp at hc
    all_goals first | ((repeat' split at hc) <;> simp at hc; done) | (cases ls <;> simp only [cCode] at hc <;> (repeat' split at hc) <;> simp at hc; done)
  | reg h1 i1 =>
    obtain ⟨n1, i1⟩ := i1
    refine ⟨n1, fun N cd ls ls' hc γ w ac hh hf => ?_⟩
    cases cd <;> (try simp only [cCode] at hc) <;> try (simp at hc; done)
    case region id ops draw =>
      cases ls with
      | nil => simp [cCode] at hc
      | cons lv ls =>
      simp only [cCode] at hc
      split at hc
      · rename_i l hl
        cases draw with
        | true =>
          simp only [if_true] at hc
          (repeat' split at hc) <;> simp at hc
        | false =>
          simp only [Bool.false_eq_true, if_false, Option.some.injEq, Prod.mk.injEq, SCode.reg.injEq] at hc
          obtain ⟨⟨rfl, rfl⟩, rfl⟩ := hc
          exact ⟨wp_region_list (i1 N ops ops.toList hl γ w ac _ hh hf fun γ' w' a' g1 g2 g3 => ⟨rfl, γ', g1, g2, g3.keep _⟩), fun b e => by simp at e⟩
      · simp at hc
    all_goals first | ((repeat' split at hc) <;> simp at hc; done) | (cases ls <;> simp only [cCode] at hc <;> (repeat' split at hc) <;> simp at hc; done)
  | qreg h1 i1 =>
    obtain ⟨e1, i1⟩ := i1
    subst e1
    refine ⟨Nat.le_refl _, fun N cd ls ls' hc γ w ac hh hf => ?_⟩
    cases cd <;> (try simp only [cCode] at hc) <;> try (simp at hc; done)
    case region id ops draw =>
      cases ls with
      | nil => simp [cCode] at hc
      | cons lv ls =>
      simp only [cCode] at hc
      split at hc
      · rename_i l hl
        cases draw with
        | false => simp at hc
        | true =>
          simp only [if_true] at hc
          split at hc
          · simp at hc
          · rename_i hm
            split at hc
            · rename_i l' hsp
              split at hc
              · rename_i hk
                simp only [Option.some.injEq, Prod.mk.injEq, SCode.qreg.injEq] at hc
                obtain ⟨⟨rfl, rfl⟩, rfl⟩ := hc
                simp only [Bool.and_eq_true] at hk
                obtain ⟨T, rs', d⟩ := i1 hk.2 N ops [] (by simp)
                have R : Reg C N ops l' [] _ _ _ _ _ _ _ T [] := ⟨d, hk.1.1, by simpa using hk.1.2, fun s hs => ((dSplit_src hl).1 _ l' hsp s (by simpa using hs)).comp, rfl, trivial, trivial⟩
                exact ⟨Code.wp_mono (fun _ _ _ ⟨k1, γ', k2, k3, k4⟩ => ⟨k1, γ', k2, k3, k4.keep _⟩) (draw_wp R (by simpa using hm) hh hf), fun b e => by simp at e⟩
              · simp at hc
            · split at hc <;> simp at hc
            · simp at hc
      · simp at hc
    all_goals first | ((repeat' split at hc) <;> simp at hc; done) | (cases ls <;> simp only [cCode] at hc <;> (repeat' split at hc) <;> simp at hc; done)
  | dreg h1 i1 =>
    obtain ⟨n1, i1⟩ := i1
    refine ⟨n1, fun N cd ls ls' hc γ w ac hh hf => ?_⟩
    cases cd <;> (try simp only [cCode] at hc) <;> try (simp at hc; done)
    case region id ops draw =>
      cases ls with
      | nil => simp [cCode] at hc
      | cons lv ls =>
      simp only [cCode] at hc
      split at hc
      · rename_i l hl
        cases draw with
        | false => simp at hc
        | true =>
          simp only [if_true] at hc
          split at hc
          · simp at hc
          · rename_i hm
            split at hc
            · split at hc <;> simp at hc
            · rename_i l' b' hsp
              split at hc
              · rename_i hk
                simp only [Option.some.injEq, Prod.mk.injEq, SCode.dreg.injEq] at hc
                obtain ⟨⟨rfl, rfl, rfl⟩, rfl⟩ := hc
                simp only [Bool.and_eq_true] at hk
                obtain ⟨T, hK, Y, rs', fl', ss, d, e1, e2, e3, rfl⟩ := i1 N ops
                have R : Reg C N ops l' b' _ _ _ _ _ _ _ T ss := ⟨d, hk.1, hk.2, fun s hs => ((dSplit_src hl).2 _ l' b' hsp s hs).comp, e1, e2, e3⟩
                exact ⟨Code.wp_mono (fun _ _ _ ⟨k1, γ', k2, k3, k4⟩ => ⟨k1, γ', k2, k3, k4.keep _⟩) (draw_wp R (by simpa using hm) hh hf), fun b e => by simp at e⟩
              · simp at hc
            · simp at hc
      · simp at hc
    all_goals first | ((repeat' split at hc) <;> simp at hc; done) | (cases ls <;> simp only [cCode] at hc <;> (repeat' split at hc) <;> simp at hc; done)
  | nil =>
    refine ⟨Nat.le_refl _, fun N os ol hc γ w a Q hh hf k => ?_⟩
    cases ol with
    | nil => exact k γ w a (.same (Nat.le_refl _)) hh hf
    | cons o r => simp only [cOpers] at hc; split at hc <;> simp at hc
  | off hg h1 i1 =>
    rename_i s l F h r
    cases r with
    | code => trivial
    | val => trivial
    | ops F2 h2 =>
      obtain ⟨n1, i1⟩ := i1
      refine ⟨n1, fun N os ol hc γ w a Q hh hf k => ?_⟩
      obtain ⟨o, r, rfl, c1, c2⟩ := cOpers_cons hc
      obtain ⟨g1, g2, g3, _⟩ := cOper_parts c1
      refine wpList_off (hf.guard g3 hg) (i1 N os r c2 γ w _ Q hh (by rw [← g1]; exact hf.undo (by rw [g1]; exact g2)) k)
  | val hg hs h1 i1 =>
    rename_i s l F h hh1 v r
    cases r with
    | code => trivial
    | val => trivial
    | ops F2 h2 =>
      obtain ⟨n1, i1⟩ := i1
      have n0 := sop_next hs
      refine ⟨Nat.le_trans n0 n1, fun N os ol hc γ w a Q hh hf k => ?_⟩
      obtain ⟨o, r, rfl, c1, c2⟩ := cOpers_cons hc
      obtain ⟨g1, g2, g3, _⟩ := cOper_parts c1
      refine wpList_on (hf.guard g3 hg) ?_
      obtain ⟨v', w', γ', q1, q2, q3, q4⟩ := (good_oper c1 hf.or).all h w hh _ hs
      simp only [Oper.wp, q1, Oper.upon_value]
      refine i1 N os r c2 γ' w' _ Q q3 ?_ fun γ2 w2 a2 z1 z2 z3 => k γ2 w2 a2 (q2.trans z1) z2 z3
      have := (hf.mono q2.1).put (d := o.dst) g2 q4
      rwa [← g1] at this ⊢
  | stp hg hs h1 i1 =>
    rename_i s l F h hh1 r
    cases r with
    | code => trivial
    | val => trivial
    | ops F2 h2 =>
      obtain ⟨n1, i1⟩ := i1
      have n0 := sop_next hs
      refine ⟨Nat.le_trans n0 n1, fun N os ol hc γ w a Q hh hf k => ?_⟩
      obtain ⟨o, r, rfl, c1, c2⟩ := cOpers_cons hc
      obtain ⟨g1, g2, g3, _⟩ := cOper_parts c1
      refine wpList_on (hf.guard g3 hg) ?_
      obtain ⟨w', q1, q2, q3⟩ := (good_oper c1 hf.or).all h w hh _ hs
      simp only [Oper.wp, q1, Oper.upon_skip]
      exact i1 N os r c2 γ w' _ Q q3 (by rw [← g1]; exact hf.unput _ _) fun γ2 w2 a2 z1 z2 z3 => k γ2 w2 a2 (GX.trans (.same q2) z1) z2 z3
  | call hg hs h0 h1 i0 i1 =>
    rename_i s l F h hh1 f args v r
    cases r with
    | code => trivial
    | val => trivial
    | ops F2 h2 =>
      obtain ⟨n0, i0⟩ := i0
      obtain ⟨n1, i1⟩ := i1
      refine ⟨Nat.le_trans n0 n1, fun N os ol hc γ w a Q hh hf k => ?_⟩
      obtain ⟨o, r, rfl, c1, c2⟩ := cOpers_cons hc
      obtain ⟨g1, g2, g3, _⟩ := cOper_parts c1
      refine wpList_on (hf.guard g3 hg) ?_
      obtain ⟨args', q1, q2, q3⟩ := (good_oper c1 hf.or).all h w hh _ hs
      simp only [Oper.wp, q1, Oper.upon_enter]
      refine (i0 q3 γ w args' hh q2).mono fun e w'' hd => ?_
      obtain ⟨v', γ', rfl, z1, z2, z3⟩ := hd
      refine i1 N os r c2 γ' w'' _ Q z2 ?_ fun γ2 w2 a2 y1 y2 y3 => k γ2 w2 a2 (z1.trans y1) y2 y3
      have := (hf.mono z1.1).put (d := o.dst) g2 z3
      rwa [← g1] at this ⊢
  | qnil => exact ⟨rfl, fun _ N os rs hrs => ⟨[], rs, .nil fun x hx _ => hrs x hx⟩⟩
  | qoff hg h1 i1 =>
    rename_i s l F h r
    cases r with
    | code => trivial
    | val => trivial
    | ops F2 h2 =>
      obtain ⟨e1, i1⟩ := i1
      refine ⟨e1, fun hall N os rs hrs => ?_⟩
      simp only [List.all_cons, Bool.and_eq_true] at hall
      obtain ⟨T, rs', d⟩ := i1 hall.2 N os rs hrs
      exact ⟨_, rs', .free (val := none) (by simp [SOper.moves, hall.1]) (fun h' => ex_off hg h') d⟩
  | qval hg hs h1 i1 =>
    rename_i s l F h v r
    cases r with
    | code => trivial
    | val => trivial
    | ops F2 h2 =>
      obtain ⟨e1, i1⟩ := i1
      refine ⟨e1, fun hall N os rs hrs => ?_⟩
      simp only [List.all_cons, Bool.and_eq_true] at hall
      cases hq : s.op.quiet with
      | true =>
        obtain ⟨T, rs', d⟩ := i1 hall.2 N os rs hrs
        exact ⟨_, rs', .free (val := some v) (by simp [SOper.moves, hall.1]) (fun h' => ex_quiet hg hq hs h') d⟩
      | false =>
        obtain ⟨T, rs', d⟩ := i1 hall.2 N os (⟨s.id, s.op, F.keep s.uses, v, s.hi⟩ :: rs) (by
          intro x hx
          rcases List.mem_cons.1 hx with rfl | hx
          · exact hs
          · exact hrs x hx)
        exact ⟨_, rs', .still hall.1 hq hg (by simp) d⟩
  | dnil hr he hk hx =>
    rename_i batch F h past rs fl ss
    exact ⟨by rw [foldl_put_next]; exact Nat.le_refl _, fun N os => ⟨[], h, [h], rs, fl, ss, .nil hr, he, hk, hx, rfl⟩⟩
  | doff hm hg h1 i1 =>
    rename_i s l batch F h past rs fl r
    cases r with
    | code => trivial
    | val => trivial
    | ops F2 h2 =>
      obtain ⟨n1, i1⟩ := i1
      refine ⟨n1, fun N os => ?_⟩
      obtain ⟨T, hK, Y, rs', fl', ss, d, rest⟩ := i1 N os
      exact ⟨_, hK, Y, rs', fl', ss, .free (val := none) hm (fun h' => ex_off hg h') d, rest⟩
  | dquiet hq hg hs h1 i1 =>
    rename_i s l batch F h past rs fl v r
    cases r with
    | code => trivial
    | val => trivial
    | ops F2 h2 =>
      obtain ⟨n1, i1⟩ := i1
      refine ⟨n1, fun N os => ?_⟩
      obtain ⟨T, hK, Y, rs', fl', ss, d, rest⟩ := i1 N os
      have hm : s.moves = false := by
        have : s.op.still = true := by cases hop : s.op <;> rw [hop] at hq <;> first | rfl | simp [SOp.quiet] at hq
        simp [SOper.moves, this]
      exact ⟨_, hK, Y, rs', fl', ss, .free (val := some v) hm (fun h' => ex_quiet hg hq hs h') d, rest⟩
  | dstill hst hq hg hs hp h1 i1 =>
    rename_i s l batch F h past rs fl v r
    cases r with
    | code => trivial
    | val => trivial
    | ops F2 h2 =>
      obtain ⟨n1, i1⟩ := i1
      refine ⟨n1, fun N os => ?_⟩
      obtain ⟨T, hK, Y, rs', fl', ss, d, rest⟩ := i1 N os
      exact ⟨_, hK, Y, rs', fl', ss, .still hst hq hg hp d, rest⟩
  | dfloat hf hg hs h1 i1 =>
    rename_i s l batch F h past rs fl v blk r
    cases r with
    | code => trivial
    | val => trivial
    | ops F2 h2 =>
      obtain ⟨n1, i1⟩ := i1
      refine ⟨by rw [AH.alloc_next] at n1; omega, fun N os => ?_⟩
      obtain ⟨T, hK, Y, rs', fl', ss, d, rest⟩ := i1 N os
      exact ⟨_, hK, Y, rs', fl', ss, .float hf (ex_float hg hf hs) d, rest⟩
  | dval hm hgn hr hs hu h1 i1 =>
    rename_i s l batch F h hh1 past rs fl v r
    cases r with
    | code => trivial
    | val => trivial
    | ops F2 h2 =>
      obtain ⟨n1, i1⟩ := i1
      have n0 := sop_next hs
      refine ⟨Nat.le_trans n0 n1, fun N os => ?_⟩
      obtain ⟨T, hK, Y, rs', fl', ss, d, rest⟩ := i1 N os
      exact ⟨_, hK, h :: Y, rs', fl', ss, .moves (val := some v) hm hr (ex_val hgn hs) n0 hu d, rest⟩
  | dstp hm hgn hr hs hu h1 i1 =>
    rename_i s l batch F h hh1 past rs fl r
    cases r with
    | code => trivial
    | val => trivial
    | ops F2 h2 =>
      obtain ⟨n1, i1⟩ := i1
      have n0 := sop_next hs
      refine ⟨Nat.le_trans n0 n1, fun N os => ?_⟩
      obtain ⟨T, hK, Y, rs', fl', ss, d, rest⟩ := i1 N os
      exact ⟨_, hK, h :: Y, rs', fl', ss, .moves (val := none) hm hr (ex_skip hgn hs) n0 hu d, rest⟩
  | dskip hm hgn hr hu h1 i1 =>
    rename_i s l batch F h past rs fl r
    cases r with
    | code => trivial
    | val => trivial
    | ops F2 h2 =>
      obtain ⟨n1, i1⟩ := i1
      refine ⟨n1, fun N os => ?_⟩
      obtain ⟨T, hK, Y, rs', fl', ss, d, rest⟩ := i1 N os
      exact ⟨_, hK, h :: Y, rs', fl', ss, .moves (val := none) hm hr (ex_off hgn h) (Nat.le_refl _) hu d, rest⟩
  | dcall hm hgn hr hs h0 hu h1 i0 i1 =>
    rename_i s l batch F h hh1 past rs fl f args v r
    cases r with
    | code => trivial
    | val => trivial
    | ops F2 h2 =>
      obtain ⟨n0, i0⟩ := i0
      obtain ⟨n1, i1⟩ := i1
      refine ⟨Nat.le_trans n0 n1, fun N os => ?_⟩
      obtain ⟨T, hK, Y, rs', fl', ss, d, rest⟩ := i1 N os
      exact ⟨_, hK, h :: Y, rs', fl', ss, .moves (val := some v) hm hr (ex_call hgn hs fun γ w args' hL => i0 hL γ w args') n0 hu d, rest⟩
  | enter hn h1 he hv i1 =>
    rename_i f args F1 h hh1 e vs
    obtain ⟨n1, i1⟩ := i1
    refine ⟨n1, fun hL γ w args' hh hargs => ?_⟩
    rcases tab f hL with ⟨fn, ls, hfn, hc⟩ | ⟨k, hk, _⟩
    case inr => rw [hk] at h1; cases h1
    unfold cFunc at hc
    split at hc
    · rename_i cd hbody
      split at hc
      · rename_i sc rsl hcode hres
        split at hc
        · rename_i hsz
          simp only [Option.some.injEq] at hc
          rw [← hc] at hn h1 hv i1
          simp only at hn h1 hv i1
          have hal : args'.size = fn.params.size + fn.nfree := by rw [← Array.length_toList, ← hargs.length, hn]
          have hf : FR C γ fn.ntmps (Fr.from 0 args) { tmps := args' ++ Array.replicate (fn.ntmps - args'.size) undef, defers := [] } := by
            refine ⟨by simp; omega, rfl, fun t v ht => ?_⟩
            obtain ⟨v', q1, q2⟩ := hargs.get (from_get ht)
            refine ⟨v', ?_, q2⟩
            have hlt : t < args'.size := by
              have := (List.getElem?_eq_some_iff.1 q1).1
              simpa using this
            rw [Array.getElem?_append_left hlt]
            simpa using q1
          refine calls_of_wp hfn hbody (Code.wp_mono ?_ (i1 fn.ntmps cd ls [] hcode γ w _ hh hf).1)
          intro e' a' w' hp
          obtain ⟨rfl, γ', z1, z2, z3⟩ := hp
          obtain ⟨vs', r1, r2⟩ := results_run z2 z3 hres hv
          have hrun : (results fn a'.tmps).run C.P w' = .ok (if hh : vs'.toArray.size = 1 then vs'.toArray[0] else .tuple vs'.toArray) w' := by
            simp only [results, Sem.run_bind]
            rw [mapM_arr (fun x => by cases x <;> rfl) r1]
            rfl
          have hpost : a'.defers = [] ∧ ∃ v, (results fn a'.tmps).run C.P w' = .ok v w' ∧ Called C γ h (oneOf vs) hh1 (.returned v) w' := ⟨z3.defers, _, hrun, _, γ', rfl, z1, z2, oneOf_VR r2⟩
          rcases he with rfl | rfl
          · exact hpost
          · exact hpost
        · simp at hc
      · simp at hc
    · simp at hc
  | native hb hv =>
    rename_i f k args h v
    refine ⟨Nat.le_refl _, fun hL γ w args' hh hargs => ?_⟩
    rcases tab f hL with ⟨fn, ls, hfn, hc⟩ | ⟨k', hk, ok⟩
    · exact absurd hb (cFunc_native hc)
    · rw [hb] at hk
      simp only [SCode.native.injEq] at hk
      subst hk
      exact ok h γ w args args' v hv hh hargs
end
end Go.Jq
