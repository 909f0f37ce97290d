/- The abstract machine, carried out: what an operation does. -/
import Derived.Test.YtmaemogjdnlcoaaDoorE0
set_option linter.unusedSimpArgs false
set_option linter.unusedVariables false
namespace Go.Jq

inductive EOut where
  | val (v : EV) (T : TH)
  | skip (T : TH)
  | call (f : Nat) (args : List EV)
def denO (h : AH) : EOut → Out
  | .val v T => .val (den h.next v) (denH h T)
  | .skip T => .skip (denH h T)
  | .call f args => .call f (args.map (den h.next))

abbrev EVal := SOpd → Option EV
def evals (ρ : EVal) : List SOpd → Option (List EV)
  | [] => some []
  | x :: r => match ρ x, evals ρ r with
    | some v, some l => some (v :: l)
    | _, _ => none
def evparts (ρ : EVal) : List (Nat × Nat × SOpd) → Option (List (Nat × Nat × EV))
  | [] => some []
  | (o, n, x) :: r => match ρ x, evparts ρ r with
    | some v, some l => some ((o, n, v) :: l)
    | _, _ => none
def eraw : EV → Option Value
  | .raw v => some v
  | _ => none
def eint : EV → Option Int
  | .raw (.int _ n) => some n
  | _ => none
/-- a bound of a slice: a number or nothing -/
def eopt (ρ : EVal) : Option SOpd → Option (Option Value)
  | none => some none
  | some x => match ρ x with
    | some (.raw v) => some (some v)
    | _ => none
def ecells : EV → Option (List EV)
  | .agg l => some l
  | .tup _ => none
  | .raw (.agg _) => none
  | .raw (.tuple _) => none
  | v => some [v]
def eptr : EV → Option (Nat × Nat)
  | .ptr b o => some (b, o)
  | _ => none
def esfill : List (Nat × Nat × EV) → List EV → Option (List EV)
  | [], cs => some cs
  | (o, n, v) :: r, cs =>
    match ecells v with
    | some l => if l.length = n ∧ o + n ≤ cs.length then esfill r (esplice cs o l) else none
    | none => none
def ecellEq (k : Nat) : EV → EV → Option Bool
  | .raw a, .raw b => cellEq k a b
  | _, _ => none
def ecellsEq : List Nat → List EV → List EV → Option Bool
  | [], [], [] => some true
  | k :: ks, a :: x, b :: y => match ecellEq k a b, ecellsEq ks x y with
    | some p, some q => some (p && q)
    | _, _ => none
  | _, _, _ => none
def eisnil (k : Nat) : EV → Option Bool
  | .raw v => snil k v
  | .ptr _ _ => if k = 0 then some false else none
  | .slc .. => if k = 1 then some false else none
  | .mp _ => if k = 2 then some false else none
  | .fn .. => if k = 3 then some false else none
  | _ => none
def eslice (size b o : Nat) (sp : Option Nat) (len cap : Nat) (lo hi mx : Option Value) : Option EV :=
  match sbounds len cap lo hi mx with
  | none => none
  | some (l, h, m) =>
      match sp with
      | none => some (if m = l then .slc b o none (h - l) (m - l) else .slc b (o + l * size) none (h - l) (m - l))
      | some k =>
        if k = size then
          if mx.isSome ∧ cap ≠ 0 then some (if m = l then .slc b o none (h - l) (m - l) else .slc b (o + l * size) none (h - l) (m - l))
          else some (.slc b (o + l * size) (some k) (h - l) (m - l))
        else none
def efirst (T : TH) (size n : Nat) : EV → Option (List EV)
  | .raw (.slice none _ _) => if n = 0 then some [] else none
  | .slc b o _ _ _ => T.load b o (n * size)
  | .raw (.string s) => if size = 1 ∧ n ≤ s.size then some ((s.data.toList.take n).map fun b => .raw (.int .u8 b.toNat)) else none
  | _ => none
def elen : EV → Option Nat
  | .raw (.slice none n _) => some n
  | .slc _ _ _ n _ => some n
  | .raw (.string s) => some s.size
  | _ => none
def eappend (T : TH) (size bytes : Nat) (x y : EV) : Option (EV × TH) :=
  match elen y with
  | none => none
  | some n =>
    match efirst T size n y with
    | none => none
    | some new =>
      match x with
      | .raw (.slice none len cap) =>
        if (len + n) * bytes > 70368744177664 then none else
        if len = 0 ∧ cap = 0 then
          if n = 0 then some (.raw (.slice none 0 0), T)
          else some (.slc T.next 0 (some size) n n, T.alloc (.cells new true false))
        else none
      | .slc b o sp len cap =>
        if (len + n) * bytes > 70368744177664 then none else
        if len + n ≤ cap then
          if n = 0 then some (.slc b o sp len cap, T)
          else match T.store b (o + len * size) new with
            | some T' => some (.slc b o sp (len + n) cap, T')
            | none => none
        else
          match T.load b o (len * size), T.get b with
          | some old, .cells _ _ ro =>
            match sp with
            | none => some (.slc T.next 0 (some size) (len + n) (len + n), T.alloc (.cells (old ++ new) true false))
            | some k => if k = size ∧ ro = false then some (.slc T.next 0 (some size) (len + n) (len + n), (T.put b .dead).alloc (.cells (old ++ new) true false)) else none
          | _, _ => none
      | _ => none
def ecopy (T : TH) (size : Nat) (x y : EV) : Option (EV × TH) :=
  match elen y with
  | none => none
  | some n =>
    match x with
    | .raw (.slice none len _) => match efirst T size (min n len) y with
      | none => none
      | some _ => some (.raw (.int .i64 (min n len : Nat)), T)
    | .slc b o _ len _ => match efirst T size (min n len) y with
      | none => none
      | some new => if min n len = 0 then some (.raw (.int .i64 0), T) else match T.store b o new with
        | some T' => some (.raw (.int .i64 (min n len : Nat)), T')
        | none => none
    | _ => none
def erows : List EV → Option (List Value)
  | [] => some []
  | .raw v :: l => match erows l with
    | some r => some (v :: r)
    | none => none
  | _ => none

def esop (op : SOp) (ρ : EVal) (T : TH) : Option EOut :=
  match op with
  | .bad => none
  | .mov x => match ρ x with
    | some v => some (.val v T)
    | none => none
  | .pick c a b => match ρ c with
    | some (.raw (.bool true)) => match ρ a with
      | some x => some (.val x T)
      | none => none
    | some (.raw (.bool false)) => match ρ b with
      | some x => some (.val x T)
      | none => none
    | _ => none
  | .alloc zs => some (.val (.ptr T.next 0) (T.alloc (.cells (zs.map cv) false false)))
  | .box x => match ρ x with
    | some v => match ecells v with
      | some cs => some (.val (.ptr T.next 0) (T.alloc (.cells cs false false)))
      | none => none
    | none => none
  | .build zs ps => match evparts ρ ps with
    | some l => match esfill l (zs.map cv) with
      | some cs => some (.val (.agg cs) T)
      | none => none
    | none => none
  | .mkslice n zs ps => match evparts ρ ps with
    | some l => match esfill l (zs.map cv) with
      | some cs => some (.val (.slc T.next 0 none n n) (T.alloc (.cells cs false false)))
      | none => none
    | none => none
  | .load1 a => match ρ a with
    | some (.ptr b o) => match T.load1 b o with
      | some v => some (.val v T)
      | none => none
    | _ => none
  | .loadN n a => match ρ a with
    | some (.ptr b o) => match T.load b o n with
      | some cs => some (.val (.agg cs) T)
      | none => none
    | _ => none
  | .store1 a x => match ρ a, ρ x with
    | some (.ptr b o), some v => match ecells v with
      | some [u] => match T.store1 b o u with
        | some T' => some (.skip T')
        | none => none
      | _ => none
    | _, _ => none
  | .storeN n a x => match ρ a, ρ x with
    | some (.ptr b o), some v => match ecells v with
      | some cs => if cs.length = n then match T.store b o cs with
        | some T' => some (.skip T')
        | none => none
        else none
      | none => none
    | _, _ => none
  | .nilchk x => match ρ x with
    | some (.ptr b o) => some (.val (.ptr b o) T)
    | _ => none
  | .bin op x y => match ρ x, ρ y with
    | some (.raw a), some (.raw b) => match sbin op a b with
      | some v => some (.val (.raw v) T)
      | none => none
    | _, _ => none
  | .eqB neg x y => match ρ x, ρ y with
    | some (.raw (.bool a)), some (.raw (.bool b)) => some (.val (.raw (.bool (if neg then !(a == b) else (a == b)))) T)
    | _, _ => none
  | .eqN neg ks x y => match ρ x, ρ y with
    | some (.agg a), some (.agg b) => match ecellsEq ks a b with
      | some t => some (.val (.raw (.bool (if neg then !t else t))) T)
      | none => none
    | _, _ => none
  | .isnil k neg x => match ρ x with
    | some v => match eisnil k v with
      | some t => some (.val (.raw (.bool (if neg then !t else t))) T)
      | none => none
    | none => none
  | .un op x => match ρ x with
    | some (.raw a) => match sun op a with
      | some v => some (.val (.raw v) T)
      | none => none
    | _ => none
  | .conv k x => match ρ x with
    | some (.raw (.int _ n)) => some (.val (.raw (.int k (k.wrap n))) T)
    | _ => none
  | .mkfunc f first caps => match evals ρ first, evals ρ caps with
    | some a, some b => some (.val (.fn f a b) T)
    | _, _ => none
  | .mkmap => some (.val (.mp T.next) (T.alloc (.map [] 0)))
  | .mkrow size bytes zs l c => match ρ l, ρ c with
    | some (.raw (.int _ l)), some (.raw (.int _ c)) =>
      if 0 ≤ l ∧ l ≤ c ∧ c * bytes ≤ 70368744177664 ∧ c ≤ 70368744177664 ∧ zs.length = size then
        some (.val (.slc T.next 0 none l.toNat c.toNat) (T.alloc (.cells (List.replicate c.toNat (zs.map cv)).flatten false false)))
      else none
    | _, _ => none
  | .slstr x lo hi => match ρ x, eopt ρ lo, eopt ρ hi with
    | some (.raw (.string s)), some lo, some hi => match sbounds s.size s.size lo hi none with
      | some (l, h', _) => some (.val (.raw (.string (s.extract l h'))) T)
      | none => none
    | _, _, _ => none
  | .slsl size x lo hi mx => match eopt ρ lo, eopt ρ hi, eopt ρ mx with
    | some lo, some hi, some mx => match ρ x with
      | some (.raw (.slice none len cap)) => match sslice size none len cap lo hi mx with
        | some v => some (.val (.raw v) T)
        | none => none
      | some (.slc b o sp len cap) => match eslice size b o sp len cap lo hi mx with
        | some v => some (.val v T)
        | none => none
      | _ => none
    | _, _, _ => none
  | .slarr n size a lo hi mx => match eopt ρ lo, eopt ρ hi, eopt ρ mx with
    | some lo, some hi, some mx => match ρ a with
      | some (.ptr b o) => match eslice size b o none n n lo hi mx with
        | some v => some (.val v T)
        | none => none
      | _ => none
    | _, _, _ => none
  | .fld off a => match ρ a with
    | some (.ptr b o) => some (.val (.ptr b (o + off)) T)
    | _ => none
  | .idxS size x i => match ρ x, ρ i with
    | some (.slc b o _ len _), some (.raw (.int _ i)) => if 0 ≤ i ∧ i < len then some (.val (.ptr b (o + i.toNat * size)) T) else none
    | _, _ => none
  | .idxA n size a i => match ρ a, ρ i with
    | some (.ptr b o), some (.raw (.int _ i)) => if 0 ≤ i ∧ i < n then some (.val (.ptr b (o + i.toNat * size)) T) else none
    | _, _ => none
  | .idxV1 n x i => match ρ x, ρ i with
    | some (.agg cs), some (.raw (.int _ i)) => if 0 ≤ i ∧ i < n then match cs[i.toNat]? with
      | some v => some (.val v T)
      | none => none
      else none
    | _, _ => none
  | .idxVN n size x i => match ρ x, ρ i with
    | some (.agg cs), some (.raw (.int _ i)) => if 0 ≤ i ∧ i < n then some (.val (.agg ((cs.drop (i.toNat * size)).take size)) T) else none
    | _, _ => none
  | .idxT x i => match ρ x, ρ i with
    | some (.raw (.string s)), some (.raw (.int _ i)) => if 0 ≤ i then match s.data.toList[i.toNat]? with
      | some b => some (.val (.raw (.int .u8 b.toNat)) T)
      | none => none
      else none
    | _, _ => none
  | .part1 off x => match ρ x with
    | some (.agg cs) => match cs[off]? with
      | some v => some (.val v T)
      | none => none
    | _ => none
  | .partN off n x => match ρ x with
    | some (.agg cs) => some (.val (.agg ((cs.drop off).take n)) T)
    | _ => none
  | .extr x i => match ρ x with
    | some (.tup vs) => match vs[i]? with
      | some v => some (.val v T)
      | none => none
    | _ => none
  | .call f args => match evals ρ args with
    | some l => some (.call f l)
    | none => none
  | .callv f args => match ρ f, evals ρ args with
    | some (.fn f first caps), some l => some (.call f (first ++ (l ++ caps)))
    | _, _ => none
  | .append size bytes x y => match ρ x, ρ y with
    | some a, some b => match eappend T size bytes a b with
      | some (v, T') => some (.val v T')
      | none => none
    | _, _ => none
  | .copy size x y => match ρ x, ρ y with
    | some a, some b => match ecopy T size a b with
      | some (v, T') => some (.val v T')
      | none => none
    | _, _ => none
  | .lenS x => match ρ x with
    | some (.raw (.slice none n _)) => some (.val (.raw (.int .i64 n)) T)
    | some (.slc _ _ _ n _) => some (.val (.raw (.int .i64 n)) T)
    | _ => none
  | .lenT x => match ρ x with
    | some (.raw (.string s)) => some (.val (.raw (.int .i64 s.size)) T)
    | _ => none
  | .lenM x => match ρ x with
    | some (.raw (.map none)) => some (.val (.raw (.int .i64 0)) T)
    | some (.mp r) => match T.get r with
      | .map es _ => some (.val (.raw (.int .i64 es.length)) T)
      | _ => none
    | _ => none
  | .mm mx xs => match evals ρ xs with
    | some l => match erows l with
      | some (x :: r) => match smm mx x r with
        | some v => some (.val (.raw v) T)
        | none => none
      | _ => none
    | _ => none
  | .tostr x => match ρ x with
    | some (.raw (.int _ n)) => some (.val (.raw (.string (Utf8.encode n))) T)
    | _ => none
  | .clear zs x => match ρ x with
    | some (.slc b o _ n _) => if n = 0 then none else match T.store b o ((Builtin.zeroCells zs.toArray n).toList.map cv) with
      | some T' => some (.val (.tup []) T')
      | none => none
    | _ => none
  | .mark x => match ρ x with
    | some (.slc b o sp n c) => match T.get b with
      | .cells _ _ false => some (.val (.slc b o sp n c) T)
      | _ => none
    | _ => none

variable {h : AH} {ρ : SOpd → Option Value} {ρ' : EVal} {T : TH}

theorem evals_ok (hρ : ∀ x, ρ x = (ρ' x).map (den h.next)) {l : List SOpd} {vs : List EV} (H : evals ρ' l = some vs) : vals ρ l = some (vs.map (den h.next)) := by
  induction l generalizing vs with
  | nil => simp only [evals, Option.some.injEq] at H; subst H; rfl
  | cons x r ih =>
    simp only [evals] at H
    split at H
    · rename_i v l h1 h2
      simp only [Option.some.injEq] at H; subst H
      simp only [vals, hρ, h1, ih h2, Option.map_some, List.map_cons]
    · simp at H
theorem evparts_ok (hρ : ∀ x, ρ x = (ρ' x).map (den h.next)) {l : List (Nat × Nat × SOpd)} {vs : List (Nat × Nat × EV)} (H : evparts ρ' l = some vs) : vparts ρ l = some (vs.map fun x => (x.1, x.2.1, den h.next x.2.2)) := by
  induction l generalizing vs with
  | nil => simp only [evparts, Option.some.injEq] at H; subst H; rfl
  | cons x r ih =>
    obtain ⟨o, n, x⟩ := x
    simp only [evparts] at H
    split at H
    · rename_i v l h1 h2
      simp only [Option.some.injEq] at H; subst H
      simp only [vparts, hρ, h1, ih h2, Option.map_some, List.map_cons]
    · simp at H
theorem eopt_ok (hρ : ∀ x, ρ x = (ρ' x).map (den h.next)) {o : Option SOpd} {v : Option Value} (H : eopt ρ' o = some v) : optVal ρ o = some v := by
  cases o with
  | none => simpa [eopt, optVal] using H
  | some x =>
    simp only [eopt] at H
    split at H
    · rename_i v h1
      simp only [Option.some.injEq] at H; subst H
      simp only [optVal, hρ, h1, Option.map_some, den]
    · simp at H
theorem ecells_ok {v : EV} {l : List EV} (H : ecells v = some l) : vcells (den h.next v) = some (l.map (den h.next)) := by
  unfold ecells at H
  split at H
  · simp only [Option.some.injEq] at H; subst H; simp [den, denL_map, vcells]
  · simp at H
  · simp at H
  · simp at H
  · simp only [Option.some.injEq] at H; subst H
    rename_i h1 h2 h3 h4
    cases v with
    | raw v => cases v <;> simp_all [den, vcells]
    | agg l => exact absurd rfl (h1 l)
    | tup l => exact absurd rfl (h2 l)
    | _ => simp [den, vcells]
theorem esfill_ok {l : List (Nat × Nat × EV)} {cs r : List EV} (H : esfill l cs = some r) : sfill (l.map fun x => (x.1, x.2.1, den h.next x.2.2)) (cs.map (den h.next)) = some (r.map (den h.next)) := by
  induction l generalizing cs with
  | nil => simp only [esfill, Option.some.injEq] at H; subst H; rfl
  | cons x l ih =>
    obtain ⟨o, n, v⟩ := x
    simp only [esfill] at H
    split at H
    · rename_i l' h1
      split at H
      · rename_i h2
        simp only [List.map_cons, sfill, ecells_ok h1, List.length_map]
        rw [if_pos h2, ← den_splice]
        exact ih H
      · simp at H
    · simp at H
theorem ecellsEq_ok {ks : List Nat} {a b : List EV} {t : Bool} (H : ecellsEq ks a b = some t) : cellsEq ks (a.map (den h.next)) (b.map (den h.next)) = some t := by
  induction ks generalizing a b t with
  | nil =>
    cases a <;> cases b <;> simp [ecellsEq] at H ⊢ <;> simpa [cellsEq] using H
  | cons k ks ih =>
    cases a with
    | nil => simp [ecellsEq] at H
    | cons x a => cases b with
      | nil => simp [ecellsEq] at H
      | cons y b =>
        simp only [ecellsEq] at H
        split at H
        · rename_i p q h1 h2
          simp only [Option.some.injEq] at H
          simp only [List.map_cons, cellsEq, ih h2]
          unfold ecellEq at h1
          split at h1
          · simp only [den, h1]
            rw [H]
          · simp at h1
        · simp at H
theorem eisnil_ok {k : Nat} {v : EV} {t : Bool} (H : eisnil k v = some t) : snil k (den h.next v) = some t := by
  unfold eisnil at H
  split at H
  · exact H
  all_goals first | (simp at H; done) | (split at H <;> simp at H; rename_i e; subst e; subst H; simp [den, snil])
theorem eslice_ok {size b o : Nat} {sp : Option Nat} {len cap : Nat} {lo hi mx : Option Value} {v : EV} (H : eslice size b o sp len cap lo hi mx = some v) : sslice size (some ⟨h.next + b, o, sp⟩) len cap lo hi mx = some (den h.next v) := by
  unfold eslice at H
  unfold sslice
  split at H
  · simp at H
  · rename_i l u m hs
    rw [hs]
    simp only
    cases sp with
    | none =>
      simp only [Option.some.injEq] at H
      subst H
      simp only
      split <;> simp [den, addrAdd]
    | some k =>
      simp only at H ⊢
      split at H
      · rename_i hk
        rw [if_pos hk]
        split at H
        · rename_i hm
          rw [if_pos hm]
          simp only [Option.some.injEq] at H
          subst H
          split <;> simp [den]
        · rename_i hm
          rw [if_neg hm]
          simp only [Option.some.injEq] at H
          subst H
          simp [den, addrAdd]
      · simp at H
theorem elen_ok {v : EV} {n : Nat} (H : elen v = some n) : lenOf (den h.next v) = some n := by
  unfold elen at H
  split at H <;> simp at H <;> subst H <;> rfl
theorem efirst_ok {size n : Nat} {v : EV} {l : List EV} (H : efirst T size n v = some l) : firstOf (denH h T) size n (den h.next v) = some (l.map (den h.next)) := by
  unfold efirst at H
  split at H
  · split at H
    · rename_i h1; simp only [Option.some.injEq] at H; subst H; simp [den, firstOf, h1]
    · simp at H
  · simp only [den, firstOf]
    exact den_load H
  · split at H
    · rename_i h1; simp only [Option.some.injEq] at H; subst H
      simp only [den, firstOf]
      rw [if_pos h1, List.map_map]
      congr 1
    · simp at H
  · simp at H
theorem eappend_ok {size bytes : Nat} {x y v : EV} {T' : TH} (H : eappend T size bytes x y = some (v, T')) : sappend (denH h T) size bytes (den h.next x) (den h.next y) = some (den h.next v, denH h T') := by
  unfold eappend at H
  split at H
  · simp at H
  · rename_i n hn
    split at H
    · simp at H
    · rename_i new hf
      have hn' := elen_ok (h := h) hn
      have hf' := efirst_ok (h := h) hf
      split at H
      · rename_i len cap
        simp only [den, sappend, hn', hf']
        split at H
        · simp at H
        · rename_i h1
          rw [if_neg h1]
          split at H
          · rename_i h2
            rw [if_pos h2]
            split at H
            · rename_i h3
              rw [if_pos h3]
              simp only [Option.some.injEq, Prod.mk.injEq] at H
              obtain ⟨rfl, rfl⟩ := H
              rfl
            · rename_i h3
              rw [if_neg h3]
              simp only [Option.some.injEq, Prod.mk.injEq] at H
              obtain ⟨rfl, rfl⟩ := H
              rw [denH_alloc]; rfl
          · simp at H
      · rename_i b o sp len cap
        simp only [den, sappend, hn', hf']
        split at H
        · simp at H
        · rename_i h1
          rw [if_neg h1]
          split at H
          · rename_i h2
            rw [if_pos h2]
            split at H
            · rename_i h3
              rw [if_pos h3]
              simp only [Option.some.injEq, Prod.mk.injEq] at H
              obtain ⟨rfl, rfl⟩ := H
              rfl
            · rename_i h3
              rw [if_neg h3]
              split at H
              · rename_i T2 hs
                simp only [Option.some.injEq, Prod.mk.injEq] at H
                obtain ⟨rfl, rfl⟩ := H
                simp only [den_store hs]
                rfl
              · simp at H
          · rename_i h2
            rw [if_neg h2]
            split at H
            · rename_i old c g ro hl hg
              simp only [den_load hl, denH_get hg (by simp), denB]
              cases sp with
              | none =>
                simp only [Option.some.injEq, Prod.mk.injEq] at H
                obtain ⟨rfl, rfl⟩ := H
                rw [denH_alloc]
                simp [denB, den, denH_next]
              | some k =>
                simp only at H ⊢
                split at H
                · rename_i h4
                  rw [if_pos h4]
                  simp only [Option.some.injEq, Prod.mk.injEq] at H
                  obtain ⟨rfl, rfl⟩ := H
                  rw [denH_alloc, denH_put]
                  simp [denB, den, denH_next]
                · simp at H
            · simp at H
      · simp at H
theorem ecopy_ok {size : Nat} {x y v : EV} {T' : TH} (H : ecopy T size x y = some (v, T')) : scopy (denH h T) size (den h.next x) (den h.next y) = some (den h.next v, denH h T') := by
  unfold ecopy at H
  split at H
  · simp at H
  · rename_i n hn
    have hn' := elen_ok (h := h) hn
    split at H
    · rename_i len cap
      split at H
      · simp at H
      · rename_i new hf
        have hf' := efirst_ok (h := h) hf
        simp only [Option.some.injEq, Prod.mk.injEq] at H
        obtain ⟨rfl, rfl⟩ := H
        simp only [den, scopy, hn', hf']
    · rename_i b o sp len cap
      split at H
      · simp at H
      · rename_i new hf
        have hf' := efirst_ok (h := h) hf
        simp only [den, scopy, hn', hf']
        split at H
        · rename_i h1
          rw [if_pos h1]
          simp only [Option.some.injEq, Prod.mk.injEq] at H
          obtain ⟨rfl, rfl⟩ := H
          rfl
        · rename_i h1
          rw [if_neg h1]
          split at H
          · rename_i T2 hs
            simp only [Option.some.injEq, Prod.mk.injEq] at H
            obtain ⟨rfl, rfl⟩ := H
            simp only [den_store hs]
            rfl
          · simp at H
    · simp at H
theorem erows_ok {l : List EV} {vs : List Value} (H : erows l = some vs) : l.map (den h.next) = vs := by
  induction l generalizing vs with
  | nil => simp only [erows, Option.some.injEq] at H; subst H; rfl
  | cons x l ih =>
    cases x with
    | raw v =>
      simp only [erows] at H
      split at H
      · rename_i r hr
        simp only [Option.some.injEq] at H; subst H
        rw [List.map_cons, ih hr]; rfl
      · simp at H
    | _ => simp [erows] at H

theorem ptr_ptr' {b o : Nat} : ptr (.pointer (some ⟨b, o, none⟩)) = some (b, o) := rfl
theorem ptr_ptr {n0 b o : Nat} : ptr (den n0 (.ptr b o)) = some (n0 + b, o) := rfl

theorem esop_ok (hρ : ∀ x, ρ x = (ρ' x).map (den h.next)) {op : SOp} {o : EOut} (H : esop op ρ' T = some o) : sop op ρ (denH h T) = some (denO h o) := by
  cases op <;> simp only [esop] at H
  case bad => simp at H
  case alloc zs =>
    simp only [Option.some.injEq] at H; subst H
    simp only [sop, denO, denH_alloc, denB, den_cvs, den, denH_next]
  case mkmap =>
    simp only [Option.some.injEq] at H; subst H
    simp only [sop, denO, denH_alloc, denB, List.map_nil, den, denH_next]
  case pick c a b =>
    (repeat' split at H) <;> try (simp at H; done)
    all_goals
      rename_i hc _ v hv
      simp only [Option.some.injEq] at H; subst H
      simp only [sop, hρ, hc, hv, Option.map_some, den, denO]
    · cases ρ' b <;> rfl
    · cases ρ' a <;> rfl
  case box x =>
    (repeat' split at H) <;> try (simp at H; done)
    rename_i hv _ l hl
    simp only [Option.some.injEq] at H; subst H
    simp only [sop, hρ, hv, Option.map_some, ecells_ok hl, denO, denH_alloc, denB, den, denH_next]
  case build zs ps =>
    (repeat' split at H) <;> try (simp at H; done)
    rename_i h1 _ l h2
    simp only [Option.some.injEq] at H; subst H
    have := esfill_ok (h := h) h2
    rw [den_cvs] at this
    simp only [sop, evparts_ok hρ h1, this, denO, den, denL_map]
  case mkslice n zs ps =>
    (repeat' split at H) <;> try (simp at H; done)
    rename_i h1 _ l h2
    simp only [Option.some.injEq] at H; subst H
    have := esfill_ok (h := h) h2
    rw [den_cvs] at this
    simp only [sop, evparts_ok hρ h1, this, denO, den, denL_map, denH_alloc, denB, denH_next]
  case load1 a =>
    (repeat' split at H) <;> try (simp at H; done)
    rename_i h1 _ v h2
    simp only [Option.some.injEq] at H; subst H
    simp only [sop, hρ, h1, Option.map_some, Option.bind_some, ptr_ptr, den_load1 h2, denO]
  case loadN n a =>
    (repeat' split at H) <;> try (simp at H; done)
    rename_i h1 _ v h2
    simp only [Option.some.injEq] at H; subst H
    simp only [sop, hρ, h1, Option.map_some, Option.bind_some, ptr_ptr, ptr_ptr', den_load h2, denO, den, denL_map]
  case store1 a x =>
    (repeat' split at H) <;> try (simp at H; done)
    rename_i h1 h2 _ u h3 _ T' h4
    simp only [Option.some.injEq] at H; subst H
    simp only [sop, hρ, h1, h2, Option.map_some, Option.bind_some, ptr_ptr, ecells_ok h3, List.map_cons, List.map_nil, den_store1 h4, denO]
  case storeN n a x =>
    (repeat' split at H) <;> try (simp at H; done)
    rename_i h1 h2 _ u h3 hl _ T' h4
    simp only [Option.some.injEq] at H; subst H
    simp only [sop, hρ, h1, h2, Option.map_some, Option.bind_some, ptr_ptr, ecells_ok h3, List.length_map, den_store h4, denO, hl, if_true]
  case eqN neg ks x y =>
    (repeat' split at H) <;> try (simp at H; done)
    all_goals
      rename_i h1 h2 _ t h3 hn
      simp only [Option.some.injEq] at H; subst H
      have := ecellsEq_ok (h := h) h3
      simp [sop, hρ, h1, h2, den, denL_map, this, denO, hn]
  case isnil k neg x =>
    (repeat' split at H) <;> try (simp at H; done)
    all_goals
      rename_i h1 _ t h3 hn
      simp only [Option.some.injEq] at H; subst H
      have := eisnil_ok (h := h) h3
      simp [sop, hρ, h1, this, denO, den, hn]
  case mkfunc f a b =>
    (repeat' split at H) <;> try (simp at H; done)
    rename_i h1 h2
    simp only [Option.some.injEq] at H; subst H
    simp only [sop, evals_ok hρ h1, evals_ok hρ h2, denO, den, denL_map]
  case mkrow size bytes zs l c =>
    (repeat' split at H) <;> try (simp at H; done)
    rename_i h1 h2 h3
    simp only [Option.some.injEq] at H; subst H
    simp only [sop, hρ, h1, h2, Option.map_some, den]
    rw [if_pos h3]
    simp only [denO, denH_alloc, denB, den, denH_next]
    rw [List.map_flatten, List.map_replicate, den_cvs]
  case slstr x lo hi =>
    (repeat' split at H) <;> try (simp at H; done)
    rename_i h1 h2 h3 _ l h' m h4
    simp only [Option.some.injEq] at H; subst H
    simp only [sop, hρ, h1, Option.map_some, den, eopt_ok hρ h2, eopt_ok hρ h3, h4, denO]
  case slsl size x lo hi mx =>
    (repeat' split at H) <;> try (simp at H; done)
    · rename_i h2 h3 h4 _ _ _ h1 _ v h5
      simp only [Option.some.injEq] at H; subst H
      simp only [sop, hρ, h1, Option.map_some, den, eopt_ok hρ h2, eopt_ok hρ h3, eopt_ok hρ h4, h5, denO]
    · rename_i h2 h3 h4 _ _ _ _ _ _ h1 _ v h5
      simp only [Option.some.injEq] at H; subst H
      simp only [sop, hρ, h1, Option.map_some, den, eopt_ok hρ h2, eopt_ok hρ h3, eopt_ok hρ h4, eslice_ok (h := h) h5, denO]
  case slarr n size a lo hi mx =>
    (repeat' split at H) <;> try (simp at H; done)
    rename_i h2 h3 h4 _ _ _ h1 _ v h5
    simp only [Option.some.injEq] at H; subst H
    simp only [sop, hρ, h1, Option.map_some, Option.bind_some, ptr_ptr, eopt_ok hρ h2, eopt_ok hρ h3, eopt_ok hρ h4, eslice_ok (h := h) h5, denO]
  case idxVN n size x i =>
    (repeat' split at H) <;> try (simp at H; done)
    rename_i h1 h2 h3
    simp only [Option.some.injEq] at H; subst H
    simp only [sop, hρ, h1, h2, Option.map_some, den]
    rw [if_pos h3]
    simp only [denO, den, denL_map, List.map_take, List.map_drop]
  case idxV1 n x i =>
    (repeat' split at H) <;> try (simp at H; done)
    rename_i h1 h2 h3 _ v h4
    simp only [Option.some.injEq] at H; subst H
    simp only [sop, hρ, h1, h2, Option.map_some, den]
    rw [if_pos h3]
    simp only [denL_map, List.getElem?_map, h4, Option.map_some, denO]
  case part1 off x =>
    (repeat' split at H) <;> try (simp at H; done)
    rename_i h1 _ v h4
    simp only [Option.some.injEq] at H; subst H
    simp only [sop, hρ, h1, Option.map_some, den, denL_map, List.getElem?_map, h4, denO]
  case partN off n x =>
    (repeat' split at H) <;> try (simp at H; done)
    rename_i h1
    simp only [Option.some.injEq] at H; subst H
    simp only [sop, hρ, h1, Option.map_some, den, denL_map, List.map_take, List.map_drop, denO]
  case extr x i =>
    (repeat' split at H) <;> try (simp at H; done)
    rename_i h1 _ v h4
    simp only [Option.some.injEq] at H; subst H
    simp only [sop, hρ, h1, Option.map_some, den, denL_map, List.getElem?_map, h4, denO]
  case call f args =>
    (repeat' split at H) <;> try (simp at H; done)
    rename_i h1
    simp only [Option.some.injEq] at H; subst H
    simp only [sop, evals_ok hρ h1, denO]
  case callv f args =>
    (repeat' split at H) <;> try (simp at H; done)
    rename_i h1 h2
    simp only [Option.some.injEq] at H; subst H
    simp only [sop, hρ, h1, evals_ok hρ h2, Option.map_some, den, denL_map, denO, List.map_append]
  case append size bytes x y =>
    (repeat' split at H) <;> try (simp at H; done)
    rename_i h1 h2 _ v T' h3
    simp only [Option.some.injEq] at H; subst H
    simp only [sop, hρ, h1, h2, Option.map_some, eappend_ok h3, denO]
  case copy size x y =>
    (repeat' split at H) <;> try (simp at H; done)
    rename_i h1 h2 _ v T' h3
    simp only [Option.some.injEq] at H; subst H
    simp only [sop, hρ, h1, h2, Option.map_some, ecopy_ok h3, denO]
  case lenM x =>
    (repeat' split at H) <;> try (simp at H; done)
    · rename_i h1
      simp only [Option.some.injEq] at H; subst H
      simp only [sop, hρ, h1, Option.map_some, den, denO]
    · rename_i h1 _ es c h2
      simp only [Option.some.injEq] at H; subst H
      simp only [sop, hρ, h1, Option.map_some, den, denH_get h2 (by simp), denB, List.length_map, denO]
  case tostr x =>
    (repeat' split at H) <;> try (simp at H; done)
    rename_i h1
    simp only [Option.some.injEq] at H; subst H
    simp only [sop, hρ, h1, Option.map_some, den, denO]
  case clear zs x =>
    (repeat' split at H) <;> try (simp at H; done)
    rename_i h1 hn _ T' h3
    simp only [Option.some.injEq] at H; subst H
    have := den_store (h := h) h3
    rw [den_cvs] at this
    simp only [sop, hρ, h1, Option.map_some, den, denL]
    rw [if_neg hn, this]
    rfl
  case mark x =>
    (repeat' split at H) <;> try (simp at H; done)
    rename_i h1 _ c g h2
    simp only [Option.some.injEq] at H; subst H
    simp only [sop, hρ, h1, Option.map_some, den, denH_get h2 (by simp), denB, denO]
  case mm mx xs =>
    (repeat' split at H) <;> try (simp at H; done)
    rename_i h1 _ x r h2 _ v h3
    simp only [Option.some.injEq] at H; subst H
    simp only [sop, evals_ok hρ h1, erows_ok h2, h3, denO, den]
  all_goals (repeat' split at H)
  all_goals try (simp at H; done)
  all_goals (simp only [Option.some.injEq] at H; subst H)
  all_goals simp_all [sop, denO, den, ptr_ptr, ptr_ptr']
end Go.Jq
