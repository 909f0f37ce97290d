/- Stores that wait: BufFull. -/
import Derived.Test.YtcgpmahbigdikaaB5
namespace Go.Jq
variable {G : Nat → SFunc} {h : AH} {R : Value → AH → Prop}

def seqS (m : Int) (f : Nat → Ent) : Nat → List Ent
  | 0 => []
  | i + 1 => addS m (seqS m f i) (f i).loc (f i).v (f i).id
theorem seqS_le (m : Int) (f : Nat → Ent) (i : Nat) : (seqS m f i).length ≤ 24 := by
  induction i with
  | zero => simp [seqS]
  | succ i ih => exact addS_le ih

theorem seq3 {loc : Int} (h0 : 0 ≤ loc) (h3 : loc ≤ 3) (i : Nat) : (seqS 3 (fun i => ⟨loc, i, i⟩) i).length = min i 24 ∧ ∀ e ∈ seqS 3 (fun i => ⟨loc, i, i⟩) i, e.loc = loc := by
  induction i with
  | zero => simp [seqS]
  | succ i ih =>
    simp only [seqS, addS]
    split
    · rename_i h
      refine ⟨by omega, ih.2⟩
    · rename_i h
      refine ⟨by simp; omega, fun e he => ?_⟩
      rcases List.mem_append.1 he with he | he
      · exact ih.2 e he
      · simp at he; rw [he]
theorem seq0 (f : Nat → Ent) (i : Nat) : seqS 0 f i = [] := by
  induction i with
  | zero => rfl
  | succ i ih => simp [seqS, ih, addS]
theorem seq_mono (m : Int) (f : Nat → Ent) (i j : Nat) : (seqS m f i).length ≤ (seqS m f (i + j)).length := by
  induction j with
  | zero => exact Nat.le_refl _
  | succ j ih =>
    rw [← Nat.add_assoc, seqS, addS]
    split
    · exact ih
    · simp; omega

def inv0b (n : Int) (B : Nat) (H : AH) (k : Nat) (F : Fr) (hh : AH) : Prop :=
  ∃ i : Nat, k = n.toNat - i ∧ i ≤ n.toNat ∧ hh = H ∧
    F = [(0, .int .i64 n), (9, .pointer (some ⟨B, 0, none⟩)), (12, .int .i64 (seqS 2 (fun i => ⟨iand .i64 i 7, i, i⟩) i).length), (13, .int .i64 i)]

def inv0 (n loc m : Int) (N : Nat) (k : Nat) (F : Fr) (hh : AH) : Prop :=
  ∃ i B : Nat, k = N - i ∧ i ≤ N ∧ hh.get B = .cells (bufC 3 (seqS 3 (fun i => ⟨loc, i, i⟩) i)) false false ∧ hh.get (B + 1) = .cells (bufC (newM m) (seqS (newM m) (fun i => ⟨loc, i, i⟩) i)) false false ∧
    hh.get (B + 2) = .cells (bufC 2 (seqS 2 (fun i => ⟨iand .i64 i 7, i, i⟩) i)) false false ∧ B + 3 ≤ hh.next ∧
    F = [(0, .int .i64 n), (1, .int .i64 loc), (2, .int .i64 m), (7, .pointer (some ⟨B, 0, none⟩)), (8, .pointer (some ⟨B + 1, 0, none⟩)), (9, .pointer (some ⟨B + 2, 0, none⟩)), (10, .int .i64 i)]

theorem BufFull_spec (g : BufL G) {n loc m : Int} : WC G 0 [.int .i64 n, .int .i64 loc, .int .i64 m] h fun v _ => v = .bool true := by
  refine WC_enter g.g0 rfl ?_
  show W G c0_body _ _ (retK [.tmp 6] _)
  unfold c0_body c0_0 c0_1 c0_2 c0_3
  simp -implicitDefEqProofs
  have b63 := iand_bound (a := n) (m := 63) (by omega) (by omega)
  have b3 := iand_bound (a := loc) (m := 3) (by omega) (by omega)
  generalize iand .i64 n 63 = n at *
  generalize iand .i64 loc 3 = loc at *
  refine New_spec g.toBufG fun h1 x1 => ?_
  simp -implicitDefEqProofs
  refine New_spec g.toBufG fun h2 x2 => ?_
  simp -implicitDefEqProofs
  refine New_spec g.toBufG fun h3 x3 => ?_
  have hl := fun m => bufC_length (m := m) (es := []) (by simp)
  simp -implicitDefEqProofs [bufV, hl, splice_all, show newM 3 = 3 from rfl, show newM 2 = 2 from rfl]
  refine W_loop (inv0 n loc m n.toNat) n.toNat ?_ ?_
  · refine ⟨0, h3.next, by omega, by omega, ?_, ?_, ?_, by simp, rfl⟩ <;> simp [seqS]
  rintro k F hh ⟨i, B, rfl, hi, e1, e2, e3, hB, rfl⟩
  unfold c0_9 c0_4 c0_5 c0_6 c0_7 c0_8
  by_cases hin : i < n.toNat
  · have hin' : (i : Int) < n := by omega
    have hw : IntKind.i64.wrap ((i : Int) + 1) = (i : Int) + 1 := wrap64 (by omega)
    have L1 := fun m => bufC_length (m := m) (seqS_le 3 (fun i => ⟨loc, i, i⟩) i)
    have L2 := fun m' => bufC_length (m := m') (seqS_le (newM m) (fun i => ⟨loc, i, i⟩) i)
    have L3 := fun m => bufC_length (m := m) (seqS_le 2 (fun i => ⟨iand .i64 i 7, i, i⟩) i)
    have L1' := fun m => bufC_length (m := m) (seqS_le 3 (fun i => ⟨loc, i, i⟩) (i + 1))
    have L2' := fun m' => bufC_length (m := m') (seqS_le (newM m) (fun i => ⟨loc, i, i⟩) (i + 1))
    have L3' := fun m => bufC_length (m := m) (seqS_le 2 (fun i => ⟨iand .i64 i 7, i, i⟩) (i + 1))
    simp only [seqS] at L1' L2' L3'
    simp -implicitDefEqProofs [hin', e1, L1, List.take_of_length_le]
    refine Put_spec g.toBufG (seqS_le _ _ _) fun h4 x4 => ?_
    have e41 := (x4.get B (by omega)).trans e1
    have e42 := (x4.get (B + 1) (by omega)).trans e2
    have e43 := (x4.get (B + 2) (by omega)).trans e3
    have n4 := x4.next
    simp -implicitDefEqProofs [bufV, e41, e42, L1, L2, L1', splice_all, List.take_of_length_le]
    refine Put_spec g.toBufG (seqS_le _ _ _) fun h5 x5 => ?_
    have e51 := x5.get B (by simp; omega)
    have e52 := x5.get (B + 1) (by simp; omega)
    have e53 := x5.get (B + 2) (by simp; omega)
    have n5 := x5.next
    simp at e51 e52 e53 n5
    simp -implicitDefEqProofs [bufV, e51, e52, e53, e42, e43, L1, L2, L3, L1', L2', splice_all, List.take_of_length_le]
    refine Put_spec g.toBufG (seqS_le _ _ _) fun h6 x6 => ?_
    have e61 := x6.get B (by simp; omega)
    have e62 := x6.get (B + 1) (by simp; omega)
    have e63 := x6.get (B + 2) (by simp; omega)
    have n6 := x6.next
    simp at e61 e62 e63 n6
    simp -implicitDefEqProofs [bufV, e61, e62, e63, e51, e53, e43, L1, L2, L3, L1', L2', L3', splice_all, List.take_of_length_le, hw]
    refine ⟨n.toNat - (i + 1), by omega, i + 1, B, rfl, hin, ?_, ?_, ?_, by simp; omega, by simp⟩
    · simp [seqS, e61, e51]
    · simp [seqS, e62]
    · simp [seqS]
  · have hi' : i = n.toNat := by omega
    subst hi'
    have hnn : ((n.toNat : Nat) : Int) = n := by omega
    have L1 := fun m => bufC_length (m := m) (seqS_le 3 (fun i => ⟨loc, i, i⟩) n.toNat)
    have L2 := fun m' => bufC_length (m := m') (seqS_le (newM m) (fun i => ⟨loc, i, i⟩) n.toNat)
    have L3 := fun m => bufC_length (m := m) (seqS_le 2 (fun i => ⟨iand .i64 i 7, i, i⟩) n.toNat)
    obtain ⟨S1, S2⟩ := seq3 b3.1 b3.2 n.toNat
    have hwant : (if 24 < n then 24 else n) = (((seqS 3 (fun i => ⟨loc, i, i⟩) n.toNat).length : Nat) : Int) := by
      rw [S1]; split <;> omega
    have hlist : (listN 3 loc (seqS 3 (fun i => ⟨loc, i, i⟩) n.toNat)) = seqS 3 (fun i => ⟨loc, i, i⟩) n.toNat := by
      unfold listN
      rw [List.filter_eq_self]
      intro e he
      simp [hits, S2 e he]
    unfold c0_10 c0_11
    have h0 : newM m ≠ 0 → m = 2 ∨ m = 3 := by unfold newM; split <;> simp_all
    have e0 : newM m = 0 → seqS (newM m) (fun i => ⟨loc, i, i⟩) n.toNat = [] := fun e => by rw [e, seq0]
    have hS := seqS_le 3 (fun i => ⟨loc, i, i⟩) n.toNat
    have hSc := seqS_le (newM m) (fun i => ⟨loc, i, i⟩) n.toNat
    generalize seqS 3 (fun i => (⟨loc, i, i⟩ : Ent)) n.toNat = es3 at *
    generalize seqS (newM m) (fun i => (⟨loc, i, i⟩ : Ent)) n.toNat = esc at *
    have tail : ∀ (hh4 : AH) (t69 : Value), hh4.get (B + 2) = .cells (bufC 2 (seqS 2 (fun i => ⟨iand .i64 i 7, i, i⟩) n.toNat)) false false →
        W G (.seq (.reg [0, 9, 12] c0_13) (.seq (.seq (.reg [0, 9, 12, 13] c0_14) (.block 2 (.loop [0, 9, 12, 13] c0_19))) (.seq (.reg [6] c0_20) .ret)))
          [(0, .int .i64 n), (9, .pointer (some ⟨B + 2, 0, none⟩)), (69, t69)] hh4 (retK [.tmp 6] fun v _ => v = .bool true) := by
      intro hh4 t69 eD
      unfold c0_13 c0_14
      simp -implicitDefEqProofs
      refine W_loop (inv0b n (B + 2) hh4) n.toNat ⟨0, rfl, by omega, rfl, rfl⟩ ?_
      rintro k F hh5 ⟨i, rfl, hi, rfl, rfl⟩
      unfold c0_19 c0_15 c0_16 c0_17 c0_18
      have b7 := iand_bound (a := i) (m := 7) (by omega) (by omega)
      have hD := seqS_le 2 (fun i => ⟨iand .i64 i 7, i, i⟩) i
      have hDs : seqS 2 (fun i => ⟨iand .i64 i 7, i, i⟩) (i + 1) = addS 2 (seqS 2 (fun i => ⟨iand .i64 i 7, i, i⟩) i) (iand .i64 i 7) i i := rfl
      have hmo : i ≤ n.toNat → (seqS 2 (fun i => ⟨iand .i64 i 7, i, i⟩) i).length ≤ (seqS 2 (fun i => ⟨iand .i64 i 7, i, i⟩) n.toNat).length := fun hi => by
        have := seq_mono 2 (fun i => ⟨iand .i64 i 7, i, i⟩) i (n.toNat - i)
        rwa [show i + (n.toNat - i) = n.toNat by omega] at this
      have hDn := seqS_le 2 (fun i => ⟨iand .i64 i 7, i, i⟩) n.toNat
      have hmo := hmo hi
      have fin : ∀ t, (seqS 2 (fun i => ⟨iand .i64 i 7, i, i⟩) n.toNat).length = (seqS 2 (fun i => ⟨iand .i64 i 7, i, i⟩) i).length →
          W G (.seq (.reg [6] c0_20) .ret) [(0, .int .i64 n), (9, .pointer (some ⟨B + 2, 0, none⟩)), (12, .int .i64 (seqS 2 (fun i => ⟨iand .i64 i 7, i, i⟩) i).length), (13, .int .i64 i), (76, t)] hh5 (retK [.tmp 6] fun v _ => v = .bool true) := by
        intro t hq
        unfold c0_20
        simp -implicitDefEqProofs [eD, L3, List.take_of_length_le]
        refine Len_spec g.toBufG (m := 2) (es := seqS 2 (fun i => ⟨iand .i64 i 7, i, i⟩) n.toNat) fun h6 x6 => ?_
        simp -implicitDefEqProofs [hq]
        exact awake_spec g fun h7 x7 => by simp -implicitDefEqProofs
      generalize hL : (seqS 2 (fun i => (⟨iand .i64 i 7, i, i⟩ : Ent)) i).length = L at *
      by_cases hin : i < n.toNat
      · have hin' : (i : Int) < n := by omega
        have hwi : IntKind.i64.wrap ((i : Int) + 1) = (i : Int) + 1 := wrap64 (by omega)
        have hwl : IntKind.i64.wrap ((L : Int) + 1) = (L : Int) + 1 := wrap64 (by omega)
        by_cases hk : L < 24
        · have hk' : (L : Int) < 24 := by omega
          by_cases h4 : iand .i64 i 7 < 4
          · simp -implicitDefEqProofs [hin', hk', h4, hwi, hwl]
            refine ⟨n.toNat - (i + 1), by omega, i + 1, rfl, hin, rfl, ?_⟩
            have : (seqS 2 (fun i => ⟨iand .i64 i 7, i, i⟩) (i + 1)).length = L + 1 := by
              rw [hDs, addS, if_neg (by omega), List.length_append, hL]; rfl
            rw [this]
            simp
          · simp -implicitDefEqProofs [hin', hk', h4, hwi, hwl]
            refine ⟨n.toNat - (i + 1), by omega, i + 1, rfl, hin, rfl, ?_⟩
            have : (seqS 2 (fun i => ⟨iand .i64 i 7, i, i⟩) (i + 1)).length = L := by
              rw [hDs, addS, if_pos (by omega), hL]
            rw [this]
            simp
        · have hk' : ¬ (L : Int) < 24 := by omega
          simp -implicitDefEqProofs [hin', hk']
          exact fin _ (by omega)
      · have hin' : ¬ (i : Int) < n := by omega
        have : i = n.toNat := by omega
        simp -implicitDefEqProofs [hin']
        exact fin _ (by subst this; exact hL)
    simp -implicitDefEqProofs [hnn, hwant, e1, L1, List.take_of_length_le]
    refine Len_spec g.toBufG (m := 3) (es := es3) fun h4 x4 => ?_
    have e41 := (x4.get B (by omega)).trans e1
    have e42 := (x4.get (B + 1) (by omega)).trans e2
    have e43 := (x4.get (B + 2) (by omega)).trans e3
    have n4 := x4.next
    simp -implicitDefEqProofs [e41, L1, List.take_of_length_le]
    refine List_spec g.toBufG (m := 3) hS fun v h5 x5 hv => ?_
    rw [hlist] at hv
    obtain ⟨a, c, rfl⟩ := hv.len
    have e52 := (x5.get (B + 1) (by omega)).trans e42
    have e53 := (x5.get (B + 2) (by omega)).trans e43
    have n5 := x5.next
    by_cases hm : m = 2 ∨ m = 3
    · rcases hm with rfl | rfl
      · simp -implicitDefEqProofs
        exact tail h5 _ e53
      · simp -implicitDefEqProofs
        exact tail h5 _ e53
    · have hm2 : m ≠ 2 := fun e => hm (.inl e)
      have hm3 : m ≠ 3 := fun e => hm (.inr e)
      have hesc : esc = [] := e0 (by simp [newM, hm2, hm3])
      simp -implicitDefEqProofs [hm2, hm3, e52, L2, List.take_of_length_le]
      refine Empty_spec g.toBufG (m := newM m) (es := esc) fun h6 x6 => ?_
      have e63 := (x6.get (B + 2) (by omega)).trans e53
      simp -implicitDefEqProofs [hesc]
      exact tail h6 _ e63
end Go.Jq
