/- Regions, and what they come to. Printed by mkres.py. -/
import Derived.Test.YtghlejnndjioiaaGreatC
import Derived.Test.YtghlejnndjioiaaGreatR
import Derived.KernelRfl
set_option linter.unusedSimpArgs false
set_option linter.unusedVariables false
set_option maxRecDepth 20000
set_option maxHeartbeats 4000000
namespace Go.Jq
abbrev PS1 (l : List Nat) (o : List SOper) (s0 : Nat) := PSigma fun r : ECall → Cur 1 => ∀ c v0 T, regE c l o [(s0, v0)] T = r c v0 T
abbrev PS2 (l : List Nat) (o : List SOper) (s0 s1 : Nat) := PSigma fun r : ECall → Cur 2 => ∀ c v0 v1 T, regE c l o [(s0, v0), (s1, v1)] T = r c v0 v1 T
abbrev PS3 (l : List Nat) (o : List SOper) (s0 s1 s2 : Nat) := PSigma fun r : ECall → Cur 3 => ∀ c v0 v1 v2 T, regE c l o [(s0, v0), (s1, v1), (s2, v2)] T = r c v0 v1 v2 T
abbrev PS4 (l : List Nat) (o : List SOper) (s0 s1 s2 s3 : Nat) := PSigma fun r : ECall → Cur 4 => ∀ c v0 v1 v2 v3 T, regE c l o [(s0, v0), (s1, v1), (s2, v2), (s3, v3)] T = r c v0 v1 v2 v3 T
abbrev PS5 (l : List Nat) (o : List SOper) (s0 s1 s2 s3 s4 : Nat) := PSigma fun r : ECall → Cur 5 => ∀ c v0 v1 v2 v3 v4 T, regE c l o [(s0, v0), (s1, v1), (s2, v2), (s3, v3), (s4, v4)] T = r c v0 v1 v2 v3 v4 T
abbrev PS6 (l : List Nat) (o : List SOper) (s0 s1 s2 s3 s4 s5 : Nat) := PSigma fun r : ECall → Cur 6 => ∀ c v0 v1 v2 v3 v4 v5 T, regE c l o [(s0, v0), (s1, v1), (s2, v2), (s3, v3), (s4, v4), (s5, v5)] T = r c v0 v1 v2 v3 v4 v5 T
abbrev PS7 (l : List Nat) (o : List SOper) (s0 s1 s2 s3 s4 s5 s6 : Nat) := PSigma fun r : ECall → Cur 7 => ∀ c v0 v1 v2 v3 v4 v5 v6 T, regE c l o [(s0, v0), (s1, v1), (s2, v2), (s3, v3), (s4, v4), (s5, v5), (s6, v6)] T = r c v0 v1 v2 v3 v4 v5 v6 T
abbrev PS8 (l : List Nat) (o : List SOper) (s0 s1 s2 s3 s4 s5 s6 s7 : Nat) := PSigma fun r : ECall → Cur 8 => ∀ c v0 v1 v2 v3 v4 v5 v6 v7 T, regE c l o [(s0, v0), (s1, v1), (s2, v2), (s3, v3), (s4, v4), (s5, v5), (s6, v6), (s7, v7)] T = r c v0 v1 v2 v3 v4 v5 v6 v7 T
abbrev PS9 (l : List Nat) (o : List SOper) (s0 s1 s2 s3 s4 s5 s6 s7 s8 : Nat) := PSigma fun r : ECall → Cur 9 => ∀ c v0 v1 v2 v3 v4 v5 v6 v7 v8 T, regE c l o [(s0, v0), (s1, v1), (s2, v2), (s3, v3), (s4, v4), (s5, v5), (s6, v6), (s7, v7), (s8, v8)] T = r c v0 v1 v2 v3 v4 v5 v6 v7 v8 T
abbrev PS10 (l : List Nat) (o : List SOper) (s0 s1 s2 s3 s4 s5 s6 s7 s8 s9 : Nat) := PSigma fun r : ECall → Cur 10 => ∀ c v0 v1 v2 v3 v4 v5 v6 v7 v8 v9 T, regE c l o [(s0, v0), (s1, v1), (s2, v2), (s3, v3), (s4, v4), (s5, v5), (s6, v6), (s7, v7), (s8, v8), (s9, v9)] T = r c v0 v1 v2 v3 v4 v5 v6 v7 v8 v9 T
abbrev PS13 (l : List Nat) (o : List SOper) (s0 s1 s2 s3 s4 s5 s6 s7 s8 s9 s10 s11 s12 : Nat) := PSigma fun r : ECall → Cur 13 => ∀ c v0 v1 v2 v3 v4 v5 v6 v7 v8 v9 v10 v11 v12 T, regE c l o [(s0, v0), (s1, v1), (s2, v2), (s3, v3), (s4, v4), (s5, v5), (s6, v6), (s7, v7), (s8, v8), (s9, v9), (s10, v10), (s11, v11), (s12, v12)] T = r c v0 v1 v2 v3 v4 v5 v6 v7 v8 v9 v10 v11 v12 T
abbrev PS14 (l : List Nat) (o : List SOper) (s0 s1 s2 s3 s4 s5 s6 s7 s8 s9 s10 s11 s12 s13 : Nat) := PSigma fun r : ECall → Cur 14 => ∀ c v0 v1 v2 v3 v4 v5 v6 v7 v8 v9 v10 v11 v12 v13 T, regE c l o [(s0, v0), (s1, v1), (s2, v2), (s3, v3), (s4, v4), (s5, v5), (s6, v6), (s7, v7), (s8, v8), (s9, v9), (s10, v10), (s11, v11), (s12, v12), (s13, v13)] T = r c v0 v1 v2 v3 v4 v5 v6 v7 v8 v9 v10 v11 v12 v13 T
abbrev PS15 (l : List Nat) (o : List SOper) (s0 s1 s2 s3 s4 s5 s6 s7 s8 s9 s10 s11 s12 s13 s14 : Nat) := PSigma fun r : ECall → Cur 15 => ∀ c v0 v1 v2 v3 v4 v5 v6 v7 v8 v9 v10 v11 v12 v13 v14 T, regE c l o [(s0, v0), (s1, v1), (s2, v2), (s3, v3), (s4, v4), (s5, v5), (s6, v6), (s7, v7), (s8, v8), (s9, v9), (s10, v10), (s11, v11), (s12, v12), (s13, v13), (s14, v14)] T = r c v0 v1 v2 v3 v4 v5 v6 v7 v8 v9 v10 v11 v12 v13 v14 T
abbrev PS16 (l : List Nat) (o : List SOper) (s0 s1 s2 s3 s4 s5 s6 s7 s8 s9 s10 s11 s12 s13 s14 s15 : Nat) := PSigma fun r : ECall → Cur 16 => ∀ c v0 v1 v2 v3 v4 v5 v6 v7 v8 v9 v10 v11 v12 v13 v14 v15 T, regE c l o [(s0, v0), (s1, v1), (s2, v2), (s3, v3), (s4, v4), (s5, v5), (s6, v6), (s7, v7), (s8, v8), (s9, v9), (s10, v10), (s11, v11), (s12, v12), (s13, v13), (s14, v14), (s15, v15)] T = r c v0 v1 v2 v3 v4 v5 v6 v7 v8 v9 v10 v11 v12 v13 v14 v15 T
noncomputable def p4_0 : PS1 [0, 2] c4_0 0 := ⟨_, fun c v0 T => Eq.trans (regA rfl rfl (sM (eX_alloc) fun u0 T => (sE (F' := [(0, v0), (2, u0)]) rfl))) rfl⟩
noncomputable def x4_0 : XReg := (XReg.of [0, 2] c4_0).more [0] ⟨p4_0.1, p4_0.2⟩
noncomputable def p4_1 : PS2 [0, 2, 8] c4_1 0 2 := ⟨_, fun c v0 v2 T => Eq.trans (regA rfl rfl (sMov rfl (sV (eX_neq rfl rfl) fun u1 => (sMov rfl (gtMov rfl rfl fun u3 T => (gtV rfl (eX_neq rfl rfl) fun u4 T => (sV (eX_pick rfl rfl rfl) fun u5 => (sE (F' := [(0, v0), (2, v2), (8, u5)]) rfl)))))))) rfl⟩
noncomputable def x4_1 : XReg := (XReg.of [0, 2, 8] c4_1).more [0, 2] ⟨p4_1.1, p4_1.2⟩
noncomputable def p4_2 : PS3 [0, 2] c4_2 0 2 8 := ⟨_, fun c v0 v2 v8 T => Eq.trans (regA rfl rfl (sMov rfl (sE (F' := [(0, (cv (.int .i64 (0)))), (2, v2)]) rfl))) rfl⟩
noncomputable def x4_2 : XReg := (XReg.of [0, 2] c4_2).more [0, 2, 8] ⟨p4_2.1, p4_2.2⟩
noncomputable def p4_3 : PS2 [2] c4_3 0 2 := ⟨_, fun c v0 v2 T => Eq.trans (regA rfl rfl (sMov rfl (sV (eX_build rfl) fun u1 => (sS (eX_storeN rfl rfl) fun T => (sE (F' := [(2, v2)]) rfl))))) rfl⟩
noncomputable def x4_3 : XReg := (XReg.of [2] c4_3).more [0, 2] ⟨p4_3.1, p4_3.2⟩
noncomputable def p11_0 : PS2 [1, 2] c11_0 0 1 := ⟨_, fun c v0 v1 T => Eq.trans (regA rfl rfl (sM (eX_box rfl) fun u0 T => (sMov rfl (sMov rfl (sMov rfl (sMov rfl (sE (F' := [(1, v1), (2, u0)]) rfl))))))) rfl⟩
noncomputable def x11_0 : XReg := (XReg.of [1, 2] c11_0).more [0, 1] ⟨p11_0.1, p11_0.2⟩
noncomputable def p11_1 : PS2 [2, 8] c11_1 1 2 := ⟨_, fun c v1 v2 T => Eq.trans (regA rfl rfl (sV (eX_loadN rfl) fun u0 => (sMov rfl (sM (eX_call rfl) fun u2 T => (sMov rfl (sE (F' := [(2, v2), (8, u2)]) rfl)))))) rfl⟩
noncomputable def x11_1 : XReg := (XReg.of [2, 8] c11_1).more [1, 2] ⟨p11_1.1, p11_1.2⟩
noncomputable def p11_2 : PS2 [2, 8, 13] c11_2 2 8 := ⟨_, fun c v2 v8 T => Eq.trans (regA rfl rfl (sMov rfl (sV (eX_lss rfl rfl) fun u1 => (sE (F' := [(2, v2), (8, v8), (13, u1)]) rfl)))) rfl⟩
noncomputable def x11_2 : XReg := (XReg.of [2, 8, 13] c11_2).more [2, 8] ⟨p11_2.1, p11_2.2⟩
noncomputable def p11_3 : PS3 [4, 5, 6, 7] c11_3 2 8 13 := ⟨_, fun c v2 v8 v13 T => Eq.trans (regA rfl rfl (sMov rfl (sMov rfl (sMov rfl (sMov rfl (sE (F' := [(4, (cv (.int .i64 (0)))), (5, (cv (.int .i64 (0)))), (6, (cv (.int .i64 (0)))), (7, (cv (.bool false)))]) rfl)))))) rfl⟩
noncomputable def x11_3 : XReg := (XReg.of [4, 5, 6, 7] c11_3).more [2, 8, 13] ⟨p11_3.1, p11_3.2⟩
noncomputable def p14_0 : PS2 [1, 2] c14_0 0 1 := ⟨_, fun c v0 v1 T => Eq.trans (regA rfl rfl (sM (eX_box rfl) fun u0 T => (sMov rfl (sMov rfl (sMov rfl (sE (F' := [(1, v1), (2, u0)]) rfl)))))) rfl⟩
noncomputable def x14_0 : XReg := (XReg.of [1, 2] c14_0).more [0, 1] ⟨p14_0.1, p14_0.2⟩
noncomputable def p14_1 : PS2 [1, 2, 7] c14_1 1 2 := ⟨_, fun c v1 v2 T => Eq.trans (regA rfl rfl (sV (eX_fld rfl) fun u0 => (sV (eX_load1 rfl) fun u1 => (sV (eX_sub rfl rfl) fun u2 => (sMov rfl (sE (F' := [(1, v1), (2, v2), (7, u2)]) rfl)))))) rfl⟩
noncomputable def x14_1 : XReg := (XReg.of [1, 2, 7] c14_1).more [1, 2] ⟨p14_1.1, p14_1.2⟩
noncomputable def p14_2 : PS3 [1, 2, 7, 12] c14_2 1 2 7 := ⟨_, fun c v1 v2 v7 T => Eq.trans (regA rfl rfl (sMov rfl (sV (eX_geq rfl rfl) fun u1 => (sE (F' := [(1, v1), (2, v2), (7, v7), (12, u1)]) rfl)))) rfl⟩
noncomputable def x14_2 : XReg := (XReg.of [1, 2, 7, 12] c14_2).more [1, 2, 7] ⟨p14_2.1, p14_2.2⟩
noncomputable def p14_7 : PS4 [4, 5, 6] c14_7 1 2 7 12 := ⟨_, fun c v1 v2 v7 v12 T => Eq.trans (regA rfl rfl (sMov rfl (sMov rfl (sMov rfl (sE (F' := [(4, (cv (.int .i64 (0)))), (5, (cv (.int .i64 (0)))), (6, (cv (.bool false)))]) rfl))))) rfl⟩
noncomputable def x14_7 : XReg := (XReg.of [4, 5, 6] c14_7).more [1, 2, 7, 12] ⟨p14_7.1, p14_7.2⟩
noncomputable def p15_0 : PS2 [1, 2] c15_0 0 1 := ⟨_, fun c v0 v1 T => Eq.trans (regA rfl rfl (sM (eX_box rfl) fun u0 T => (sMov rfl (sE (F' := [(1, v1), (2, u0)]) rfl)))) rfl⟩
noncomputable def x15_0 : XReg := (XReg.of [1, 2] c15_0).more [0, 1] ⟨p15_0.1, p15_0.2⟩
noncomputable def p15_1 : PS2 [1, 2, 7, 8] c15_1 1 2 := ⟨_, fun c v1 v2 T => Eq.trans (regA rfl rfl (sV (eX_fld rfl) fun u0 => (sV (eX_load1 rfl) fun u1 => (sMov rfl (sE (F' := [(1, v1), (2, v2), (7, u1), (8, (cv (.int .i64 (0))))]) rfl))))) rfl⟩
noncomputable def x15_1 : XReg := (XReg.of [1, 2, 7, 8] c15_1).more [1, 2] ⟨p15_1.1, p15_1.2⟩
noncomputable def p15_2 : PS4 [1, 2, 7, 8, 9] c15_2 1 2 7 8 := ⟨_, fun c v1 v2 v7 v8 T => Eq.trans (regA rfl rfl (sV (eX_lss rfl rfl) fun u0 => (sE (F' := [(1, v1), (2, v2), (7, v7), (8, v8), (9, u0)]) rfl))) rfl⟩
noncomputable def x15_2 : XReg := (XReg.of [1, 2, 7, 8, 9] c15_2).more [1, 2, 7, 8] ⟨p15_2.1, p15_2.2⟩
noncomputable def p15_8 : PS5 [4] c15_8 1 2 7 8 9 := ⟨_, fun c v1 v2 v7 v8 v9 T => Eq.trans (regA rfl rfl (sMov rfl (sE (F' := [(4, (cv (.int .i64 (-1))))]) rfl))) rfl⟩
noncomputable def x15_8 : XReg := (XReg.of [4] c15_8).more [1, 2, 7, 8, 9] ⟨p15_8.1, p15_8.2⟩
noncomputable def p20_2 : PS2 [0] c20_2 0 1 := ⟨_, fun c v0 v1 T => Eq.trans (regA rfl rfl (sM (eX_mkslice rfl) fun u0 T => (sM (op1_mark) fun u1 T => (sM (eX_mkslice rfl) fun u2 T => (sV (eX_loadN rfl) fun u3 => (sV (eX_build rfl) fun u4 => (sV (eX_build rfl) fun u5 => (sM (eX_mkslice rfl) fun u6 T => (sV (eX_loadN rfl) fun u7 => (sV (eX_build rfl) fun u8 => (sV (eX_build rfl) fun u9 => (sM (eX_mkslice rfl) fun u10 T => (sM (eX_mkslice rfl) fun u11 T => (sV (eX_build rfl) fun u12 => (sS (eX_storeN rfl rfl) fun T => (sE (F' := [(0, v0)]) rfl)))))))))))))))) rfl⟩
noncomputable def x20_2 : XReg := (XReg.of [0] c20_2).more [0, 1] ⟨p20_2.1, p20_2.2⟩
noncomputable def p58_0 : PS2 [0, 1] c58_0 0 1 := ⟨_, fun c v0 v1 T => Eq.trans (regA rfl rfl (sMov rfl (sE (F' := [(0, v0), (1, v1)]) rfl))) rfl⟩
noncomputable def x58_0 : XReg := (XReg.of [0, 1] c58_0).more [0, 1] ⟨p58_0.1, p58_0.2⟩
noncomputable def p58_1 : PS2 [4] c58_1 0 1 := ⟨_, fun c v0 v1 T => Eq.trans (regA rfl rfl (sMov rfl (sMov rfl (sM (eX_call rfl) fun u2 T => (sV (eX_and rfl rfl) fun u3 => (sV (eX_neq rfl rfl) fun u4 => (sMov rfl (sE (F' := [(4, u4)]) rfl)))))))) rfl⟩
noncomputable def x58_1 : XReg := (XReg.of [4] c58_1).more [0, 1] ⟨p58_1.1, p58_1.2⟩
noncomputable def p59_1 : PS1 [1, 37] c59_1 1 := ⟨_, fun c v1 T => Eq.trans (regA rfl rfl (sV (eX_fld rfl) fun u0 => (sV (eX_load1 rfl) fun u1 => (sV (eX_lenS rfl) fun u2 => (sV (eX_eql rfl rfl) fun u3 => (sMov rfl (gfV rfl (eX_fld rfl) fun u5 T => (gfV rfl (eX_load1 rfl) fun u6 T => (gfV rfl (eX_lenS rfl) fun u7 T => (gfV rfl (eX_gtr rfl rfl) fun u8 T => (sV (eX_pick rfl rfl rfl) fun u9 => (sMov rfl (gfV rfl (eX_fld rfl) fun u11 T => (gfV rfl (eX_load1 rfl) fun u12 T => (gfV rfl (eX_lenS rfl) fun u13 T => (gfV rfl (eX_gtr rfl rfl) fun u14 T => (sV (eX_pick rfl rfl rfl) fun u15 => (sMov rfl (gfV rfl (eX_fld rfl) fun u17 T => (gfV rfl (eX_load1 rfl) fun u18 T => (gfV rfl (eX_lenS rfl) fun u19 T => (gfV rfl (eX_fld rfl) fun u20 T => (gfV rfl (eX_load1 rfl) fun u21 T => (gfV rfl (eX_lenS rfl) fun u22 T => (gfV rfl (eX_neq rfl rfl) fun u23 T => (sV (eX_pick rfl rfl rfl) fun u24 => (sMov rfl (gfV rfl (eX_loadN rfl) fun u26 T => (gfM rfl (eX_call rfl) fun u27 T => (gfV rfl (eX_gtr rfl rfl) fun u28 T => (sV (eX_pick rfl rfl rfl) fun u29 => (sE (F' := [(1, v1), (37, u29)]) rfl)))))))))))))))))))))))))))))))) rfl⟩
noncomputable def x59_1 : XReg := (XReg.of [1, 37] c59_1).more [1] ⟨p59_1.1, p59_1.2⟩
noncomputable def p59_4 : PS4 [1, 39, 40, 41, 42] c59_4 1 39 40 41 := ⟨_, fun c v1 v39 v40 v41 T => Eq.trans (regA rfl rfl (sV (eX_lss rfl rfl) fun u0 => (sE (F' := [(1, v1), (39, v39), (40, v40), (41, v41), (42, u0)]) rfl))) rfl⟩
noncomputable def x59_4 : XReg := (XReg.of [1, 39, 40, 41, 42] c59_4).more [1, 39, 40, 41] ⟨p59_4.1, p59_4.2⟩
noncomputable def p59_5 : PS5 [1, 3, 4, 39, 40, 41] c59_5 1 39 40 41 42 := ⟨_, fun c v1 v39 v40 v41 v42 T => Eq.trans (regA rfl rfl (sMov rfl (sV (eX_idxS rfl rfl) fun u1 => (sV (eX_load1 rfl) fun u2 => (sMov rfl (sMov rfl (sE (F' := [(1, v1), (3, v41), (4, u2), (39, v39), (40, v40), (41, v41)]) rfl))))))) rfl⟩
noncomputable def x59_5 : XReg := (XReg.of [1, 3, 4, 39, 40, 41] c59_5).more [1, 39, 40, 41, 42] ⟨p59_5.1, p59_5.2⟩
noncomputable def p59_6 : PS6 [1, 39, 40, 41, 63] c59_6 1 3 4 39 40 41 := ⟨_, fun c v1 v3 v4 v39 v40 v41 T => Eq.trans (regA rfl rfl (sMov rfl (sV (eX_conv rfl) fun u1 => (sM (eX_call rfl) fun u2 T => (sV (eX_not rfl) fun u3 => (sMov rfl (gfMov rfl rfl fun u5 T => (gfV rfl (eX_gtr rfl rfl) fun u6 T => (gfMov rfl rfl fun u7 T => (gtMov rfl rfl fun u8 T => (gtV rfl (eX_fld rfl) fun u9 T => (gtV rfl (eX_load1 rfl) fun u10 T => (gtMov rfl rfl fun u11 T => (gtV rfl (eX_sub rfl rfl) fun u12 T => (gtV rfl (eX_idxS rfl rfl) fun u13 T => (gtV rfl (eX_load1 rfl) fun u14 T => (gtV rfl (eX_leq rfl rfl) fun u15 T => (gfV rfl (eX_pick rfl rfl rfl) fun u16 T => (sV (eX_pick rfl rfl rfl) fun u17 => (sE (F' := [(1, v1), (39, v39), (40, v40), (41, v41), (63, u17)]) rfl)))))))))))))))))))) rfl⟩
noncomputable def x59_6 : XReg := (XReg.of [1, 39, 40, 41, 63] c59_6).more [1, 3, 4, 39, 40, 41] ⟨p59_6.1, p59_6.2⟩
noncomputable def p59_8 : PS5 [1, 39, 40, 41] c59_8 1 39 40 41 63 := ⟨_, fun c v1 v39 v40 v41 v63 T => Eq.trans (regA rfl rfl (sV (eX_add rfl rfl) fun u0 => (sMov rfl (sE (F' := [(1, v1), (39, v39), (40, v40), (41, u0)]) rfl)))) rfl⟩
noncomputable def x59_8 : XReg := (XReg.of [1, 39, 40, 41] c59_8).more [1, 39, 40, 41, 63] ⟨p59_8.1, p59_8.2⟩
noncomputable def p59_12 : PS4 [5, 67, 68, 69, 70] c59_12 5 67 68 69 := ⟨_, fun c v5 v67 v68 v69 T => Eq.trans (regA rfl rfl (sV (eX_lss rfl rfl) fun u0 => (sE (F' := [(5, v5), (67, v67), (68, v68), (69, v69), (70, u0)]) rfl))) rfl⟩
noncomputable def x59_12 : XReg := (XReg.of [5, 67, 68, 69, 70] c59_12).more [5, 67, 68, 69] ⟨p59_12.1, p59_12.2⟩
noncomputable def p59_13 : PS5 [5, 7, 67, 68, 69] c59_13 5 67 68 69 70 := ⟨_, fun c v5 v67 v68 v69 v70 T => Eq.trans (regA rfl rfl (sV (eX_idxS rfl rfl) fun u0 => (sV (eX_load1 rfl) fun u1 => (sMov rfl (sE (F' := [(5, v5), (7, u1), (67, v67), (68, v68), (69, v69)]) rfl))))) rfl⟩
noncomputable def x59_13 : XReg := (XReg.of [5, 7, 67, 68, 69] c59_13).more [5, 67, 68, 69, 70] ⟨p59_13.1, p59_13.2⟩
noncomputable def p59_14 : PS5 [5, 67, 68, 69, 85] c59_14 5 7 67 68 69 := ⟨_, fun c v5 v7 v67 v68 v69 T => Eq.trans (regA rfl rfl (sMov rfl (sV (eX_lenS rfl) fun u1 => (sV (eX_gtr rfl rfl) fun u2 => (sMov rfl (gfMov rfl rfl fun u4 T => (gfM rfl (eX_call rfl) fun u5 T => (gfV rfl (eX_not rfl) fun u6 T => (sV (eX_pick rfl rfl rfl) fun u7 => (sMov rfl (gfMov rfl rfl fun u9 T => (gfV rfl (eX_mkfunc rfl rfl) fun u10 T => (gfM rfl (eX_call rfl) fun u11 T => (sV (eX_pick rfl rfl rfl) fun u12 => (sE (F' := [(5, v5), (67, v67), (68, v68), (69, v69), (85, u12)]) rfl))))))))))))))) rfl⟩
noncomputable def x59_14 : XReg := (XReg.of [5, 67, 68, 69, 85] c59_14).more [5, 7, 67, 68, 69] ⟨p59_14.1, p59_14.2⟩
noncomputable def p59_16 : PS5 [5, 67, 68, 69] c59_16 5 67 68 69 85 := ⟨_, fun c v5 v67 v68 v69 v85 T => Eq.trans (regA rfl rfl (sV (eX_add rfl rfl) fun u0 => (sMov rfl (sE (F' := [(5, v5), (67, v67), (68, v68), (69, u0)]) rfl)))) rfl⟩
noncomputable def x59_16 : XReg := (XReg.of [5, 67, 68, 69] c59_16).more [5, 67, 68, 69, 85] ⟨p59_16.1, p59_16.2⟩
noncomputable def p60_0 : PS2 [1, 2, 4] c60_0 0 1 := ⟨_, fun c v0 v1 T => Eq.trans (regA rfl rfl (sM (eX_box rfl) fun u0 T => (sM (eX_alloc) fun u1 T => (sE (F' := [(1, v1), (2, u0), (4, u1)]) rfl)))) rfl⟩
noncomputable def x60_0 : XReg := (XReg.of [1, 2, 4] c60_0).more [0, 1] ⟨p60_0.1, p60_0.2⟩
noncomputable def p60_1 : PS3 [4] c60_1 1 2 4 := ⟨_, fun c v1 v2 v4 T => Eq.trans (regA rfl rfl (sV (eX_loadN rfl) fun u0 => (sMov rfl (sM (eX_call rfl) fun u2 T => (sV (eX_build rfl) fun u3 => (sM (eX_call rfl) fun u4 T => (sS (eX_storeN rfl rfl) fun T => (sE (F' := [(4, v4)]) rfl)))))))) rfl⟩
noncomputable def x60_1 : XReg := (XReg.of [4] c60_1).more [1, 2, 4] ⟨p60_1.1, p60_1.2⟩
noncomputable def p88_1 : PS2 [1, 2, 18] c88_1 1 2 := ⟨_, fun c v1 v2 T => Eq.trans (regA rfl rfl (sMov rfl (sV (eX_lss rfl rfl) fun u1 => (sMov rfl (gfMov rfl rfl fun u3 T => (gfV rfl (eX_gtr rfl rfl) fun u4 T => (sV (eX_pick rfl rfl rfl) fun u5 => (sMov rfl (gfV rfl (eX_loadN rfl) fun u7 T => (gfM rfl (eX_call rfl) fun u8 T => (gfV rfl (eX_not rfl) fun u9 T => (sV (eX_pick rfl rfl rfl) fun u10 => (sE (F' := [(1, v1), (2, v2), (18, u10)]) rfl))))))))))))) rfl⟩
noncomputable def x88_1 : XReg := (XReg.of [1, 2, 18] c88_1).more [1, 2] ⟨p88_1.1, p88_1.2⟩
noncomputable def p88_5 : PS4 [1, 2, 6, 24, 25] c88_5 1 2 6 24 := ⟨_, fun c v1 v2 v6 v24 T => Eq.trans (regA rfl rfl (sV (eX_lss rfl rfl) fun u0 => (sE (F' := [(1, v1), (2, v2), (6, v6), (24, v24), (25, u0)]) rfl))) rfl⟩
noncomputable def x88_5 : XReg := (XReg.of [1, 2, 6, 24, 25] c88_5).more [1, 2, 6, 24] ⟨p88_5.1, p88_5.2⟩
noncomputable def p88_6 : PS5 [1, 2, 6, 7, 24] c88_6 1 2 6 24 25 := ⟨_, fun c v1 v2 v6 v24 v25 T => Eq.trans (regA rfl rfl (sMov rfl (sMov rfl (sE (F' := [(1, v1), (2, v2), (6, v6), (7, v24), (24, v24)]) rfl)))) rfl⟩
noncomputable def x88_6 : XReg := (XReg.of [1, 2, 6, 7, 24] c88_6).more [1, 2, 6, 24, 25] ⟨p88_6.1, p88_6.2⟩
noncomputable def p88_9 : PS5 [1, 2, 6, 24] c88_9 1 2 6 7 24 := ⟨_, fun c v1 v2 v6 v7 v24 T => Eq.trans (regA rfl rfl (sMov rfl (sMov rfl (sV (eX_nilchk rfl) fun u2 => (sV (eX_fld rfl) fun u3 => (sV (eX_idxA rfl rfl) fun u4 => (sS (eX_store1 rfl rfl) fun T => (sE (F' := [(1, v1), (2, v2), (6, v6), (24, v24)]) rfl)))))))) rfl⟩
noncomputable def x88_9 : XReg := (XReg.of [1, 2, 6, 24] c88_9).more [1, 2, 6, 7, 24] ⟨p88_9.1, p88_9.2⟩
noncomputable def p88_10 : PS4 [1, 2, 6, 24] c88_10 1 2 6 24 := ⟨_, fun c v1 v2 v6 v24 T => Eq.trans (regA rfl rfl (sV (eX_add rfl rfl) fun u0 => (sMov rfl (sE (F' := [(1, v1), (2, v2), (6, v6), (24, u0)]) rfl)))) rfl⟩
noncomputable def x88_10 : XReg := (XReg.of [1, 2, 6, 24] c88_10).more [1, 2, 6, 24] ⟨p88_10.1, p88_10.2⟩
noncomputable def p101_0 : PS1 [1] c101_0 0 := ⟨_, fun c v0 T => Eq.trans (regA rfl rfl (sM (eX_box rfl) fun u0 T => (sMov rfl (sE (F' := [(1, u0)]) rfl)))) rfl⟩
noncomputable def x101_0 : XReg := (XReg.of [1] c101_0).more [0] ⟨p101_0.1, p101_0.2⟩
noncomputable def p101_1 : PS1 [2] c101_1 1 := ⟨_, fun c v1 T => Eq.trans (regA rfl rfl (sV (eX_fld rfl) fun u0 => (sV (eX_load1 rfl) fun u1 => (sV (eX_eql rfl rfl) fun u2 => (sMov rfl (gfV rfl (eX_fld rfl) fun u4 T => (gfV rfl (eX_load1 rfl) fun u5 T => (gfV rfl (eX_eql rfl rfl) fun u6 T => (sV (eX_pick rfl rfl rfl) fun u7 => (sMov rfl (sE (F' := [(2, u7)]) rfl))))))))))) rfl⟩
noncomputable def x101_1 : XReg := (XReg.of [2] c101_1).more [1] ⟨p101_1.1, p101_1.2⟩
noncomputable def p102_0 : PS2 [0, 1] c102_0 0 1 := ⟨_, fun c v0 v1 T => Eq.trans (regA rfl rfl (sMov rfl (sE (F' := [(0, v0), (1, v1)]) rfl))) rfl⟩
noncomputable def x102_0 : XReg := (XReg.of [0, 1] c102_0).more [0, 1] ⟨p102_0.1, p102_0.2⟩
noncomputable def p102_1 : PS2 [4] c102_1 0 1 := ⟨_, fun c v0 v1 T => Eq.trans (regA rfl rfl (sMov rfl (sMov rfl (sM (eX_call rfl) fun u2 T => (sV (eX_or rfl rfl) fun u3 => (sMov rfl (sE (F' := [(4, u3)]) rfl))))))) rfl⟩
noncomputable def x102_1 : XReg := (XReg.of [4] c102_1).more [0, 1] ⟨p102_1.1, p102_1.2⟩
noncomputable def p103_0 : PS1 [0] c103_0 0 := ⟨_, fun c v0 T => Eq.trans (regA rfl rfl (sMov rfl (sE (F' := [(0, v0)]) rfl))) rfl⟩
noncomputable def x103_0 : XReg := (XReg.of [0] c103_0).more [0] ⟨p103_0.1, p103_0.2⟩
noncomputable def p103_1 : PS1 [0, 8] c103_1 0 := ⟨_, fun c v0 T => Eq.trans (regA rfl rfl (sMov rfl (sV (eX_lss rfl rfl) fun u1 => (sMov rfl (gfMov rfl rfl fun u3 T => (gfV rfl (eX_geq rfl rfl) fun u4 T => (sV (eX_pick rfl rfl rfl) fun u5 => (sE (F' := [(0, v0), (8, u5)]) rfl)))))))) rfl⟩
noncomputable def x103_1 : XReg := (XReg.of [0, 8] c103_1).more [0] ⟨p103_1.1, p103_1.2⟩
noncomputable def p103_3 : PS2 [2] c103_3 0 8 := ⟨_, fun c v0 v8 T => Eq.trans (regA rfl rfl (sMov rfl (sV (eX_conv rfl) fun u1 => (sV (eX_shl rfl rfl) fun u2 => (sMov rfl (sE (F' := [(2, u2)]) rfl)))))) rfl⟩
noncomputable def x103_3 : XReg := (XReg.of [2] c103_3).more [0, 8] ⟨p103_3.1, p103_3.2⟩
noncomputable def p104_3 : PS4 [3, 7, 8, 9, 10] c104_3 3 7 8 9 := ⟨_, fun c v3 v7 v8 v9 T => Eq.trans (regA rfl rfl (sV (eX_lss rfl rfl) fun u0 => (sE (F' := [(3, v3), (7, v7), (8, v8), (9, v9), (10, u0)]) rfl))) rfl⟩
noncomputable def x104_3 : XReg := (XReg.of [3, 7, 8, 9, 10] c104_3).more [3, 7, 8, 9] ⟨p104_3.1, p104_3.2⟩
noncomputable def p104_4 : PS5 [3, 5, 7, 8, 9] c104_4 3 7 8 9 10 := ⟨_, fun c v3 v7 v8 v9 v10 T => Eq.trans (regA rfl rfl (sV (eX_idxS rfl rfl) fun u0 => (sV (eX_load1 rfl) fun u1 => (sMov rfl (sE (F' := [(3, v3), (5, u1), (7, v7), (8, v8), (9, v9)]) rfl))))) rfl⟩
noncomputable def x104_4 : XReg := (XReg.of [3, 5, 7, 8, 9] c104_4).more [3, 7, 8, 9, 10] ⟨p104_4.1, p104_4.2⟩
noncomputable def p104_5 : PS5 [3, 7, 8, 9] c104_5 3 5 7 8 9 := ⟨_, fun c v3 v5 v7 v8 v9 T => Eq.trans (regA rfl rfl (sMov rfl (sMov rfl (sV (eX_lenS rfl) fun u2 => (sV (eX_add rfl rfl) fun u3 => (sMov rfl (sE (F' := [(3, u3), (7, v7), (8, v8), (9, v9)]) rfl))))))) rfl⟩
noncomputable def x104_5 : XReg := (XReg.of [3, 7, 8, 9] c104_5).more [3, 5, 7, 8, 9] ⟨p104_5.1, p104_5.2⟩
noncomputable def p104_6 : PS4 [3, 7, 8, 9] c104_6 3 7 8 9 := ⟨_, fun c v3 v7 v8 v9 T => Eq.trans (regA rfl rfl (sV (eX_add rfl rfl) fun u0 => (sMov rfl (sE (F' := [(3, v3), (7, v7), (8, v8), (9, u0)]) rfl)))) rfl⟩
noncomputable def x104_6 : XReg := (XReg.of [3, 7, 8, 9] c104_6).more [3, 7, 8, 9] ⟨p104_6.1, p104_6.2⟩
noncomputable def p105_1 : PS1 [2] c105_1 0 := ⟨_, fun c v0 T => Eq.trans (regA rfl rfl (sMov rfl (sV (eX_geq rfl rfl) fun u1 => (sMov rfl (gtMov rfl rfl fun u3 T => (gtV rfl (eX_leq rfl rfl) fun u4 T => (sV (eX_pick rfl rfl rfl) fun u5 => (sMov rfl (sE (F' := [(2, u5)]) rfl))))))))) rfl⟩
noncomputable def x105_1 : XReg := (XReg.of [2] c105_1).more [0] ⟨p105_1.1, p105_1.2⟩
noncomputable def p106_0 : PS2 [0, 1] c106_0 0 1 := ⟨_, fun c v0 v1 T => Eq.trans (regA rfl rfl (sMov rfl (sE (F' := [(0, v0), (1, v1)]) rfl))) rfl⟩
noncomputable def x106_0 : XReg := (XReg.of [0, 1] c106_0).more [0, 1] ⟨p106_0.1, p106_0.2⟩
noncomputable def p106_1 : PS2 [3] c106_1 0 1 := ⟨_, fun c v0 v1 T => Eq.trans (regA rfl rfl (sMov rfl (sV (eX_geq rfl rfl) fun u1 => (sMov rfl (gtMov rfl rfl fun u3 T => (gtV rfl (eX_fld rfl) fun u4 T => (gtV rfl (eX_load1 rfl) fun u5 T => (gtV rfl (eX_lenS rfl) fun u6 T => (gtV rfl (eX_lss rfl rfl) fun u7 T => (sV (eX_pick rfl rfl rfl) fun u8 => (sMov rfl (sE (F' := [(3, u8)]) rfl)))))))))))) rfl⟩
noncomputable def x106_1 : XReg := (XReg.of [3] c106_1).more [0, 1] ⟨p106_1.1, p106_1.2⟩
noncomputable def p107_1 : PS1 [0, 5, 6, 7] c107_1 0 := ⟨_, fun c v0 T => Eq.trans (regA rfl rfl (sMov rfl (sV (eX_lenS rfl) fun u1 => (sMov rfl (sE (F' := [(0, v0), (5, v0), (6, u1), (7, (cv (.int .i64 (0))))]) rfl))))) rfl⟩
noncomputable def x107_1 : XReg := (XReg.of [0, 5, 6, 7] c107_1).more [0] ⟨p107_1.1, p107_1.2⟩
noncomputable def p107_2 : PS4 [0, 5, 6, 7, 8] c107_2 0 5 6 7 := ⟨_, fun c v0 v5 v6 v7 T => Eq.trans (regA rfl rfl (sV (eX_lss rfl rfl) fun u0 => (sE (F' := [(0, v0), (5, v5), (6, v6), (7, v7), (8, u0)]) rfl))) rfl⟩
noncomputable def x107_2 : XReg := (XReg.of [0, 5, 6, 7, 8] c107_2).more [0, 5, 6, 7] ⟨p107_2.1, p107_2.2⟩
noncomputable def p107_3 : PS5 [0, 3, 4, 5, 6, 7] c107_3 0 5 6 7 8 := ⟨_, fun c v0 v5 v6 v7 v8 T => Eq.trans (regA rfl rfl (sMov rfl (sV (eX_idxS rfl rfl) fun u1 => (sV (eX_loadN rfl) fun u2 => (sM (eX_alloc) fun u3 T => (sMov rfl (sS (eX_storeN rfl rfl) fun T => (sE (F' := [(0, v0), (3, v7), (4, u3), (5, v5), (6, v6), (7, v7)]) rfl)))))))) rfl⟩
noncomputable def x107_3 : XReg := (XReg.of [0, 3, 4, 5, 6, 7] c107_3).more [0, 5, 6, 7, 8] ⟨p107_3.1, p107_3.2⟩
noncomputable def p107_4 : PS6 [0, 5, 6, 7, 29] c107_4 0 3 4 5 6 7 := ⟨_, fun c v0 v3 v4 v5 v6 v7 T => Eq.trans (regA rfl rfl (sV (eX_fld rfl) fun u0 => (sV (eX_load1 rfl) fun u1 => (sV (eX_eql rfl rfl) fun u2 => (sMov rfl (gtV rfl (eX_fld rfl) fun u4 T => (gtV rfl (eX_load1 rfl) fun u5 T => (gtV rfl (eX_lss rfl rfl) fun u6 T => (gtMov rfl rfl fun u7 T => (gfV rfl (eX_fld rfl) fun u8 T => (gfV rfl (eX_load1 rfl) fun u9 T => (gfMov rfl rfl fun u10 T => (gfV rfl (eX_lenS rfl) fun u11 T => (gfMov rfl rfl fun u12 T => (gfV rfl (eX_sub rfl rfl) fun u13 T => (gfV rfl (eX_sub rfl rfl) fun u14 T => (gfV rfl (eX_gtr rfl rfl) fun u15 T => (gtV rfl (eX_pick rfl rfl rfl) fun u16 T => (sV (eX_pick rfl rfl rfl) fun u17 => (sE (F' := [(0, v0), (5, v5), (6, v6), (7, v7), (29, u17)]) rfl)))))))))))))))))))) rfl⟩
noncomputable def x107_4 : XReg := (XReg.of [0, 5, 6, 7, 29] c107_4).more [0, 3, 4, 5, 6, 7] ⟨p107_4.1, p107_4.2⟩
noncomputable def p107_6 : PS5 [0, 5, 6, 7] c107_6 0 5 6 7 29 := ⟨_, fun c v0 v5 v6 v7 v29 T => Eq.trans (regA rfl rfl (sV (eX_add rfl rfl) fun u0 => (sMov rfl (sE (F' := [(0, v0), (5, v5), (6, v6), (7, u0)]) rfl)))) rfl⟩
noncomputable def x107_6 : XReg := (XReg.of [0, 5, 6, 7] c107_6).more [0, 5, 6, 7, 29] ⟨p107_6.1, p107_6.2⟩
noncomputable def p108_1 : PS2 [4] c108_1 0 1 := ⟨_, fun c v0 v1 T => Eq.trans (regA rfl rfl (sMov rfl (sMov rfl (sM (eX_call rfl) fun u2 T => (sV (eX_geq rfl rfl) fun u3 => (sMov rfl (sE (F' := [(4, u3)]) rfl))))))) rfl⟩
noncomputable def x108_1 : XReg := (XReg.of [4] c108_1).more [0, 1] ⟨p108_1.1, p108_1.2⟩
noncomputable def p109_0 : PS2 [1, 2] c109_0 0 1 := ⟨_, fun c v0 v1 T => Eq.trans (regA rfl rfl (sM (eX_box rfl) fun u0 T => (sMov rfl (sE (F' := [(1, v1), (2, u0)]) rfl)))) rfl⟩
noncomputable def x109_0 : XReg := (XReg.of [1, 2] c109_0).more [0, 1] ⟨p109_0.1, p109_0.2⟩
noncomputable def p109_1 : PS2 [3] c109_1 1 2 := ⟨_, fun c v1 v2 T => Eq.trans (regA rfl rfl (sV (eX_loadN rfl) fun u0 => (sV (eX_load1 rfl) fun u1 => (sM (eX_call rfl) fun u2 T => (sV (eX_not rfl) fun u3 => (sMov rfl (sE (F' := [(3, u3)]) rfl))))))) rfl⟩
noncomputable def x109_1 : XReg := (XReg.of [3] c109_1).more [1, 2] ⟨p109_1.1, p109_1.2⟩
noncomputable def p110_0 : PS2 [1, 2] c110_0 0 1 := ⟨_, fun c v0 v1 T => Eq.trans (regA rfl rfl (sM (eX_box rfl) fun u0 T => (sMov rfl (sE (F' := [(1, v1), (2, u0)]) rfl)))) rfl⟩
noncomputable def x110_0 : XReg := (XReg.of [1, 2] c110_0).more [0, 1] ⟨p110_0.1, p110_0.2⟩
noncomputable def p110_1 : PS2 [1, 2, 5] c110_1 1 2 := ⟨_, fun c v1 v2 T => Eq.trans (regA rfl rfl (sV (eX_fld rfl) fun u0 => (sV (eX_load1 rfl) fun u1 => (sV (eX_build rfl) fun u2 => (sM (eX_alloc) fun u3 T => (sS (eX_storeN rfl rfl) fun T => (sE (F' := [(1, v1), (2, v2), (5, u3)]) rfl))))))) rfl⟩
noncomputable def x110_1 : XReg := (XReg.of [1, 2, 5] c110_1).more [1, 2] ⟨p110_1.1, p110_1.2⟩
noncomputable def p110_2 : PS3 [1, 2, 5, 6] c110_2 1 2 5 := ⟨_, fun c v1 v2 v5 T => Eq.trans (regA rfl rfl (sMov rfl (sE (F' := [(1, v1), (2, v2), (5, v5), (6, (cv (.bool true)))]) rfl))) rfl⟩
noncomputable def x110_2 : XReg := (XReg.of [1, 2, 5, 6] c110_2).more [1, 2, 5] ⟨p110_2.1, p110_2.2⟩
noncomputable def p110_3 : PS4 [1, 2, 5, 6, 11] c110_3 1 2 5 6 := ⟨_, fun c v1 v2 v5 v6 T => Eq.trans (regA rfl rfl (sV (eX_fld rfl) fun u0 => (sV (eX_load1 rfl) fun u1 => (sE (F' := [(1, v1), (2, v2), (5, v5), (6, v6), (11, u1)]) rfl)))) rfl⟩
noncomputable def x110_3 : XReg := (XReg.of [1, 2, 5, 6, 11] c110_3).more [1, 2, 5, 6] ⟨p110_3.1, p110_3.2⟩
noncomputable def p110_4 : PS5 [1, 2, 5, 6, 11, 12] c110_4 1 2 5 6 11 := ⟨_, fun c v1 v2 v5 v6 v11 T => Eq.trans (regA rfl rfl (sV (eX_eql rfl rfl) fun u0 => (sMov rfl (sE (F' := [(1, v1), (2, v2), (5, v5), (6, v6), (11, v11), (12, u0)]) rfl)))) rfl⟩
noncomputable def x110_4 : XReg := (XReg.of [1, 2, 5, 6, 11, 12] c110_4).more [1, 2, 5, 6, 11] ⟨p110_4.1, p110_4.2⟩
noncomputable def p110_6 : PS3 [2, 5, 6] c110_6 1 2 5 := ⟨_, fun c v1 v2 v5 T => Eq.trans (regA rfl rfl (sMov rfl (sV (eX_fld rfl) fun u1 => (sV (eX_load1 rfl) fun u2 => (sM (eX_callv rfl rfl) fun u3 T => (sMov rfl (gtV rfl (eX_fld rfl) fun u5 T => (gtV rfl (eX_loadN rfl) fun u6 T => (gtM rfl (eX_call rfl) fun u7 T => (sV (eX_pick rfl rfl rfl) fun u8 => (sMov rfl (sE (F' := [(2, v2), (5, v5), (6, u8)]) rfl)))))))))))) rfl⟩
noncomputable def x110_6 : XReg := (XReg.of [2, 5, 6] c110_6).more [1, 2, 5] ⟨p110_6.1, p110_6.2⟩
noncomputable def p110_7 : PS6 [1, 2, 5, 6, 11, 29] c110_7 1 2 5 6 11 12 := ⟨_, fun c v1 v2 v5 v6 v11 v12 T => Eq.trans (regA rfl rfl (sV (eX_eql rfl rfl) fun u0 => (sMov rfl (sE (F' := [(1, v1), (2, v2), (5, v5), (6, v6), (11, v11), (29, u0)]) rfl)))) rfl⟩
noncomputable def x110_7 : XReg := (XReg.of [1, 2, 5, 6, 11, 29] c110_7).more [1, 2, 5, 6, 11, 12] ⟨p110_7.1, p110_7.2⟩
noncomputable def p110_9 : PS3 [2, 5, 6] c110_9 1 2 5 := ⟨_, fun c v1 v2 v5 T => Eq.trans (regA rfl rfl (sMov rfl (sV (eX_fld rfl) fun u1 => (sV (eX_load1 rfl) fun u2 => (sM (eX_callv rfl rfl) fun u3 T => (sMov rfl (gtV rfl (eX_fld rfl) fun u5 T => (gtV rfl (eX_load1 rfl) fun u6 T => (gtM rfl (eX_call rfl) fun u7 T => (sV (eX_pick rfl rfl rfl) fun u8 => (sMov rfl (sE (F' := [(2, v2), (5, v5), (6, u8)]) rfl)))))))))))) rfl⟩
noncomputable def x110_9 : XReg := (XReg.of [2, 5, 6] c110_9).more [1, 2, 5] ⟨p110_9.1, p110_9.2⟩
noncomputable def p110_21 : PS3 [4] c110_21 2 5 6 := ⟨_, fun c v2 v5 v6 T => Eq.trans (regA rfl rfl (sMov rfl (sMov rfl (gtV rfl (eX_loadN rfl) fun u2 T => (gtV rfl (eX_loadN rfl) fun u3 T => (gtM rfl (op1_eqN) fun u4 T => (sV (eX_pick rfl rfl rfl) fun u5 => (sMov rfl (sE (F' := [(4, u5)]) rfl))))))))) rfl⟩
noncomputable def x110_21 : XReg := (XReg.of [4] c110_21).more [2, 5, 6] ⟨p110_21.1, p110_21.2⟩
noncomputable def p111_0 : PS2 [0, 3, 4] c111_0 0 1 := ⟨_, fun c v0 v1 T => Eq.trans (regA rfl rfl (sM (eX_box rfl) fun u0 T => (sM (eX_alloc) fun u1 T => (sE (F' := [(0, v0), (3, u0), (4, u1)]) rfl)))) rfl⟩
noncomputable def x111_0 : XReg := (XReg.of [0, 3, 4] c111_0).more [0, 1] ⟨p111_0.1, p111_0.2⟩
noncomputable def p111_1 : PS3 [0, 3, 4, 19] c111_1 0 3 4 := ⟨_, fun c v0 v3 v4 T => Eq.trans (regA rfl rfl (sV (eX_fld rfl) fun u0 => (sV (eX_load1 rfl) fun u1 => (sV (eX_geq rfl rfl) fun u2 => (sMov rfl (gtV rfl (eX_fld rfl) fun u4 T => (gtV rfl (eX_load1 rfl) fun u5 T => (gtMov rfl rfl fun u6 T => (gtV rfl (eX_lenS rfl) fun u7 T => (gtV rfl (eX_lss rfl rfl) fun u8 T => (sV (eX_pick rfl rfl rfl) fun u9 => (sE (F' := [(0, v0), (3, v3), (4, v4), (19, u9)]) rfl)))))))))))) rfl⟩
noncomputable def x111_1 : XReg := (XReg.of [0, 3, 4, 19] c111_1).more [0, 3, 4] ⟨p111_1.1, p111_1.2⟩
noncomputable def p111_2 : PS4 [0, 3, 4, 5] c111_2 0 3 4 19 := ⟨_, fun c v0 v3 v4 v19 T => Eq.trans (regA rfl rfl (sMov rfl (sV (eX_fld rfl) fun u1 => (sV (eX_load1 rfl) fun u2 => (sV (eX_idxS rfl rfl) fun u3 => (sV (eX_loadN rfl) fun u4 => (sM (eX_alloc) fun u5 T => (sS (eX_storeN rfl rfl) fun T => (sE (F' := [(0, v0), (3, v3), (4, v4), (5, u5)]) rfl))))))))) rfl⟩
noncomputable def x111_2 : XReg := (XReg.of [0, 3, 4, 5] c111_2).more [0, 3, 4, 19] ⟨p111_2.1, p111_2.2⟩
noncomputable def p111_4 : PS6 [0, 3, 4, 5, 6, 7, 34] c111_4 0 3 4 5 6 7 := ⟨_, fun c v0 v3 v4 v5 v6 v7 T => Eq.trans (regA rfl rfl (sV (eX_fld rfl) fun u0 => (sV (eX_load1 rfl) fun u1 => (sE (F' := [(0, v0), (3, v3), (4, v4), (5, v5), (6, v6), (7, v7), (34, u1)]) rfl)))) rfl⟩
noncomputable def x111_4 : XReg := (XReg.of [0, 3, 4, 5, 6, 7, 34] c111_4).more [0, 3, 4, 5, 6, 7] ⟨p111_4.1, p111_4.2⟩
noncomputable def p111_5 : PS7 [0, 3, 4, 5, 6, 7, 34, 36] c111_5 0 3 4 5 6 7 34 := ⟨_, fun c v0 v3 v4 v5 v6 v7 v34 T => Eq.trans (regA rfl rfl (sV (eX_eql rfl rfl) fun u0 => (sMov rfl (sE (F' := [(0, v0), (3, v3), (4, v4), (5, v5), (6, v6), (7, v7), (34, v34), (36, u0)]) rfl)))) rfl⟩
noncomputable def x111_5 : XReg := (XReg.of [0, 3, 4, 5, 6, 7, 34, 36] c111_5).more [0, 3, 4, 5, 6, 7, 34] ⟨p111_5.1, p111_5.2⟩
noncomputable def p111_10 : PS8 [0, 3, 4, 5, 6, 7, 52] c111_10 0 3 4 5 6 7 34 36 := ⟨_, fun c v0 v3 v4 v5 v6 v7 v34 v36 T => Eq.trans (regA rfl rfl (sV (eX_eql rfl rfl) fun u0 => (sMov rfl (sE (F' := [(0, v0), (3, v3), (4, v4), (5, v5), (6, v6), (7, v7), (52, u0)]) rfl)))) rfl⟩
noncomputable def x111_10 : XReg := (XReg.of [0, 3, 4, 5, 6, 7, 52] c111_10).more [0, 3, 4, 5, 6, 7, 34, 36] ⟨p111_10.1, p111_10.2⟩
noncomputable def p111_13 : PS7 [4] c111_13 0 3 4 5 6 7 52 := ⟨_, fun c v0 v3 v4 v5 v6 v7 v52 T => Eq.trans (regA rfl rfl (sV (eX_loadN rfl) fun u0 => (sS (eX_storeN rfl rfl) fun T => (sE (F' := [(4, v4)]) rfl)))) rfl⟩
noncomputable def x111_13 : XReg := (XReg.of [4] c111_13).more [0, 3, 4, 5, 6, 7, 52] ⟨p111_13.1, p111_13.2⟩
noncomputable def p111_16 : PS4 [4] c111_16 0 3 4 19 := ⟨_, fun c v0 v3 v4 v19 T => Eq.trans (regA rfl rfl (sV (eX_loadN rfl) fun u0 => (sS (eX_storeN rfl rfl) fun T => (sE (F' := [(4, v4)]) rfl)))) rfl⟩
noncomputable def x111_16 : XReg := (XReg.of [4] c111_16).more [0, 3, 4, 19] ⟨p111_16.1, p111_16.2⟩
noncomputable def p112_0 : PS2 [1, 2] c112_0 0 1 := ⟨_, fun c v0 v1 T => Eq.trans (regA rfl rfl (sM (eX_box rfl) fun u0 T => (sMov rfl (sE (F' := [(1, v1), (2, u0)]) rfl)))) rfl⟩
noncomputable def x112_0 : XReg := (XReg.of [1, 2] c112_0).more [0, 1] ⟨p112_0.1, p112_0.2⟩
noncomputable def p112_1 : PS2 [1, 2, 13] c112_1 1 2 := ⟨_, fun c v1 v2 T => Eq.trans (regA rfl rfl (sMov rfl (sV (eX_lss rfl rfl) fun u1 => (sMov rfl (gfMov rfl rfl fun u3 T => (gfV rfl (eX_fld rfl) fun u4 T => (gfV rfl (eX_load1 rfl) fun u5 T => (gfV rfl (eX_lenS rfl) fun u6 T => (gfV rfl (eX_geq rfl rfl) fun u7 T => (sV (eX_pick rfl rfl rfl) fun u8 => (sE (F' := [(1, v1), (2, v2), (13, u8)]) rfl))))))))))) rfl⟩
noncomputable def x112_1 : XReg := (XReg.of [1, 2, 13] c112_1).more [1, 2] ⟨p112_1.1, p112_1.2⟩
noncomputable def p112_2 : PS3 [4] c112_2 1 2 13 := ⟨_, fun c v1 v2 v13 T => Eq.trans (regA rfl rfl (sMov rfl (sE (F' := [(4, (cv (.slice none 0 0)))]) rfl))) rfl⟩
noncomputable def x112_2 : XReg := (XReg.of [4] c112_2).more [1, 2, 13] ⟨p112_2.1, p112_2.2⟩
noncomputable def p112_3 : PS3 [4] c112_3 1 2 13 := ⟨_, fun c v1 v2 v13 T => Eq.trans (regA rfl rfl (sV (eX_fld rfl) fun u0 => (sV (eX_load1 rfl) fun u1 => (sMov rfl (sV (eX_idxS rfl rfl) fun u3 => (sV (eX_load1 rfl) fun u4 => (sMov rfl (sE (F' := [(4, u4)]) rfl)))))))) rfl⟩
noncomputable def x112_3 : XReg := (XReg.of [4] c112_3).more [1, 2, 13] ⟨p112_3.1, p112_3.2⟩
noncomputable def p113_0 : PS3 [1, 3, 5, 6] c113_0 0 1 2 := ⟨_, fun c v0 v1 v2 T => Eq.trans (regA rfl rfl (sM (eX_box rfl) fun u0 T => (sM (eX_box rfl) fun u1 T => (sM (eX_alloc) fun u2 T => (sMov rfl (sE (F' := [(1, v1), (3, u0), (5, u1), (6, u2)]) rfl)))))) rfl⟩
noncomputable def x113_0 : XReg := (XReg.of [1, 3, 5, 6] c113_0).more [0, 1, 2] ⟨p113_0.1, p113_0.2⟩
noncomputable def p113_1 : PS4 [5, 6, 8] c113_1 1 3 5 6 := ⟨_, fun c v1 v3 v5 v6 T => Eq.trans (regA rfl rfl (sV (eX_loadN rfl) fun u0 => (sMov rfl (sM (eX_call rfl) fun u2 T => (sMov rfl (sE (F' := [(5, v5), (6, v6), (8, u2)]) rfl)))))) rfl⟩
noncomputable def x113_1 : XReg := (XReg.of [5, 6, 8] c113_1).more [1, 3, 5, 6] ⟨p113_1.1, p113_1.2⟩
noncomputable def p113_2 : PS3 [5, 6, 8, 22] c113_2 5 6 8 := ⟨_, fun c v5 v6 v8 T => Eq.trans (regA rfl rfl (sV (eX_fld rfl) fun u0 => (sV (eX_load1 rfl) fun u1 => (sV (eX_lss rfl rfl) fun u2 => (sMov rfl (gfV rfl (eX_fld rfl) fun u4 T => (gfV rfl (eX_load1 rfl) fun u5 T => (gfMov rfl rfl fun u6 T => (gfV rfl (eX_lenS rfl) fun u7 T => (gfV rfl (eX_geq rfl rfl) fun u8 T => (sV (eX_pick rfl rfl rfl) fun u9 => (sE (F' := [(5, v5), (6, v6), (8, v8), (22, u9)]) rfl)))))))))))) rfl⟩
noncomputable def x113_2 : XReg := (XReg.of [5, 6, 8, 22] c113_2).more [5, 6, 8] ⟨p113_2.1, p113_2.2⟩
noncomputable def p113_3 : PS4 [6, 7] c113_3 5 6 8 22 := ⟨_, fun c v5 v6 v8 v22 T => Eq.trans (regA rfl rfl (sV (eX_build rfl) fun u0 => (sS (eX_storeN rfl rfl) fun T => (sMov rfl (sE (F' := [(6, v6), (7, (cv (.bool false)))]) rfl))))) rfl⟩
noncomputable def x113_3 : XReg := (XReg.of [6, 7] c113_3).more [5, 6, 8, 22] ⟨p113_3.1, p113_3.2⟩
noncomputable def p113_4 : PS4 [6, 9] c113_4 5 6 8 22 := ⟨_, fun c v5 v6 v8 v22 T => Eq.trans (regA rfl rfl (sMov rfl (sV (eX_fld rfl) fun u1 => (sV (eX_load1 rfl) fun u2 => (sV (eX_idxS rfl rfl) fun u3 => (sV (eX_loadN rfl) fun u4 => (sM (eX_alloc) fun u5 T => (sS (eX_storeN rfl rfl) fun T => (sE (F' := [(6, v6), (9, u5)]) rfl))))))))) rfl⟩
noncomputable def x113_4 : XReg := (XReg.of [6, 9] c113_4).more [5, 6, 8, 22] ⟨p113_4.1, p113_4.2⟩
noncomputable def p113_5 : PS2 [6, 9, 36] c113_5 6 9 := ⟨_, fun c v6 v9 T => Eq.trans (regA rfl rfl (sV (eX_fld rfl) fun u0 => (sV (eX_load1 rfl) fun u1 => (sV (eX_lss rfl rfl) fun u2 => (sMov rfl (gfV rfl (eX_fld rfl) fun u4 T => (gfV rfl (eX_load1 rfl) fun u5 T => (gfV rfl (eX_gtr rfl rfl) fun u6 T => (sV (eX_pick rfl rfl rfl) fun u7 => (sE (F' := [(6, v6), (9, v9), (36, u7)]) rfl)))))))))) rfl⟩
noncomputable def x113_5 : XReg := (XReg.of [6, 9, 36] c113_5).more [6, 9] ⟨p113_5.1, p113_5.2⟩
noncomputable def p113_7 : PS3 [6, 7] c113_7 6 9 36 := ⟨_, fun c v6 v9 v36 T => Eq.trans (regA rfl rfl (sV (eX_loadN rfl) fun u0 => (sS (eX_storeN rfl rfl) fun T => (sMov rfl (sE (F' := [(6, v6), (7, (cv (.bool true)))]) rfl))))) rfl⟩
noncomputable def x113_7 : XReg := (XReg.of [6, 7] c113_7).more [6, 9, 36] ⟨p113_7.1, p113_7.2⟩
noncomputable def p114_0 : PS3 [2, 3, 4, 6] c114_0 0 1 2 := ⟨_, fun c v0 v1 v2 T => Eq.trans (regA rfl rfl (sM (eX_box rfl) fun u0 T => (sM (eX_box rfl) fun u1 T => (sM (eX_alloc) fun u2 T => (sMov rfl (sE (F' := [(2, v2), (3, u0), (4, u1), (6, u2)]) rfl)))))) rfl⟩
noncomputable def x114_0 : XReg := (XReg.of [2, 3, 4, 6] c114_0).more [0, 1, 2] ⟨p114_0.1, p114_0.2⟩
noncomputable def p114_1 : PS4 [2, 3, 4, 6, 9] c114_1 2 3 4 6 := ⟨_, fun c v2 v3 v4 v6 T => Eq.trans (regA rfl rfl (sV (eX_fld rfl) fun u0 => (sV (eX_load1 rfl) fun u1 => (sE (F' := [(2, v2), (3, v3), (4, v4), (6, v6), (9, u1)]) rfl)))) rfl⟩
noncomputable def x114_1 : XReg := (XReg.of [2, 3, 4, 6, 9] c114_1).more [2, 3, 4, 6] ⟨p114_1.1, p114_1.2⟩
noncomputable def p114_2 : PS5 [2, 3, 4, 6, 9, 10] c114_2 2 3 4 6 9 := ⟨_, fun c v2 v3 v4 v6 v9 T => Eq.trans (regA rfl rfl (sV (eX_eql rfl rfl) fun u0 => (sMov rfl (sE (F' := [(2, v2), (3, v3), (4, v4), (6, v6), (9, v9), (10, u0)]) rfl)))) rfl⟩
noncomputable def x114_2 : XReg := (XReg.of [2, 3, 4, 6, 9, 10] c114_2).more [2, 3, 4, 6, 9] ⟨p114_2.1, p114_2.2⟩
noncomputable def p114_5 : PS6 [6, 7] c114_5 2 3 4 6 9 19 := ⟨_, fun c v2 v3 v4 v6 v9 v19 T => Eq.trans (regA rfl rfl (sV (eX_fld rfl) fun u0 => (sV (eX_load1 rfl) fun u1 => (sMov rfl (sV (eX_build rfl) fun u3 => (sS (eX_storeN rfl rfl) fun T => (sMov rfl (sE (F' := [(6, v6), (7, (cv (.bool true)))]) rfl)))))))) rfl⟩
noncomputable def x114_5 : XReg := (XReg.of [6, 7] c114_5).more [2, 3, 4, 6, 9, 19] ⟨p114_5.1, p114_5.2⟩
noncomputable def p116_0 : PS4 [1, 3, 4, 6, 8] c116_0 0 1 2 3 := ⟨_, fun c v0 v1 v2 v3 T => Eq.trans (regA rfl rfl (sM (eX_box rfl) fun u0 T => (sM (eX_box rfl) fun u1 T => (sM (eX_alloc) fun u2 T => (sE (F' := [(1, v1), (3, v3), (4, u0), (6, u1), (8, u2)]) rfl))))) rfl⟩
noncomputable def x116_0 : XReg := (XReg.of [1, 3, 4, 6, 8] c116_0).more [0, 1, 2, 3] ⟨p116_0.1, p116_0.2⟩
noncomputable def p116_1 : PS5 [1, 3, 4, 6, 8, 9, 10] c116_1 1 3 4 6 8 := ⟨_, fun c v1 v3 v4 v6 v8 T => Eq.trans (regA rfl rfl (sV (eX_loadN rfl) fun u0 => (sMov rfl (sV (eX_loadN rfl) fun u2 => (sM (eX_call rfl) fun u3 T => (sMov rfl (sV (eX_extr rfl) fun u5 => (sV (eX_extr rfl) fun u6 => (sM (eX_alloc) fun u7 T => (sS (eX_storeN rfl rfl) fun T => (sMov rfl (sE (F' := [(1, v1), (3, v3), (4, v4), (6, v6), (8, v8), (9, u7), (10, u6)]) rfl)))))))))))) rfl⟩
noncomputable def x116_1 : XReg := (XReg.of [1, 3, 4, 6, 8, 9, 10] c116_1).more [1, 3, 4, 6, 8] ⟨p116_1.1, p116_1.2⟩
noncomputable def p116_2 : PS7 [1, 3, 4, 6, 8, 9, 19] c116_2 1 3 4 6 8 9 10 := ⟨_, fun c v1 v3 v4 v6 v8 v9 v10 T => Eq.trans (regA rfl rfl (sMov rfl (sV (eX_not rfl) fun u1 => (sE (F' := [(1, v1), (3, v3), (4, v4), (6, v6), (8, v8), (9, v9), (19, u1)]) rfl)))) rfl⟩
noncomputable def x116_2 : XReg := (XReg.of [1, 3, 4, 6, 8, 9, 19] c116_2).more [1, 3, 4, 6, 8, 9, 10] ⟨p116_2.1, p116_2.2⟩
noncomputable def p116_4 : PS7 [1, 3, 4, 6, 8, 9, 28] c116_4 1 3 4 6 8 9 19 := ⟨_, fun c v1 v3 v4 v6 v8 v9 v19 T => Eq.trans (regA rfl rfl (sV (eX_fld rfl) fun u0 => (sV (eX_load1 rfl) fun u1 => (sV (eX_eql rfl rfl) fun u2 => (sMov rfl (gfV rfl (eX_fld rfl) fun u4 T => (gfV rfl (eX_load1 rfl) fun u5 T => (gfV rfl (eX_eql rfl rfl) fun u6 T => (sV (eX_pick rfl rfl rfl) fun u7 => (sE (F' := [(1, v1), (3, v3), (4, v4), (6, v6), (8, v8), (9, v9), (28, u7)]) rfl)))))))))) rfl⟩
noncomputable def x116_4 : XReg := (XReg.of [1, 3, 4, 6, 8, 9, 28] c116_4).more [1, 3, 4, 6, 8, 9, 19] ⟨p116_4.1, p116_4.2⟩
noncomputable def p116_5 : PS7 [1, 4, 6, 8] c116_5 1 3 4 6 8 9 28 := ⟨_, fun c v1 v3 v4 v6 v8 v9 v28 T => Eq.trans (regA rfl rfl (sV (eX_fld rfl) fun u0 => (sV (eX_load1 rfl) fun u1 => (sMov rfl (sM (eX_call rfl) fun u3 T => (sE (F' := [(1, v1), (4, v4), (6, v6), (8, v8)]) rfl)))))) rfl⟩
noncomputable def x116_5 : XReg := (XReg.of [1, 4, 6, 8] c116_5).more [1, 3, 4, 6, 8, 9, 28] ⟨p116_5.1, p116_5.2⟩
noncomputable def p116_6 : PS7 [1, 4, 6, 8] c116_6 1 3 4 6 8 9 28 := ⟨_, fun c v1 v3 v4 v6 v8 v9 v28 T => Eq.trans (regA rfl rfl (sV (eX_fld rfl) fun u0 => (sV (eX_load1 rfl) fun u1 => (sV (eX_add rfl rfl) fun u2 => (sV (eX_fld rfl) fun u3 => (sS (eX_store1 rfl rfl) fun T => (sE (F' := [(1, v1), (4, v4), (6, v6), (8, v8)]) rfl))))))) rfl⟩
noncomputable def p116_6_1 : PS4 [1, 4, 6, 8] c116_6 1 4 6 8 := ⟨_, fun c v1 v4 v6 v8 T => Eq.trans (regA rfl rfl (sV (eX_fld rfl) fun u0 => (sV (eX_load1 rfl) fun u1 => (sV (eX_add rfl rfl) fun u2 => (sV (eX_fld rfl) fun u3 => (sS (eX_store1 rfl rfl) fun T => (sE (F' := [(1, v1), (4, v4), (6, v6), (8, v8)]) rfl))))))) rfl⟩
noncomputable def x116_6 : XReg := ((XReg.of [1, 4, 6, 8] c116_6).more [1, 3, 4, 6, 8, 9, 28] ⟨p116_6.1, p116_6.2⟩).more [1, 4, 6, 8] ⟨p116_6_1.1, p116_6_1.2⟩
noncomputable def p142_2 : PS2 [3, 6, 7, 8] c142_2 0 3 := ⟨_, fun c v0 v3 T => Eq.trans (regA rfl rfl (sMov rfl (sV (eX_lenS rfl) fun u1 => (sMov rfl (sE (F' := [(3, v3), (6, v0), (7, u1), (8, (cv (.int .i64 (0))))]) rfl))))) rfl⟩
noncomputable def x142_2 : XReg := (XReg.of [3, 6, 7, 8] c142_2).more [0, 3] ⟨p142_2.1, p142_2.2⟩
noncomputable def p142_3 : PS4 [3, 6, 7, 8, 9] c142_3 3 6 7 8 := ⟨_, fun c v3 v6 v7 v8 T => Eq.trans (regA rfl rfl (sV (eX_lss rfl rfl) fun u0 => (sE (F' := [(3, v3), (6, v6), (7, v7), (8, v8), (9, u0)]) rfl))) rfl⟩
noncomputable def x142_3 : XReg := (XReg.of [3, 6, 7, 8, 9] c142_3).more [3, 6, 7, 8] ⟨p142_3.1, p142_3.2⟩
noncomputable def p142_4 : PS5 [3, 5, 6, 7, 8] c142_4 3 6 7 8 9 := ⟨_, fun c v3 v6 v7 v8 v9 T => Eq.trans (regA rfl rfl (sV (eX_idxS rfl rfl) fun u0 => (sV (eX_load1 rfl) fun u1 => (sMov rfl (sE (F' := [(3, v3), (5, u1), (6, v6), (7, v7), (8, v8)]) rfl))))) rfl⟩
noncomputable def x142_4 : XReg := (XReg.of [3, 5, 6, 7, 8] c142_4).more [3, 6, 7, 8, 9] ⟨p142_4.1, p142_4.2⟩
noncomputable def p142_5 : PS5 [3, 5, 6, 7, 8, 14] c142_5 3 5 6 7 8 := ⟨_, fun c v3 v5 v6 v7 v8 T => Eq.trans (regA rfl rfl (sMov rfl (sMov rfl (sV (eX_neq rfl rfl) fun u2 => (sE (F' := [(3, v3), (5, v5), (6, v6), (7, v7), (8, v8), (14, u2)]) rfl))))) rfl⟩
noncomputable def x142_5 : XReg := (XReg.of [3, 5, 6, 7, 8, 14] c142_5).more [3, 5, 6, 7, 8] ⟨p142_5.1, p142_5.2⟩
noncomputable def p142_7 : PS6 [3, 6, 7, 8] c142_7 3 5 6 7 8 14 := ⟨_, fun c v3 v5 v6 v7 v8 v14 T => Eq.trans (regA rfl rfl (sV (eX_add rfl rfl) fun u0 => (sMov rfl (sE (F' := [(3, v3), (6, v6), (7, v7), (8, u0)]) rfl)))) rfl⟩
noncomputable def x142_7 : XReg := (XReg.of [3, 6, 7, 8] c142_7).more [3, 5, 6, 7, 8, 14] ⟨p142_7.1, p142_7.2⟩
noncomputable def p143_3 : PS7 [0, 1, 2, 7, 8, 11, 12, 13] c143_3 0 1 2 11 12 13 14 := ⟨_, fun c v0 v1 v2 v11 v12 v13 v14 T => Eq.trans (regA rfl rfl (sMov rfl (sV (eX_idxS rfl rfl) fun u1 => (sV (eX_loadN rfl) fun u2 => (sM (eX_alloc) fun u3 T => (sMov rfl (sS (eX_storeN rfl rfl) fun T => (sE (F' := [(0, v0), (1, v1), (2, v2), (7, v13), (8, u3), (11, v11), (12, v12), (13, v13)]) rfl)))))))) rfl⟩
noncomputable def x143_3 : XReg := (XReg.of [0, 1, 2, 7, 8, 11, 12, 13] c143_3).more [0, 1, 2, 11, 12, 13, 14] ⟨p143_3.1, p143_3.2⟩
noncomputable def p143_4 : PS8 [0, 1, 2, 7, 8, 11, 12, 13, 21] c143_4 0 1 2 7 8 11 12 13 := ⟨_, fun c v0 v1 v2 v7 v8 v11 v12 v13 T => Eq.trans (regA rfl rfl (sMov rfl (sMov rfl (sV (eX_lenS rfl) fun u2 => (sV (eX_geq rfl rfl) fun u3 => (sE (F' := [(0, v0), (1, v1), (2, v2), (7, v7), (8, v8), (11, v11), (12, v12), (13, v13), (21, u3)]) rfl)))))) rfl⟩
noncomputable def x143_4 : XReg := (XReg.of [0, 1, 2, 7, 8, 11, 12, 13, 21] c143_4).more [0, 1, 2, 7, 8, 11, 12, 13] ⟨p143_4.1, p143_4.2⟩
noncomputable def p143_6 : PS9 [0, 1, 2, 8, 9, 11, 12, 13] c143_6 0 1 2 7 8 11 12 13 21 := ⟨_, fun c v0 v1 v2 v7 v8 v11 v12 v13 v21 T => Eq.trans (regA rfl rfl (sMov rfl (sMov rfl (sV (eX_idxS rfl rfl) fun u2 => (sV (eX_loadN rfl) fun u3 => (sM (eX_alloc) fun u4 T => (sS (eX_storeN rfl rfl) fun T => (sE (F' := [(0, v0), (1, v1), (2, v2), (8, v8), (9, u4), (11, v11), (12, v12), (13, v13)]) rfl)))))))) rfl⟩
noncomputable def x143_6 : XReg := (XReg.of [0, 1, 2, 8, 9, 11, 12, 13] c143_6).more [0, 1, 2, 7, 8, 11, 12, 13, 21] ⟨p143_6.1, p143_6.2⟩
noncomputable def p143_7 : PS8 [0, 1, 2, 10, 11, 12, 13] c143_7 0 1 2 8 9 11 12 13 := ⟨_, fun c v0 v1 v2 v8 v9 v11 v12 v13 T => Eq.trans (regA rfl rfl (sMov rfl (sV (eX_loadN rfl) fun u1 => (sV (eX_loadN rfl) fun u2 => (sM (eX_callv rfl rfl) fun u3 T => (sMov rfl (sE (F' := [(0, v0), (1, v1), (2, v2), (10, u3), (11, v11), (12, v12), (13, v13)]) rfl))))))) rfl⟩
noncomputable def x143_7 : XReg := (XReg.of [0, 1, 2, 10, 11, 12, 13] c143_7).more [0, 1, 2, 8, 9, 11, 12, 13] ⟨p143_7.1, p143_7.2⟩
noncomputable def p145_2 : PS5 [0, 1, 9, 10, 11, 12] c145_2 0 1 9 10 11 := ⟨_, fun c v0 v1 v9 v10 v11 T => Eq.trans (regA rfl rfl (sV (eX_lss rfl rfl) fun u0 => (sE (F' := [(0, v0), (1, v1), (9, v9), (10, v10), (11, v11), (12, u0)]) rfl))) rfl⟩
noncomputable def x145_2 : XReg := (XReg.of [0, 1, 9, 10, 11, 12] c145_2).more [0, 1, 9, 10, 11] ⟨p145_2.1, p145_2.2⟩
noncomputable def p145_3 : PS6 [0, 1, 5, 6, 9, 10, 11] c145_3 0 1 9 10 11 12 := ⟨_, fun c v0 v1 v9 v10 v11 v12 T => Eq.trans (regA rfl rfl (sMov rfl (sV (eX_idxS rfl rfl) fun u1 => (sV (eX_load1 rfl) fun u2 => (sMov rfl (sMov rfl (sE (F' := [(0, v0), (1, v1), (5, v11), (6, u2), (9, v9), (10, v10), (11, v11)]) rfl))))))) rfl⟩
noncomputable def x145_3 : XReg := (XReg.of [0, 1, 5, 6, 9, 10, 11] c145_3).more [0, 1, 9, 10, 11, 12] ⟨p145_3.1, p145_3.2⟩
noncomputable def p145_4 : PS7 [0, 1, 5, 6, 9, 10, 11, 19] c145_4 0 1 5 6 9 10 11 := ⟨_, fun c v0 v1 v5 v6 v9 v10 v11 T => Eq.trans (regA rfl rfl (sMov rfl (sMov rfl (sV (eX_lenS rfl) fun u2 => (sV (eX_geq rfl rfl) fun u3 => (sE (F' := [(0, v0), (1, v1), (5, v5), (6, v6), (9, v9), (10, v10), (11, v11), (19, u3)]) rfl)))))) rfl⟩
noncomputable def x145_4 : XReg := (XReg.of [0, 1, 5, 6, 9, 10, 11, 19] c145_4).more [0, 1, 5, 6, 9, 10, 11] ⟨p145_4.1, p145_4.2⟩
noncomputable def p145_6 : PS8 [0, 1, 6, 7, 9, 10, 11] c145_6 0 1 5 6 9 10 11 19 := ⟨_, fun c v0 v1 v5 v6 v9 v10 v11 v19 T => Eq.trans (regA rfl rfl (sMov rfl (sMov rfl (sV (eX_idxS rfl rfl) fun u2 => (sV (eX_load1 rfl) fun u3 => (sMov rfl (sE (F' := [(0, v0), (1, v1), (6, v6), (7, u3), (9, v9), (10, v10), (11, v11)]) rfl))))))) rfl⟩
noncomputable def x145_6 : XReg := (XReg.of [0, 1, 6, 7, 9, 10, 11] c145_6).more [0, 1, 5, 6, 9, 10, 11, 19] ⟨p145_6.1, p145_6.2⟩
end Go.Jq
set_option maxRecDepth 20000
set_option maxHeartbeats 4000000
namespace Go.Jq
noncomputable def p145_7 : PS7 [0, 1, 8, 9, 10, 11] c145_7 0 1 6 7 9 10 11 := ⟨_, fun c v0 v1 v6 v7 v9 v10 v11 T => Eq.trans (regA rfl rfl (sMov rfl (sMov rfl (sM (eX_call rfl) fun u2 T => (sMov rfl (sE (F' := [(0, v0), (1, v1), (8, u2), (9, v9), (10, v10), (11, v11)]) rfl)))))) rfl⟩
noncomputable def x145_7 : XReg := (XReg.of [0, 1, 8, 9, 10, 11] c145_7).more [0, 1, 6, 7, 9, 10, 11] ⟨p145_7.1, p145_7.2⟩
noncomputable def p145_8 : PS6 [0, 1, 8, 9, 10, 11, 28] c145_8 0 1 8 9 10 11 := ⟨_, fun c v0 v1 v8 v9 v10 v11 T => Eq.trans (regA rfl rfl (sMov rfl (sV (eX_neq rfl rfl) fun u1 => (sE (F' := [(0, v0), (1, v1), (8, v8), (9, v9), (10, v10), (11, v11), (28, u1)]) rfl)))) rfl⟩
noncomputable def x145_8 : XReg := (XReg.of [0, 1, 8, 9, 10, 11, 28] c145_8).more [0, 1, 8, 9, 10, 11] ⟨p145_8.1, p145_8.2⟩
noncomputable def p145_10 : PS7 [0, 1, 9, 10, 11] c145_10 0 1 8 9 10 11 28 := ⟨_, fun c v0 v1 v8 v9 v10 v11 v28 T => Eq.trans (regA rfl rfl (sV (eX_add rfl rfl) fun u0 => (sMov rfl (sE (F' := [(0, v0), (1, v1), (9, v9), (10, v10), (11, u0)]) rfl)))) rfl⟩
noncomputable def x145_10 : XReg := (XReg.of [0, 1, 9, 10, 11] c145_10).more [0, 1, 8, 9, 10, 11, 28] ⟨p145_10.1, p145_10.2⟩
noncomputable def p147_4 : PS5 [3, 4, 5, 7, 8, 9] c147_4 3 7 8 9 10 := ⟨_, fun c v3 v7 v8 v9 v10 T => Eq.trans (regA rfl rfl (sMov rfl (sV (eX_idxS rfl rfl) fun u1 => (sV (eX_load1 rfl) fun u2 => (sMov rfl (sMov rfl (sE (F' := [(3, v3), (4, v9), (5, u2), (7, v7), (8, v8), (9, v9)]) rfl))))))) rfl⟩
noncomputable def x147_4 : XReg := (XReg.of [3, 4, 5, 7, 8, 9] c147_4).more [3, 7, 8, 9, 10] ⟨p147_4.1, p147_4.2⟩
noncomputable def p147_5 : PS6 [3, 7, 8, 9] c147_5 3 4 5 7 8 9 := ⟨_, fun c v3 v4 v5 v7 v8 v9 T => Eq.trans (regA rfl rfl (sMov rfl (sMov rfl (sMov rfl (sMov rfl (sV (eX_build rfl) fun u4 => (sM (eX_mkslice rfl) fun u5 T => (sM (eX_append rfl rfl) fun u6 T => (sMov rfl (sE (F' := [(3, u6), (7, v7), (8, v8), (9, v9)]) rfl)))))))))) rfl⟩
noncomputable def x147_5 : XReg := (XReg.of [3, 7, 8, 9] c147_5).more [3, 4, 5, 7, 8, 9] ⟨p147_5.1, p147_5.2⟩
noncomputable def p158_3 : PS5 [2, 3, 14, 15, 16, 17] c158_3 2 3 14 15 16 := ⟨_, fun c v2 v3 v14 v15 v16 T => Eq.trans (regA rfl rfl (sV (eX_lss rfl rfl) fun u0 => (sE (F' := [(2, v2), (3, v3), (14, v14), (15, v15), (16, v16), (17, u0)]) rfl))) rfl⟩
noncomputable def x158_3 : XReg := (XReg.of [2, 3, 14, 15, 16, 17] c158_3).more [2, 3, 14, 15, 16] ⟨p158_3.1, p158_3.2⟩
noncomputable def p158_4 : PS6 [2, 3, 5, 14, 15, 16] c158_4 2 3 14 15 16 17 := ⟨_, fun c v2 v3 v14 v15 v16 v17 T => Eq.trans (regA rfl rfl (sV (eX_idxS rfl rfl) fun u0 => (sV (eX_load1 rfl) fun u1 => (sMov rfl (sE (F' := [(2, v2), (3, v3), (5, u1), (14, v14), (15, v15), (16, v16)]) rfl))))) rfl⟩
noncomputable def x158_4 : XReg := (XReg.of [2, 3, 5, 14, 15, 16] c158_4).more [2, 3, 14, 15, 16, 17] ⟨p158_4.1, p158_4.2⟩
noncomputable def p158_6 : PS5 [2, 3, 14, 15, 16] c158_6 2 3 14 15 16 := ⟨_, fun c v2 v3 v14 v15 v16 T => Eq.trans (regA rfl rfl (sV (eX_add rfl rfl) fun u0 => (sMov rfl (sE (F' := [(2, v2), (3, v3), (14, v14), (15, v15), (16, u0)]) rfl)))) rfl⟩
noncomputable def x158_6 : XReg := (XReg.of [2, 3, 14, 15, 16] c158_6).more [2, 3, 14, 15, 16] ⟨p158_6.1, p158_6.2⟩
noncomputable def p159_0 : PS1 [0] c159_0 0 := ⟨_, fun c v0 T => Eq.trans (regA rfl rfl (sMov rfl (sE (F' := [(0, v0)]) rfl))) rfl⟩
noncomputable def x159_0 : XReg := (XReg.of [0] c159_0).more [0] ⟨p159_0.1, p159_0.2⟩
noncomputable def p159_1 : PS1 [0, 3] c159_1 0 := ⟨_, fun c v0 T => Eq.trans (regA rfl rfl (sMov rfl (sE (F' := [(0, v0), (3, (cv (.int .u64 (0))))]) rfl))) rfl⟩
noncomputable def x159_1 : XReg := (XReg.of [0, 3] c159_1).more [0] ⟨p159_1.1, p159_1.2⟩
noncomputable def p159_2 : PS2 [0, 3, 13] c159_2 0 3 := ⟨_, fun c v0 v3 T => Eq.trans (regA rfl rfl (sMov rfl (sE (F' := [(0, v0), (3, v3), (13, (cv (.int .i64 (0))))]) rfl))) rfl⟩
noncomputable def x159_2 : XReg := (XReg.of [0, 3, 13] c159_2).more [0, 3] ⟨p159_2.1, p159_2.2⟩
noncomputable def p159_3 : PS3 [0, 3, 13, 14] c159_3 0 3 13 := ⟨_, fun c v0 v3 v13 T => Eq.trans (regA rfl rfl (sV (eX_lss rfl rfl) fun u0 => (sE (F' := [(0, v0), (3, v3), (13, v13), (14, u0)]) rfl))) rfl⟩
noncomputable def x159_3 : XReg := (XReg.of [0, 3, 13, 14] c159_3).more [0, 3, 13] ⟨p159_3.1, p159_3.2⟩
noncomputable def p159_4 : PS4 [0, 3, 4, 13] c159_4 0 3 13 14 := ⟨_, fun c v0 v3 v13 v14 T => Eq.trans (regA rfl rfl (sMov rfl (sMov rfl (sE (F' := [(0, v0), (3, v3), (4, v13), (13, v13)]) rfl)))) rfl⟩
noncomputable def x159_4 : XReg := (XReg.of [0, 3, 4, 13] c159_4).more [0, 3, 13, 14] ⟨p159_4.1, p159_4.2⟩
noncomputable def p159_6 : PS6 [0, 3, 4, 6, 7, 13] c159_6 0 3 4 5 6 13 := ⟨_, fun c v0 v3 v4 v5 v6 v13 T => Eq.trans (regA rfl rfl (sV (eX_fld rfl) fun u0 => (sV (eX_load1 rfl) fun u1 => (sV (eX_eql rfl rfl) fun u2 => (sMov rfl (gfV rfl (eX_fld rfl) fun u4 T => (gfV rfl (eX_load1 rfl) fun u5 T => (gfV rfl (eX_eql rfl rfl) fun u6 T => (sV (eX_pick rfl rfl rfl) fun u7 => (sMov rfl (sE (F' := [(0, v0), (3, v3), (4, v4), (6, v6), (7, u7), (13, v13)]) rfl))))))))))) rfl⟩
noncomputable def x159_6 : XReg := (XReg.of [0, 3, 4, 6, 7, 13] c159_6).more [0, 3, 4, 5, 6, 13] ⟨p159_6.1, p159_6.2⟩
noncomputable def p159_7 : PS6 [0, 3, 4, 13, 52] c159_7 0 3 4 6 7 13 := ⟨_, fun c v0 v3 v4 v6 v7 v13 T => Eq.trans (regA rfl rfl (sMov rfl (sMov rfl (gtMov rfl rfl fun u2 T => (gtV rfl (eX_not rfl) fun u3 T => (gtMov rfl rfl fun u4 T => (gfMov rfl rfl fun u5 T => (gfMov rfl rfl fun u6 T => (gfV rfl (eX_nilchk rfl) fun u7 T => (gfV rfl (eX_fld rfl) fun u8 T => (gfV rfl (eX_idxA rfl rfl) fun u9 T => (gfV rfl (eX_loadN rfl) fun u10 T => (gfM rfl (eX_call rfl) fun u11 T => (gtV rfl (eX_pick rfl rfl rfl) fun u12 T => (sV (eX_pick rfl rfl rfl) fun u13 => (sE (F' := [(0, v0), (3, v3), (4, v4), (13, v13), (52, u13)]) rfl)))))))))))))))) rfl⟩
noncomputable def x159_7 : XReg := (XReg.of [0, 3, 4, 13, 52] c159_7).more [0, 3, 4, 6, 7, 13] ⟨p159_7.1, p159_7.2⟩
noncomputable def p159_8 : PS5 [0, 3, 4, 13] c159_8 0 3 4 13 52 := ⟨_, fun c v0 v3 v4 v13 v52 T => Eq.trans (regA rfl rfl (sMov rfl (sMov rfl (sM (eX_call rfl) fun u2 T => (sMov rfl (sE (F' := [(0, v0), (3, u2), (4, v4), (13, v13)]) rfl)))))) rfl⟩
noncomputable def x159_8 : XReg := (XReg.of [0, 3, 4, 13] c159_8).more [0, 3, 4, 13, 52] ⟨p159_8.1, p159_8.2⟩
noncomputable def p159_9 : PS5 [0, 3, 4, 13, 70] c159_9 0 3 4 13 52 := ⟨_, fun c v0 v3 v4 v13 v52 T => Eq.trans (regA rfl rfl (sMov rfl (sV (eX_nilchk rfl) fun u1 => (sV (eX_fld rfl) fun u2 => (sV (eX_load1 rfl) fun u3 => (sV (eX_eql rfl rfl) fun u4 => (sMov rfl (gtMov rfl rfl fun u6 T => (gtMov rfl rfl fun u7 T => (gtV rfl (eX_nilchk rfl) fun u8 T => (gtV rfl (eX_fld rfl) fun u9 T => (gtV rfl (eX_idxA rfl rfl) fun u10 T => (gtV rfl (eX_loadN rfl) fun u11 T => (gtM rfl (eX_call rfl) fun u12 T => (gtV rfl (eX_not rfl) fun u13 T => (sV (eX_pick rfl rfl rfl) fun u14 => (sE (F' := [(0, v0), (3, v3), (4, v4), (13, v13), (70, u14)]) rfl))))))))))))))))) rfl⟩
noncomputable def p159_9_1 : PS4 [0, 3, 4, 13, 70] c159_9 0 3 4 13 := ⟨_, fun c v0 v3 v4 v13 T => Eq.trans (regA rfl rfl (sMov rfl (sV (eX_nilchk rfl) fun u1 => (sV (eX_fld rfl) fun u2 => (sV (eX_load1 rfl) fun u3 => (sV (eX_eql rfl rfl) fun u4 => (sMov rfl (gtMov rfl rfl fun u6 T => (gtMov rfl rfl fun u7 T => (gtV rfl (eX_nilchk rfl) fun u8 T => (gtV rfl (eX_fld rfl) fun u9 T => (gtV rfl (eX_idxA rfl rfl) fun u10 T => (gtV rfl (eX_loadN rfl) fun u11 T => (gtM rfl (eX_call rfl) fun u12 T => (gtV rfl (eX_not rfl) fun u13 T => (sV (eX_pick rfl rfl rfl) fun u14 => (sE (F' := [(0, v0), (3, v3), (4, v4), (13, v13), (70, u14)]) rfl))))))))))))))))) rfl⟩
noncomputable def x159_9 : XReg := ((XReg.of [0, 3, 4, 13, 70] c159_9).more [0, 3, 4, 13, 52] ⟨p159_9.1, p159_9.2⟩).more [0, 3, 4, 13] ⟨p159_9_1.1, p159_9_1.2⟩
noncomputable def p159_11 : PS5 [0, 3, 4, 13, 75] c159_11 0 3 4 13 70 := ⟨_, fun c v0 v3 v4 v13 v70 T => Eq.trans (regA rfl rfl (sMov rfl (sE (F' := [(0, v0), (3, v3), (4, v4), (13, v13), (75, (cv (.int .i64 (0))))]) rfl))) rfl⟩
noncomputable def x159_11 : XReg := (XReg.of [0, 3, 4, 13, 75] c159_11).more [0, 3, 4, 13, 70] ⟨p159_11.1, p159_11.2⟩
noncomputable def p159_12 : PS5 [0, 3, 4, 13, 75, 76] c159_12 0 3 4 13 75 := ⟨_, fun c v0 v3 v4 v13 v75 T => Eq.trans (regA rfl rfl (sV (eX_lss rfl rfl) fun u0 => (sE (F' := [(0, v0), (3, v3), (4, v4), (13, v13), (75, v75), (76, u0)]) rfl))) rfl⟩
noncomputable def x159_12 : XReg := (XReg.of [0, 3, 4, 13, 75, 76] c159_12).more [0, 3, 4, 13, 75] ⟨p159_12.1, p159_12.2⟩
noncomputable def p159_13 : PS6 [0, 3, 4, 8, 13, 75] c159_13 0 3 4 13 75 76 := ⟨_, fun c v0 v3 v4 v13 v75 v76 T => Eq.trans (regA rfl rfl (sMov rfl (sMov rfl (sE (F' := [(0, v0), (3, v3), (4, v4), (8, v75), (13, v13), (75, v75)]) rfl)))) rfl⟩
noncomputable def x159_13 : XReg := (XReg.of [0, 3, 4, 8, 13, 75] c159_13).more [0, 3, 4, 13, 75, 76] ⟨p159_13.1, p159_13.2⟩
noncomputable def p159_14 : PS6 [0, 3, 4, 8, 12, 13, 75] c159_14 0 3 4 8 13 75 := ⟨_, fun c v0 v3 v4 v8 v13 v75 T => Eq.trans (regA rfl rfl (sMov rfl (sMov rfl (sV (eX_nilchk rfl) fun u2 => (sV (eX_fld rfl) fun u3 => (sV (eX_idxA rfl rfl) fun u4 => (sV (eX_loadN rfl) fun u5 => (sMov rfl (sM (eX_call rfl) fun u7 T => (sMov rfl (sV (eX_extr rfl) fun u9 => (sV (eX_extr rfl) fun u10 => (sV (eX_extr rfl) fun u11 => (sV (eX_extr rfl) fun u12 => (sMov rfl (sMov rfl (sMov rfl (sMov rfl (sE (F' := [(0, v0), (3, v3), (4, v4), (8, v8), (12, u12), (13, v13), (75, v75)]) rfl))))))))))))))))))) rfl⟩
noncomputable def x159_14 : XReg := (XReg.of [0, 3, 4, 8, 12, 13, 75] c159_14).more [0, 3, 4, 8, 13, 75] ⟨p159_14.1, p159_14.2⟩
noncomputable def p159_15 : PS7 [0, 3, 4, 8, 13, 75, 98] c159_15 0 3 4 8 12 13 75 := ⟨_, fun c v0 v3 v4 v8 v12 v13 v75 T => Eq.trans (regA rfl rfl (sMov rfl (sV (eX_nilchk rfl) fun u1 => (sV (eX_fld rfl) fun u2 => (sV (eX_load1 rfl) fun u3 => (sV (eX_eql rfl rfl) fun u4 => (sMov rfl (gtMov rfl rfl fun u6 T => (sV (eX_pick rfl rfl rfl) fun u7 => (sE (F' := [(0, v0), (3, v3), (4, v4), (8, v8), (13, v13), (75, v75), (98, u7)]) rfl)))))))))) rfl⟩
noncomputable def x159_15 : XReg := (XReg.of [0, 3, 4, 8, 13, 75, 98] c159_15).more [0, 3, 4, 8, 12, 13, 75] ⟨p159_15.1, p159_15.2⟩
noncomputable def p159_17 : PS7 [0, 3, 4, 13, 75] c159_17 0 3 4 8 13 75 98 := ⟨_, fun c v0 v3 v4 v8 v13 v75 v98 T => Eq.trans (regA rfl rfl (sV (eX_add rfl rfl) fun u0 => (sMov rfl (sE (F' := [(0, v0), (3, v3), (4, v4), (13, v13), (75, u0)]) rfl)))) rfl⟩
noncomputable def x159_17 : XReg := (XReg.of [0, 3, 4, 13, 75] c159_17).more [0, 3, 4, 8, 13, 75, 98] ⟨p159_17.1, p159_17.2⟩
noncomputable def p159_19 : PS6 [0, 3, 13] c159_19 0 3 4 13 75 76 := ⟨_, fun c v0 v3 v4 v13 v75 v76 T => Eq.trans (regA rfl rfl (sV (eX_add rfl rfl) fun u0 => (sMov rfl (sE (F' := [(0, v0), (3, v3), (13, u0)]) rfl)))) rfl⟩
noncomputable def x159_19 : XReg := (XReg.of [0, 3, 13] c159_19).more [0, 3, 4, 13, 75, 76] ⟨p159_19.1, p159_19.2⟩
noncomputable def p159_21 : PS4 [2] c159_21 0 3 13 14 := ⟨_, fun c v0 v3 v13 v14 T => Eq.trans (regA rfl rfl (sMov rfl (sMov rfl (sE (F' := [(2, v3)]) rfl)))) rfl⟩
noncomputable def x159_21 : XReg := (XReg.of [2] c159_21).more [0, 3, 13, 14] ⟨p159_21.1, p159_21.2⟩
noncomputable def p161_0 : PS2 [0, 1, 4] c161_0 0 1 := ⟨_, fun c v0 v1 T => Eq.trans (regA rfl rfl (sM (eX_alloc) fun u0 T => (sMov rfl (sE (F' := [(0, v0), (1, v1), (4, u0)]) rfl)))) rfl⟩
noncomputable def x161_0 : XReg := (XReg.of [0, 1, 4] c161_0).more [0, 1] ⟨p161_0.1, p161_0.2⟩
noncomputable def p161_1 : PS3 [0, 1, 4, 11] c161_1 0 1 4 := ⟨_, fun c v0 v1 v4 T => Eq.trans (regA rfl rfl (sMov rfl (sM (eX_call rfl) fun u1 T => (sMov rfl (sM (eX_call rfl) fun u3 T => (sV (eX_not rfl) fun u4 => (sE (F' := [(0, v0), (1, v1), (4, v4), (11, u4)]) rfl))))))) rfl⟩
noncomputable def x161_1 : XReg := (XReg.of [0, 1, 4, 11] c161_1).more [0, 1, 4] ⟨p161_1.1, p161_1.2⟩
noncomputable def p161_3 : PS4 [0, 1, 4, 6] c161_3 0 1 4 11 := ⟨_, fun c v0 v1 v4 v11 T => Eq.trans (regA rfl rfl (sM (eX_alloc) fun u0 T => (sE (F' := [(0, v0), (1, v1), (4, v4), (6, u0)]) rfl))) rfl⟩
noncomputable def x161_3 : XReg := (XReg.of [0, 1, 4, 6] c161_3).more [0, 1, 4, 11] ⟨p161_3.1, p161_3.2⟩
noncomputable def p161_4 : PS4 [0, 1, 4, 6, 21] c161_4 0 1 4 6 := ⟨_, fun c v0 v1 v4 v6 T => Eq.trans (regA rfl rfl (sMov rfl (sV (eX_lss rfl rfl) fun u1 => (sMov rfl (sE (F' := [(0, v0), (1, v1), (4, v4), (6, v6), (21, u1)]) rfl))))) rfl⟩
noncomputable def x161_4 : XReg := (XReg.of [0, 1, 4, 6, 21] c161_4).more [0, 1, 4, 6] ⟨p161_4.1, p161_4.2⟩
noncomputable def p161_5 : PS5 [0, 1, 4, 6] c161_5 0 1 4 6 21 := ⟨_, fun c v0 v1 v4 v6 v21 T => Eq.trans (regA rfl rfl (sMov rfl (sMov rfl (sM (eX_call rfl) fun u2 T => (sS (eX_storeN rfl rfl) fun T => (sE (F' := [(0, v0), (1, v1), (4, v4), (6, v6)]) rfl)))))) rfl⟩
noncomputable def x161_5 : XReg := (XReg.of [0, 1, 4, 6] c161_5).more [0, 1, 4, 6, 21] ⟨p161_5.1, p161_5.2⟩
noncomputable def p161_9 : PS4 [0, 4, 6] c161_9 0 1 4 6 := ⟨_, fun c v0 v1 v4 v6 T => Eq.trans (regA rfl rfl (sMov rfl (sV (eX_fld rfl) fun u1 => (sS (eX_store1 rfl rfl) fun T => (sE (F' := [(0, v0), (4, v4), (6, v6)]) rfl))))) rfl⟩
noncomputable def x161_9 : XReg := (XReg.of [0, 4, 6] c161_9).more [0, 1, 4, 6] ⟨p161_9.1, p161_9.2⟩
noncomputable def p161_11 : PS2 [4, 5] c161_11 4 6 := ⟨_, fun c v4 v6 T => Eq.trans (regA rfl rfl (sV (eX_loadN rfl) fun u0 => (sS (eX_storeN rfl rfl) fun T => (sMov rfl (sE (F' := [(4, v4), (5, (cv (.bool true)))]) rfl))))) rfl⟩
noncomputable def x161_11 : XReg := (XReg.of [4, 5] c161_11).more [4, 6] ⟨p161_11.1, p161_11.2⟩
noncomputable def p164_0 : PS2 [1, 2] c164_0 0 1 := ⟨_, fun c v0 v1 T => Eq.trans (regA rfl rfl (sM (eX_box rfl) fun u0 T => (sMov rfl (sE (F' := [(1, v1), (2, u0)]) rfl)))) rfl⟩
noncomputable def x164_0 : XReg := (XReg.of [1, 2] c164_0).more [0, 1] ⟨p164_0.1, p164_0.2⟩
noncomputable def p164_1 : PS2 [4] c164_1 1 2 := ⟨_, fun c v1 v2 T => Eq.trans (regA rfl rfl (sV (eX_fld rfl) fun u0 => (sV (eX_load1 rfl) fun u1 => (sV (eX_eql rfl rfl) fun u2 => (sMov rfl (gfV rfl (eX_fld rfl) fun u4 T => (gfV rfl (eX_load1 rfl) fun u5 T => (gfV rfl (eX_eql rfl rfl) fun u6 T => (sV (eX_pick rfl rfl rfl) fun u7 => (sMov rfl (gfMov rfl rfl fun u9 T => (gfV rfl (eX_eql rfl rfl) fun u10 T => (gfMov rfl rfl fun u11 T => (gtV rfl (eX_fld rfl) fun u12 T => (gtV rfl (eX_load1 rfl) fun u13 T => (gtV rfl (eX_eql rfl rfl) fun u14 T => (gfV rfl (eX_pick rfl rfl rfl) fun u15 T => (sV (eX_pick rfl rfl rfl) fun u16 => (sMov rfl (sE (F' := [(4, u16)]) rfl)))))))))))))))))))) rfl⟩
noncomputable def x164_1 : XReg := (XReg.of [4] c164_1).more [1, 2] ⟨p164_1.1, p164_1.2⟩
noncomputable def p166_0 : PS1 [1] c166_0 0 := ⟨_, fun c v0 T => Eq.trans (regA rfl rfl (sM (eX_box rfl) fun u0 T => (sMov rfl (sE (F' := [(1, u0)]) rfl)))) rfl⟩
noncomputable def x166_0 : XReg := (XReg.of [1] c166_0).more [0] ⟨p166_0.1, p166_0.2⟩
noncomputable def p166_1 : PS1 [2] c166_1 1 := ⟨_, fun c v1 T => Eq.trans (regA rfl rfl (sV (eX_fld rfl) fun u0 => (sV (eX_load1 rfl) fun u1 => (sV (eX_eql rfl rfl) fun u2 => (sMov rfl (gfV rfl (eX_fld rfl) fun u4 T => (gfV rfl (eX_load1 rfl) fun u5 T => (gfV rfl (eX_eql rfl rfl) fun u6 T => (sV (eX_pick rfl rfl rfl) fun u7 => (sMov rfl (gfV rfl (eX_fld rfl) fun u9 T => (gfV rfl (eX_load1 rfl) fun u10 T => (gfV rfl (eX_eql rfl rfl) fun u11 T => (sV (eX_pick rfl rfl rfl) fun u12 => (sMov rfl (sE (F' := [(2, u12)]) rfl)))))))))))))))) rfl⟩
noncomputable def x166_1 : XReg := (XReg.of [2] c166_1).more [1] ⟨p166_1.1, p166_1.2⟩
noncomputable def p171_1 : PS2 [0, 1, 7, 8] c171_1 0 1 := ⟨_, fun c v0 v1 T => Eq.trans (regA rfl rfl (sMov rfl (sV (eX_lenS rfl) fun u1 => (sMov rfl (sE (F' := [(0, v0), (1, v1), (7, u1), (8, (cv (.int .i64 (0))))]) rfl))))) rfl⟩
noncomputable def x171_1 : XReg := (XReg.of [0, 1, 7, 8] c171_1).more [0, 1] ⟨p171_1.1, p171_1.2⟩
noncomputable def p171_2 : PS4 [0, 1, 7, 8, 9] c171_2 0 1 7 8 := ⟨_, fun c v0 v1 v7 v8 T => Eq.trans (regA rfl rfl (sV (eX_lss rfl rfl) fun u0 => (sE (F' := [(0, v0), (1, v1), (7, v7), (8, v8), (9, u0)]) rfl))) rfl⟩
noncomputable def x171_2 : XReg := (XReg.of [0, 1, 7, 8, 9] c171_2).more [0, 1, 7, 8] ⟨p171_2.1, p171_2.2⟩
noncomputable def p171_3 : PS5 [0, 1, 5, 7, 8] c171_3 0 1 7 8 9 := ⟨_, fun c v0 v1 v7 v8 v9 T => Eq.trans (regA rfl rfl (sMov rfl (sMov rfl (sE (F' := [(0, v0), (1, v1), (5, v8), (7, v7), (8, v8)]) rfl)))) rfl⟩
noncomputable def x171_3 : XReg := (XReg.of [0, 1, 5, 7, 8] c171_3).more [0, 1, 7, 8, 9] ⟨p171_3.1, p171_3.2⟩
noncomputable def p171_4 : PS5 [0, 1, 5, 7, 8, 16] c171_4 0 1 5 7 8 := ⟨_, fun c v0 v1 v5 v7 v8 T => Eq.trans (regA rfl rfl (sMov rfl (sMov rfl (sMov rfl (sV (eX_idxS rfl rfl) fun u3 => (sV (eX_loadN rfl) fun u4 => (sM (eX_callv rfl rfl) fun u5 T => (sE (F' := [(0, v0), (1, v1), (5, v5), (7, v7), (8, v8), (16, u5)]) rfl)))))))) rfl⟩
noncomputable def x171_4 : XReg := (XReg.of [0, 1, 5, 7, 8, 16] c171_4).more [0, 1, 5, 7, 8] ⟨p171_4.1, p171_4.2⟩
noncomputable def p171_6 : PS6 [0, 1, 7, 8] c171_6 0 1 5 7 8 16 := ⟨_, fun c v0 v1 v5 v7 v8 v16 T => Eq.trans (regA rfl rfl (sV (eX_add rfl rfl) fun u0 => (sMov rfl (sE (F' := [(0, v0), (1, v1), (7, v7), (8, u0)]) rfl)))) rfl⟩
noncomputable def x171_6 : XReg := (XReg.of [0, 1, 7, 8] c171_6).more [0, 1, 5, 7, 8, 16] ⟨p171_6.1, p171_6.2⟩
noncomputable def p172_0 : PS1 [1] c172_0 0 := ⟨_, fun c v0 T => Eq.trans (regA rfl rfl (sM (eX_box rfl) fun u0 T => (sMov rfl (sE (F' := [(1, u0)]) rfl)))) rfl⟩
noncomputable def x172_0 : XReg := (XReg.of [1] c172_0).more [0] ⟨p172_0.1, p172_0.2⟩
noncomputable def p172_1 : PS1 [2] c172_1 1 := ⟨_, fun c v1 T => Eq.trans (regA rfl rfl (sV (eX_fld rfl) fun u0 => (sV (eX_load1 rfl) fun u1 => (sV (eX_eql rfl rfl) fun u2 => (sMov rfl (gfV rfl (eX_fld rfl) fun u4 T => (gfV rfl (eX_load1 rfl) fun u5 T => (gfM rfl (eX_call rfl) fun u6 T => (gfMov rfl rfl fun u7 T => (gtV rfl (eX_fld rfl) fun u8 T => (gtV rfl (eX_load1 rfl) fun u9 T => (gtV rfl (eX_eql rfl rfl) fun u10 T => (gfV rfl (eX_pick rfl rfl rfl) fun u11 T => (sV (eX_pick rfl rfl rfl) fun u12 => (sMov rfl (sE (F' := [(2, u12)]) rfl)))))))))))))))) rfl⟩
noncomputable def x172_1 : XReg := (XReg.of [2] c172_1).more [1] ⟨p172_1.1, p172_1.2⟩
noncomputable def p173_1 : PS1 [2] c173_1 0 := ⟨_, fun c v0 T => Eq.trans (regA rfl rfl (sMov rfl (sV (eX_geq rfl rfl) fun u1 => (sMov rfl (gtMov rfl rfl fun u3 T => (gtV rfl (eX_lss rfl rfl) fun u4 T => (sV (eX_pick rfl rfl rfl) fun u5 => (sMov rfl (sE (F' := [(2, u5)]) rfl))))))))) rfl⟩
noncomputable def x173_1 : XReg := (XReg.of [2] c173_1).more [0] ⟨p173_1.1, p173_1.2⟩
noncomputable def p174_0 : PS2 [2, 3] c174_0 0 1 := ⟨_, fun c v0 v1 T => Eq.trans (regA rfl rfl (sM (eX_box rfl) fun u0 T => (sM (eX_box rfl) fun u1 T => (sMov rfl (sE (F' := [(2, u0), (3, u1)]) rfl))))) rfl⟩
noncomputable def x174_0 : XReg := (XReg.of [2, 3] c174_0).more [0, 1] ⟨p174_0.1, p174_0.2⟩
noncomputable def p174_1 : PS2 [2, 3, 12] c174_1 2 3 := ⟨_, fun c v2 v3 T => Eq.trans (regA rfl rfl (sV (eX_fld rfl) fun u0 => (sV (eX_load1 rfl) fun u1 => (sV (eX_geq rfl rfl) fun u2 => (sMov rfl (gtV rfl (eX_fld rfl) fun u4 T => (gtV rfl (eX_load1 rfl) fun u5 T => (gtV rfl (eX_lss rfl rfl) fun u6 T => (sV (eX_pick rfl rfl rfl) fun u7 => (sE (F' := [(2, v2), (3, v3), (12, u7)]) rfl)))))))))) rfl⟩
noncomputable def x174_1 : XReg := (XReg.of [2, 3, 12] c174_1).more [2, 3] ⟨p174_1.1, p174_1.2⟩
noncomputable def p174_2 : PS3 [4] c174_2 2 3 12 := ⟨_, fun c v2 v3 v12 T => Eq.trans (regA rfl rfl (sV (eX_fld rfl) fun u0 => (sV (eX_load1 rfl) fun u1 => (sV (eX_fld rfl) fun u2 => (sV (eX_idxA rfl rfl) fun u3 => (sV (eX_load1 rfl) fun u4 => (sMov rfl (sE (F' := [(4, u4)]) rfl)))))))) rfl⟩
noncomputable def x174_2 : XReg := (XReg.of [4] c174_2).more [2, 3, 12] ⟨p174_2.1, p174_2.2⟩
noncomputable def p174_3 : PS3 [4] c174_3 2 3 12 := ⟨_, fun c v2 v3 v12 T => Eq.trans (regA rfl rfl (sV (eX_fld rfl) fun u0 => (sV (eX_load1 rfl) fun u1 => (sMov rfl (sE (F' := [(4, u1)]) rfl))))) rfl⟩
noncomputable def x174_3 : XReg := (XReg.of [4] c174_3).more [2, 3, 12] ⟨p174_3.1, p174_3.2⟩
noncomputable def p176_0 : PS3 [0, 1, 2, 11] c176_0 0 1 2 := ⟨_, fun c v0 v1 v2 T => Eq.trans (regA rfl rfl (sMov rfl (sV (eX_geq rfl rfl) fun u1 => (sMov rfl (gtMov rfl rfl fun u3 T => (gtV rfl (eX_lss rfl rfl) fun u4 T => (sV (eX_pick rfl rfl rfl) fun u5 => (sE (F' := [(0, v0), (1, v1), (2, v2), (11, u5)]) rfl)))))))) rfl⟩
noncomputable def x176_0 : XReg := (XReg.of [0, 1, 2, 11] c176_0).more [0, 1, 2] ⟨p176_0.1, p176_0.2⟩
noncomputable def p176_1 : PS4 [] c176_1 0 1 2 11 := ⟨_, fun c v0 v1 v2 v11 T => Eq.trans (regA rfl rfl (sMov rfl (sMov rfl (sMov rfl (sV (eX_nilchk rfl) fun u3 => (sV (eX_fld rfl) fun u4 => (sV (eX_idxA rfl rfl) fun u5 => (sS (eX_store1 rfl rfl) fun T => (sE (F' := []) rfl))))))))) rfl⟩
noncomputable def x176_1 : XReg := (XReg.of [] c176_1).more [0, 1, 2, 11] ⟨p176_1.1, p176_1.2⟩
noncomputable def p180_3 : PS3 [0, 5, 6] c180_3 0 1 10 := ⟨_, fun c v0 v1 v10 T => Eq.trans (regA rfl rfl (sMov rfl (sV (eX_lenS rfl) fun u1 => (sV (eX_conv rfl) fun u2 => (sMov rfl (sV (eX_conv rfl) fun u4 => (sM (eX_call rfl) fun u5 T => (sMov rfl (sV (eX_extr rfl) fun u7 => (sV (eX_extr rfl) fun u8 => (sMov rfl (sMov rfl (sE (F' := [(0, v0), (5, u7), (6, u8)]) rfl))))))))))))) rfl⟩
noncomputable def x180_3 : XReg := (XReg.of [0, 5, 6] c180_3).more [0, 1, 10] ⟨p180_3.1, p180_3.2⟩
noncomputable def p180_8 : PS2 [7, 8, 37] c180_8 7 8 := ⟨_, fun c v7 v8 T => Eq.trans (regA rfl rfl (sMov rfl (sMov rfl (sV (eX_lenS rfl) fun u2 => (sV (eX_lss rfl rfl) fun u3 => (sE (F' := [(7, v7), (8, v8), (37, u3)]) rfl)))))) rfl⟩
noncomputable def x180_8 : XReg := (XReg.of [7, 8, 37] c180_8).more [7, 8] ⟨p180_8.1, p180_8.2⟩
noncomputable def p197_0 : PS2 [0, 1] c197_0 0 1 := ⟨_, fun c v0 v1 T => Eq.trans (regA rfl rfl (sMov rfl (sE (F' := [(0, v0), (1, v1)]) rfl))) rfl⟩
noncomputable def x197_0 : XReg := (XReg.of [0, 1] c197_0).more [0, 1] ⟨p197_0.1, p197_0.2⟩
noncomputable def p197_1 : PS2 [0, 1, 5] c197_1 0 1 := ⟨_, fun c v0 v1 T => Eq.trans (regA rfl rfl (sMov rfl (sM (eX_call rfl) fun u1 T => (sMov rfl (sE (F' := [(0, v0), (1, v1), (5, u1)]) rfl))))) rfl⟩
noncomputable def x197_1 : XReg := (XReg.of [0, 1, 5] c197_1).more [0, 1] ⟨p197_1.1, p197_1.2⟩
noncomputable def p197_2 : PS3 [0, 1, 5, 6] c197_2 0 1 5 := ⟨_, fun c v0 v1 v5 T => Eq.trans (regA rfl rfl (sMov rfl (sM (eX_call rfl) fun u1 T => (sMov rfl (sE (F' := [(0, v0), (1, v1), (5, v5), (6, u1)]) rfl))))) rfl⟩
noncomputable def x197_2 : XReg := (XReg.of [0, 1, 5, 6] c197_2).more [0, 1, 5] ⟨p197_2.1, p197_2.2⟩
noncomputable def p197_3 : PS4 [0, 1, 6, 11] c197_3 0 1 5 6 := ⟨_, fun c v0 v1 v5 v6 T => Eq.trans (regA rfl rfl (sMov rfl (sE (F' := [(0, v0), (1, v1), (6, v6), (11, v5)]) rfl))) rfl⟩
noncomputable def x197_3 : XReg := (XReg.of [0, 1, 6, 11] c197_3).more [0, 1, 5, 6] ⟨p197_3.1, p197_3.2⟩
noncomputable def p197_7 : PS4 [0, 1, 13] c197_7 0 1 6 11 := ⟨_, fun c v0 v1 v6 v11 T => Eq.trans (regA rfl rfl (sMov rfl (sE (F' := [(0, v0), (1, v1), (13, v6)]) rfl))) rfl⟩
noncomputable def x197_7 : XReg := (XReg.of [0, 1, 13] c197_7).more [0, 1, 6, 11] ⟨p197_7.1, p197_7.2⟩
noncomputable def p197_9 : PS3 [0, 1, 16] c197_9 0 1 13 := ⟨_, fun c v0 v1 v13 T => Eq.trans (regA rfl rfl (sMov rfl (sMov rfl (sV (eX_lss rfl rfl) fun u2 => (sE (F' := [(0, v0), (1, v1), (16, u2)]) rfl))))) rfl⟩
noncomputable def x197_9 : XReg := (XReg.of [0, 1, 16] c197_9).more [0, 1, 13] ⟨p197_9.1, p197_9.2⟩
noncomputable def p197_11 : PS3 [19] c197_11 0 1 16 := ⟨_, fun c v0 v1 v16 T => Eq.trans (regA rfl rfl (sMov rfl (sMov rfl (sV (eX_gtr rfl rfl) fun u2 => (sE (F' := [(19, u2)]) rfl))))) rfl⟩
noncomputable def x197_11 : XReg := (XReg.of [19] c197_11).more [0, 1, 16] ⟨p197_11.1, p197_11.2⟩
noncomputable def p197_13 : PS1 [4] c197_13 19 := ⟨_, fun c v19 T => Eq.trans (regA rfl rfl (sMov rfl (sE (F' := [(4, (cv (.int .i64 (0))))]) rfl))) rfl⟩
noncomputable def x197_13 : XReg := (XReg.of [4] c197_13).more [19] ⟨p197_13.1, p197_13.2⟩
noncomputable def p198_0 : PS2 [0, 1] c198_0 0 1 := ⟨_, fun c v0 v1 T => Eq.trans (regA rfl rfl (sMov rfl (sE (F' := [(0, v0), (1, v1)]) rfl))) rfl⟩
noncomputable def x198_0 : XReg := (XReg.of [0, 1] c198_0).more [0, 1] ⟨p198_0.1, p198_0.2⟩
noncomputable def p198_1 : PS2 [0, 1, 5] c198_1 0 1 := ⟨_, fun c v0 v1 T => Eq.trans (regA rfl rfl (sMov rfl (sM (eX_call rfl) fun u1 T => (sMov rfl (sE (F' := [(0, v0), (1, v1), (5, u1)]) rfl))))) rfl⟩
noncomputable def x198_1 : XReg := (XReg.of [0, 1, 5] c198_1).more [0, 1] ⟨p198_1.1, p198_1.2⟩
noncomputable def p198_2 : PS3 [0, 1, 5, 6] c198_2 0 1 5 := ⟨_, fun c v0 v1 v5 T => Eq.trans (regA rfl rfl (sMov rfl (sM (eX_call rfl) fun u1 T => (sMov rfl (sE (F' := [(0, v0), (1, v1), (5, v5), (6, u1)]) rfl))))) rfl⟩
noncomputable def x198_2 : XReg := (XReg.of [0, 1, 5, 6] c198_2).more [0, 1, 5] ⟨p198_2.1, p198_2.2⟩
noncomputable def p198_3 : PS4 [0, 1, 6, 11] c198_3 0 1 5 6 := ⟨_, fun c v0 v1 v5 v6 T => Eq.trans (regA rfl rfl (sMov rfl (sE (F' := [(0, v0), (1, v1), (6, v6), (11, v5)]) rfl))) rfl⟩
noncomputable def x198_3 : XReg := (XReg.of [0, 1, 6, 11] c198_3).more [0, 1, 5, 6] ⟨p198_3.1, p198_3.2⟩
noncomputable def p198_7 : PS4 [0, 1, 13] c198_7 0 1 6 11 := ⟨_, fun c v0 v1 v6 v11 T => Eq.trans (regA rfl rfl (sMov rfl (sE (F' := [(0, v0), (1, v1), (13, v6)]) rfl))) rfl⟩
noncomputable def x198_7 : XReg := (XReg.of [0, 1, 13] c198_7).more [0, 1, 6, 11] ⟨p198_7.1, p198_7.2⟩
noncomputable def p198_9 : PS3 [0, 1, 16] c198_9 0 1 13 := ⟨_, fun c v0 v1 v13 T => Eq.trans (regA rfl rfl (sMov rfl (sMov rfl (sV (eX_lss rfl rfl) fun u2 => (sE (F' := [(0, v0), (1, v1), (16, u2)]) rfl))))) rfl⟩
noncomputable def x198_9 : XReg := (XReg.of [0, 1, 16] c198_9).more [0, 1, 13] ⟨p198_9.1, p198_9.2⟩
noncomputable def p198_11 : PS3 [19] c198_11 0 1 16 := ⟨_, fun c v0 v1 v16 T => Eq.trans (regA rfl rfl (sMov rfl (sMov rfl (sV (eX_gtr rfl rfl) fun u2 => (sE (F' := [(19, u2)]) rfl))))) rfl⟩
noncomputable def x198_11 : XReg := (XReg.of [19] c198_11).more [0, 1, 16] ⟨p198_11.1, p198_11.2⟩
noncomputable def p198_13 : PS1 [4] c198_13 19 := ⟨_, fun c v19 T => Eq.trans (regA rfl rfl (sMov rfl (sE (F' := [(4, (cv (.int .i64 (0))))]) rfl))) rfl⟩
noncomputable def x198_13 : XReg := (XReg.of [4] c198_13).more [19] ⟨p198_13.1, p198_13.2⟩
noncomputable def p210_1 : PS1 [0, 4] c210_1 0 := ⟨_, fun c v0 T => Eq.trans (regA rfl rfl (sMov rfl (sV (eX_isnil rfl) fun u1 => (sE (F' := [(0, v0), (4, u1)]) rfl)))) rfl⟩
noncomputable def x210_1 : XReg := (XReg.of [0, 4] c210_1).more [0] ⟨p210_1.1, p210_1.2⟩
noncomputable def p210_3 : PS2 [2] c210_3 0 4 := ⟨_, fun c v0 v4 T => Eq.trans (regA rfl rfl (sM (eX_mkslice rfl) fun u0 T => (sMov rfl (sM (eX_append rfl rfl) fun u2 T => (sMov rfl (sE (F' := [(2, u2)]) rfl)))))) rfl⟩
noncomputable def x210_3 : XReg := (XReg.of [2] c210_3).more [0, 4] ⟨p210_3.1, p210_3.2⟩
noncomputable def p211_0 : PS2 [0, 1, 4] c211_0 0 1 := ⟨_, fun c v0 v1 T => Eq.trans (regA rfl rfl (sM (eX_alloc) fun u0 T => (sE (F' := [(0, v0), (1, v1), (4, u0)]) rfl))) rfl⟩
noncomputable def x211_0 : XReg := (XReg.of [0, 1, 4] c211_0).more [0, 1] ⟨p211_0.1, p211_0.2⟩
noncomputable def p211_1 : PS3 [0, 1, 4, 5] c211_1 0 1 4 := ⟨_, fun c v0 v1 v4 T => Eq.trans (regA rfl rfl (sMov rfl (sMov rfl (sV (eX_nilchk rfl) fun u2 => (sV (eX_fld rfl) fun u3 => (sV (eX_idxA rfl rfl) fun u4 => (sV (eX_loadN rfl) fun u5 => (sM (eX_alloc) fun u6 T => (sS (eX_storeN rfl rfl) fun T => (sE (F' := [(0, v0), (1, v1), (4, v4), (5, u6)]) rfl)))))))))) rfl⟩
noncomputable def x211_1 : XReg := (XReg.of [0, 1, 4, 5] c211_1).more [0, 1, 4] ⟨p211_1.1, p211_1.2⟩
noncomputable def p211_5 : PS10 [0, 1, 4, 5, 6, 8, 9, 10, 11, 59] c211_5 0 1 4 5 6 8 9 10 11 12 := ⟨_, fun c v0 v1 v4 v5 v6 v8 v9 v10 v11 v12 T => Eq.trans (regA rfl rfl (sMov rfl (sE (F' := [(0, v0), (1, v1), (4, v4), (5, v5), (6, v6), (8, v8), (9, v9), (10, v10), (11, v11), (59, v12)]) rfl))) rfl⟩
noncomputable def x211_5 : XReg := (XReg.of [0, 1, 4, 5, 6, 8, 9, 10, 11, 59] c211_5).more [0, 1, 4, 5, 6, 8, 9, 10, 11, 12] ⟨p211_5.1, p211_5.2⟩
noncomputable def p211_7 : PS10 [0, 1, 4, 5, 8, 9, 13, 14] c211_7 0 1 4 5 6 8 9 10 11 59 := ⟨_, fun c v0 v1 v4 v5 v6 v8 v9 v10 v11 v59 T => Eq.trans (regA rfl rfl (sV (eX_loadN rfl) fun u0 => (sV (eX_loadN rfl) fun u1 => (sMov rfl (sM (eX_call rfl) fun u3 T => (sMov rfl (sV (eX_extr rfl) fun u5 => (sV (eX_extr rfl) fun u6 => (sM (eX_alloc) fun u7 T => (sS (eX_storeN rfl rfl) fun T => (sMov rfl (sE (F' := [(0, v0), (1, v1), (4, v4), (5, v5), (8, v8), (9, v9), (13, u7), (14, u6)]) rfl)))))))))))) rfl⟩
noncomputable def x211_7 : XReg := (XReg.of [0, 1, 4, 5, 8, 9, 13, 14] c211_7).more [0, 1, 4, 5, 6, 8, 9, 10, 11, 59] ⟨p211_7.1, p211_7.2⟩
noncomputable def p211_8 : PS8 [0, 1, 4, 5, 8, 9, 13, 70] c211_8 0 1 4 5 8 9 13 14 := ⟨_, fun c v0 v1 v4 v5 v8 v9 v13 v14 T => Eq.trans (regA rfl rfl (sMov rfl (sV (eX_not rfl) fun u1 => (sE (F' := [(0, v0), (1, v1), (4, v4), (5, v5), (8, v8), (9, v9), (13, v13), (70, u1)]) rfl)))) rfl⟩
noncomputable def x211_8 : XReg := (XReg.of [0, 1, 4, 5, 8, 9, 13, 70] c211_8).more [0, 1, 4, 5, 8, 9, 13, 14] ⟨p211_8.1, p211_8.2⟩
noncomputable def p211_10 : PS7 [0, 1, 4, 5, 8, 9, 13, 15] c211_10 0 1 4 5 8 9 13 := ⟨_, fun c v0 v1 v4 v5 v8 v9 v13 T => Eq.trans (regA rfl rfl (sMov rfl (sV (eX_nilchk rfl) fun u1 => (sV (eX_fld rfl) fun u2 => (sV (eX_load1 rfl) fun u3 => (sV (eX_lenS rfl) fun u4 => (sMov rfl (sE (F' := [(0, v0), (1, v1), (4, v4), (5, v5), (8, v8), (9, v9), (13, v13), (15, u4)]) rfl)))))))) rfl⟩
noncomputable def p211_10_1 : PS8 [0, 1, 4, 5, 8, 9, 13, 15] c211_10 0 1 4 5 8 9 13 70 := ⟨_, fun c v0 v1 v4 v5 v8 v9 v13 v70 T => Eq.trans (regA rfl rfl (sMov rfl (sV (eX_nilchk rfl) fun u1 => (sV (eX_fld rfl) fun u2 => (sV (eX_load1 rfl) fun u3 => (sV (eX_lenS rfl) fun u4 => (sMov rfl (sE (F' := [(0, v0), (1, v1), (4, v4), (5, v5), (8, v8), (9, v9), (13, v13), (15, u4)]) rfl)))))))) rfl⟩
noncomputable def x211_10 : XReg := ((XReg.of [0, 1, 4, 5, 8, 9, 13, 15] c211_10).more [0, 1, 4, 5, 8, 9, 13] ⟨p211_10.1, p211_10.2⟩).more [0, 1, 4, 5, 8, 9, 13, 70] ⟨p211_10_1.1, p211_10_1.2⟩
noncomputable def p211_11 : PS8 [0, 1, 4, 5, 8, 9, 13, 15, 76] c211_11 0 1 4 5 8 9 13 15 := ⟨_, fun c v0 v1 v4 v5 v8 v9 v13 v15 T => Eq.trans (regA rfl rfl (sV (eX_fld rfl) fun u0 => (sV (eX_load1 rfl) fun u1 => (sV (eX_eql rfl rfl) fun u2 => (sMov rfl (gtMov rfl rfl fun u4 T => (gtV rfl (eX_nilchk rfl) fun u5 T => (gtV rfl (eX_fld rfl) fun u6 T => (gtV rfl (eX_load1 rfl) fun u7 T => (gtV rfl (eX_neq rfl rfl) fun u8 T => (sV (eX_pick rfl rfl rfl) fun u9 => (sMov rfl (sE (F' := [(0, v0), (1, v1), (4, v4), (5, v5), (8, v8), (9, v9), (13, v13), (15, v15), (76, u9)]) rfl))))))))))))) rfl⟩
noncomputable def x211_11 : XReg := (XReg.of [0, 1, 4, 5, 8, 9, 13, 15, 76] c211_11).more [0, 1, 4, 5, 8, 9, 13, 15] ⟨p211_11.1, p211_11.2⟩
noncomputable def p211_13 : PS9 [0, 1, 4, 5, 8, 9, 13, 15, 104] c211_13 0 1 4 5 8 9 13 15 76 := ⟨_, fun c v0 v1 v4 v5 v8 v9 v13 v15 v76 T => Eq.trans (regA rfl rfl (sV (eX_loadN rfl) fun u0 => (sM (eX_call rfl) fun u1 T => (sMov rfl (sE (F' := [(0, v0), (1, v1), (4, v4), (5, v5), (8, v8), (9, v9), (13, v13), (15, v15), (104, u1)]) rfl))))) rfl⟩
noncomputable def x211_13 : XReg := (XReg.of [0, 1, 4, 5, 8, 9, 13, 15, 104] c211_13).more [0, 1, 4, 5, 8, 9, 13, 15, 76] ⟨p211_13.1, p211_13.2⟩
noncomputable def p211_16 : PS4 [4] c211_16 1 4 9 13 := ⟨_, fun c v1 v4 v9 v13 T => Eq.trans (regA rfl rfl (sMov rfl (sV (eX_fld rfl) fun u1 => (sV (eX_load1 rfl) fun u2 => (sV (eX_fld rfl) fun u3 => (sV (eX_load1 rfl) fun u4 => (sV (eX_fld rfl) fun u5 => (sV (eX_load1 rfl) fun u6 => (sV (eX_fld rfl) fun u7 => (sV (eX_load1 rfl) fun u8 => (sMov rfl (sV (eX_build rfl) fun u10 => (sS (eX_storeN rfl rfl) fun T => (sE (F' := [(4, v4)]) rfl)))))))))))))) rfl⟩
noncomputable def x211_16 : XReg := (XReg.of [4] c211_16).more [1, 4, 9, 13] ⟨p211_16.1, p211_16.2⟩
noncomputable def p229_0 : PS1 [0] c229_0 0 := ⟨_, fun c v0 T => Eq.trans (regA rfl rfl (sMov rfl (sE (F' := [(0, v0)]) rfl))) rfl⟩
noncomputable def x229_0 : XReg := (XReg.of [0] c229_0).more [0] ⟨p229_0.1, p229_0.2⟩
noncomputable def p229_1 : PS1 [2] c229_1 0 := ⟨_, fun c v0 T => Eq.trans (regA rfl rfl (sMov rfl (sMov rfl (sV (eX_neq rfl rfl) fun u2 => (sMov rfl (sE (F' := [(2, u2)]) rfl)))))) rfl⟩
noncomputable def x229_1 : XReg := (XReg.of [2] c229_1).more [0] ⟨p229_1.1, p229_1.2⟩
noncomputable def p230_0 : PS1 [0] c230_0 0 := ⟨_, fun c v0 T => Eq.trans (regA rfl rfl (sMov rfl (sE (F' := [(0, v0)]) rfl))) rfl⟩
noncomputable def x230_0 : XReg := (XReg.of [0] c230_0).more [0] ⟨p230_0.1, p230_0.2⟩
noncomputable def p230_1 : PS1 [2] c230_1 0 := ⟨_, fun c v0 T => Eq.trans (regA rfl rfl (sMov rfl (sMov rfl (sV (eX_neq rfl rfl) fun u2 => (sMov rfl (sE (F' := [(2, u2)]) rfl)))))) rfl⟩
noncomputable def x230_1 : XReg := (XReg.of [2] c230_1).more [0] ⟨p230_1.1, p230_1.2⟩
noncomputable def p272_1 : PS4 [1, 2, 3, 6, 8, 9, 10] c272_1 1 2 3 6 := ⟨_, fun c v1 v2 v3 v6 T => Eq.trans (regA rfl rfl (sV (eX_loadN rfl) fun u0 => (sMov rfl (sMov rfl (sM (eX_call rfl) fun u3 T => (sMov rfl (sV (eX_extr rfl) fun u5 => (sV (eX_extr rfl) fun u6 => (sV (eX_extr rfl) fun u7 => (sMov rfl (sMov rfl (sMov rfl (sE (F' := [(1, v1), (2, v2), (3, v3), (6, v6), (8, u5), (9, u6), (10, u7)]) rfl))))))))))))) rfl⟩
noncomputable def x272_1 : XReg := (XReg.of [1, 2, 3, 6, 8, 9, 10] c272_1).more [1, 2, 3, 6] ⟨p272_1.1, p272_1.2⟩
noncomputable def p272_2 : PS7 [1, 3, 6, 8, 26] c272_2 1 2 3 6 8 9 10 := ⟨_, fun c v1 v2 v3 v6 v8 v9 v10 T => Eq.trans (regA rfl rfl (sMov rfl (sMov rfl (sV (eX_lenS rfl) fun u2 => (sV (eX_neq rfl rfl) fun u3 => (sMov rfl (gfMov rfl rfl fun u5 T => (gfV rfl (eX_not rfl) fun u6 T => (sV (eX_pick rfl rfl rfl) fun u7 => (sE (F' := [(1, v1), (3, v3), (6, v6), (8, v8), (26, u7)]) rfl)))))))))) rfl⟩
noncomputable def x272_2 : XReg := (XReg.of [1, 3, 6, 8, 26] c272_2).more [1, 2, 3, 6, 8, 9, 10] ⟨p272_2.1, p272_2.2⟩
noncomputable def p277_1 : PS3 [7, 9] c277_1 1 2 3 := ⟨_, fun c v1 v2 v3 T => Eq.trans (regA rfl rfl (sV (eX_loadN rfl) fun u0 => (sMov rfl (sMov rfl (sM (eX_call rfl) fun u3 T => (sMov rfl (sV (eX_extr rfl) fun u5 => (sV (eX_extr rfl) fun u6 => (sMov rfl (sMov rfl (sE (F' := [(7, u6), (9, u5)]) rfl))))))))))) rfl⟩
noncomputable def x277_1 : XReg := (XReg.of [7, 9] c277_1).more [1, 2, 3] ⟨p277_1.1, p277_1.2⟩
noncomputable def p277_4 : PS3 [6, 7, 8] c277_4 7 9 18 := ⟨_, fun c v7 v9 v18 T => Eq.trans (regA rfl rfl (sMov rfl (sM (eX_call rfl) fun u1 T => (sMov rfl (sMov rfl (sM (eX_call rfl) fun u4 T => (sMov rfl (sMov rfl (sMov rfl (sE (F' := [(6, u1), (7, v7), (8, u4)]) rfl)))))))))) rfl⟩
noncomputable def x277_4 : XReg := (XReg.of [6, 7, 8] c277_4).more [7, 9, 18] ⟨p277_4.1, p277_4.2⟩
noncomputable def p278_8 : PS13 [1, 2, 3, 6, 7, 8, 9, 10, 24, 25, 28, 29, 30, 31] c278_8 1 2 3 6 7 8 9 10 24 25 28 29 30 := ⟨_, fun c v1 v2 v3 v6 v7 v8 v9 v10 v24 v25 v28 v29 v30 T => Eq.trans (regA rfl rfl (sV (eX_lss rfl rfl) fun u0 => (sE (F' := [(1, v1), (2, v2), (3, v3), (6, v6), (7, v7), (8, v8), (9, v9), (10, v10), (24, v24), (25, v25), (28, v28), (29, v29), (30, v30), (31, u0)]) rfl))) rfl⟩
noncomputable def x278_8 : XReg := (XReg.of [1, 2, 3, 6, 7, 8, 9, 10, 24, 25, 28, 29, 30, 31] c278_8).more [1, 2, 3, 6, 7, 8, 9, 10, 24, 25, 28, 29, 30] ⟨p278_8.1, p278_8.2⟩
noncomputable def p278_9 : PS14 [1, 2, 3, 6, 7, 8, 9, 10, 11, 12, 24, 25, 28, 29, 30] c278_9 1 2 3 6 7 8 9 10 24 25 28 29 30 31 := ⟨_, fun c v1 v2 v3 v6 v7 v8 v9 v10 v24 v25 v28 v29 v30 v31 T => Eq.trans (regA rfl rfl (sMov rfl (sV (eX_idxS rfl rfl) fun u1 => (sV (eX_loadN rfl) fun u2 => (sM (eX_alloc) fun u3 T => (sMov rfl (sS (eX_storeN rfl rfl) fun T => (sE (F' := [(1, v1), (2, v2), (3, v3), (6, v6), (7, v7), (8, v8), (9, v9), (10, v10), (11, v30), (12, u3), (24, v24), (25, v25), (28, v28), (29, v29), (30, v30)]) rfl)))))))) rfl⟩
noncomputable def x278_9 : XReg := (XReg.of [1, 2, 3, 6, 7, 8, 9, 10, 11, 12, 24, 25, 28, 29, 30] c278_9).more [1, 2, 3, 6, 7, 8, 9, 10, 24, 25, 28, 29, 30, 31] ⟨p278_9.1, p278_9.2⟩
noncomputable def p278_10 : PS15 [1, 2, 3, 6, 7, 8, 9, 10, 11, 12, 24, 25, 28, 29, 30, 43] c278_10 1 2 3 6 7 8 9 10 11 12 24 25 28 29 30 := ⟨_, fun c v1 v2 v3 v6 v7 v8 v9 v10 v11 v12 v24 v25 v28 v29 v30 T => Eq.trans (regA rfl rfl (sV (eX_fld rfl) fun u0 => (sV (eX_load1 rfl) fun u1 => (sMov rfl (sV (eX_eql rfl rfl) fun u3 => (sMov rfl (gtV rfl (eX_fld rfl) fun u5 T => (gtV rfl (eX_load1 rfl) fun u6 T => (gtV rfl (eX_neq rfl rfl) fun u7 T => (sV (eX_pick rfl rfl rfl) fun u8 => (sE (F' := [(1, v1), (2, v2), (3, v3), (6, v6), (7, v7), (8, v8), (9, v9), (10, v10), (11, v11), (12, v12), (24, v24), (25, v25), (28, v28), (29, v29), (30, v30), (43, u8)]) rfl))))))))))) rfl⟩
noncomputable def x278_10 : XReg := (XReg.of [1, 2, 3, 6, 7, 8, 9, 10, 11, 12, 24, 25, 28, 29, 30, 43] c278_10).more [1, 2, 3, 6, 7, 8, 9, 10, 11, 12, 24, 25, 28, 29, 30] ⟨p278_10.1, p278_10.2⟩
noncomputable def p278_11 : PS16 [1, 2, 3, 6, 7, 8, 9, 10, 12, 24, 25, 28, 29, 30] c278_11 1 2 3 6 7 8 9 10 11 12 24 25 28 29 30 43 := ⟨_, fun c v1 v2 v3 v6 v7 v8 v9 v10 v11 v12 v24 v25 v28 v29 v30 v43 T => Eq.trans (regA rfl rfl (sMov rfl (sMov rfl (sV (eX_fld rfl) fun u2 => (sV (eX_load1 rfl) fun u3 => (sV (eX_lenS rfl) fun u4 => (sV (eX_idxS rfl rfl) fun u5 => (sS (eX_store1 rfl rfl) fun T => (sE (F' := [(1, v1), (2, v2), (3, v3), (6, v6), (7, v7), (8, v8), (9, v9), (10, v10), (12, v12), (24, v24), (25, v25), (28, v28), (29, v29), (30, v30)]) rfl))))))))) rfl⟩
noncomputable def x278_11 : XReg := (XReg.of [1, 2, 3, 6, 7, 8, 9, 10, 12, 24, 25, 28, 29, 30] c278_11).more [1, 2, 3, 6, 7, 8, 9, 10, 11, 12, 24, 25, 28, 29, 30, 43] ⟨p278_11.1, p278_11.2⟩
noncomputable def p278_12 : PS14 [1, 2, 3, 6, 7, 8, 9, 10, 24, 25, 28, 29, 30] c278_12 1 2 3 6 7 8 9 10 12 24 25 28 29 30 := ⟨_, fun c v1 v2 v3 v6 v7 v8 v9 v10 v12 v24 v25 v28 v29 v30 T => Eq.trans (regA rfl rfl (sV (eX_fld rfl) fun u0 => (sV (eX_load1 rfl) fun u1 => (sMov rfl (sMov rfl (sV (eX_fld rfl) fun u4 => (sV (eX_load1 rfl) fun u5 => (sV (eX_fld rfl) fun u6 => (sV (eX_load1 rfl) fun u7 => (sV (eX_fld rfl) fun u8 => (sV (eX_load1 rfl) fun u9 => (sV (eX_fld rfl) fun u10 => (sV (eX_load1 rfl) fun u11 => (sV (eX_build rfl) fun u12 => (sM (eX_mkslice rfl) fun u13 T => (sM (eX_append rfl rfl) fun u14 T => (sV (eX_fld rfl) fun u15 => (sS (eX_store1 rfl rfl) fun T => (sE (F' := [(1, v1), (2, v2), (3, v3), (6, v6), (7, v7), (8, v8), (9, v9), (10, v10), (24, v24), (25, v25), (28, v28), (29, v29), (30, v30)]) rfl))))))))))))))))))) rfl⟩
noncomputable def x278_12 : XReg := (XReg.of [1, 2, 3, 6, 7, 8, 9, 10, 24, 25, 28, 29, 30] c278_12).more [1, 2, 3, 6, 7, 8, 9, 10, 12, 24, 25, 28, 29, 30] ⟨p278_12.1, p278_12.2⟩
noncomputable def p278_13 : PS13 [1, 2, 3, 6, 7, 8, 9, 10, 24, 25, 28, 29, 30] c278_13 1 2 3 6 7 8 9 10 24 25 28 29 30 := ⟨_, fun c v1 v2 v3 v6 v7 v8 v9 v10 v24 v25 v28 v29 v30 T => Eq.trans (regA rfl rfl (sMov rfl (sV (eX_add rfl rfl) fun u1 => (sMov rfl (sE (F' := [(1, v1), (2, v2), (3, v3), (6, v6), (7, v7), (8, v8), (9, v9), (10, u1), (24, v24), (25, v25), (28, v28), (29, v29), (30, v30)]) rfl))))) rfl⟩
noncomputable def x278_13 : XReg := (XReg.of [1, 2, 3, 6, 7, 8, 9, 10, 24, 25, 28, 29, 30] c278_13).more [1, 2, 3, 6, 7, 8, 9, 10, 24, 25, 28, 29, 30] ⟨p278_13.1, p278_13.2⟩
noncomputable def p278_14 : PS13 [1, 2, 3, 6, 7, 8, 9, 10, 24, 25, 28, 29, 30] c278_14 1 2 3 6 7 8 9 10 24 25 28 29 30 := ⟨_, fun c v1 v2 v3 v6 v7 v8 v9 v10 v24 v25 v28 v29 v30 T => Eq.trans (regA rfl rfl (sV (eX_add rfl rfl) fun u0 => (sMov rfl (sE (F' := [(1, v1), (2, v2), (3, v3), (6, v6), (7, v7), (8, v8), (9, v9), (10, v10), (24, v24), (25, v25), (28, v28), (29, v29), (30, u0)]) rfl)))) rfl⟩
noncomputable def p278_14_1 : PS16 [1, 2, 3, 6, 7, 8, 9, 10, 24, 25, 28, 29, 30] c278_14 1 2 3 6 7 8 9 10 11 12 24 25 28 29 30 43 := ⟨_, fun c v1 v2 v3 v6 v7 v8 v9 v10 v11 v12 v24 v25 v28 v29 v30 v43 T => Eq.trans (regA rfl rfl (sV (eX_add rfl rfl) fun u0 => (sMov rfl (sE (F' := [(1, v1), (2, v2), (3, v3), (6, v6), (7, v7), (8, v8), (9, v9), (10, v10), (24, v24), (25, v25), (28, v28), (29, v29), (30, u0)]) rfl)))) rfl⟩
noncomputable def x278_14 : XReg := ((XReg.of [1, 2, 3, 6, 7, 8, 9, 10, 24, 25, 28, 29, 30] c278_14).more [1, 2, 3, 6, 7, 8, 9, 10, 24, 25, 28, 29, 30] ⟨p278_14.1, p278_14.2⟩).more [1, 2, 3, 6, 7, 8, 9, 10, 11, 12, 24, 25, 28, 29, 30, 43] ⟨p278_14_1.1, p278_14_1.2⟩
noncomputable def p278_22 : PS8 [1, 2, 6, 7, 8, 78, 79] c278_22 1 2 6 7 8 13 78 79 := ⟨_, fun c v1 v2 v6 v7 v8 v13 v78 v79 T => Eq.trans (regA rfl rfl (sV (eX_fld rfl) fun u0 => (sV (eX_load1 rfl) fun u1 => (sMov rfl (sM (eX_mkslice rfl) fun u3 T => (sM (eX_mkslice rfl) fun u4 T => (sM (eX_append rfl rfl) fun u5 T => (sV (eX_fld rfl) fun u6 => (sS (eX_store1 rfl rfl) fun T => (sE (F' := [(1, v1), (2, v2), (6, v6), (7, v7), (8, v8), (78, v78), (79, v79)]) rfl)))))))))) rfl⟩
noncomputable def x278_22 : XReg := (XReg.of [1, 2, 6, 7, 8, 78, 79] c278_22).more [1, 2, 6, 7, 8, 13, 78, 79] ⟨p278_22.1, p278_22.2⟩
noncomputable def p278_26 : PS7 [1, 6, 7, 8, 90, 91, 92, 93] c278_26 1 6 7 8 90 91 92 := ⟨_, fun c v1 v6 v7 v8 v90 v91 v92 T => Eq.trans (regA rfl rfl (sV (eX_lss rfl rfl) fun u0 => (sE (F' := [(1, v1), (6, v6), (7, v7), (8, v8), (90, v90), (91, v91), (92, v92), (93, u0)]) rfl))) rfl⟩
noncomputable def x278_26 : XReg := (XReg.of [1, 6, 7, 8, 90, 91, 92, 93] c278_26).more [1, 6, 7, 8, 90, 91, 92] ⟨p278_26.1, p278_26.2⟩
noncomputable def p278_27 : PS8 [1, 6, 7, 8, 14, 15, 90, 91, 92] c278_27 1 6 7 8 90 91 92 93 := ⟨_, fun c v1 v6 v7 v8 v90 v91 v92 v93 T => Eq.trans (regA rfl rfl (sMov rfl (sV (eX_idxS rfl rfl) fun u1 => (sV (eX_loadN rfl) fun u2 => (sM (eX_alloc) fun u3 T => (sMov rfl (sS (eX_storeN rfl rfl) fun T => (sE (F' := [(1, v1), (6, v6), (7, v7), (8, v8), (14, v92), (15, u3), (90, v90), (91, v91), (92, v92)]) rfl)))))))) rfl⟩
noncomputable def x278_27 : XReg := (XReg.of [1, 6, 7, 8, 14, 15, 90, 91, 92] c278_27).more [1, 6, 7, 8, 90, 91, 92, 93] ⟨p278_27.1, p278_27.2⟩
noncomputable def p278_28 : PS9 [1, 6, 7, 8, 14, 15, 90, 91, 92, 98] c278_28 1 6 7 8 14 15 90 91 92 := ⟨_, fun c v1 v6 v7 v8 v14 v15 v90 v91 v92 T => Eq.trans (regA rfl rfl (sV (eX_loadN rfl) fun u0 => (sM (eX_call rfl) fun u1 T => (sE (F' := [(1, v1), (6, v6), (7, v7), (8, v8), (14, v14), (15, v15), (90, v90), (91, v91), (92, v92), (98, u1)]) rfl)))) rfl⟩
noncomputable def x278_28 : XReg := (XReg.of [1, 6, 7, 8, 14, 15, 90, 91, 92, 98] c278_28).more [1, 6, 7, 8, 14, 15, 90, 91, 92] ⟨p278_28.1, p278_28.2⟩
noncomputable def p278_32 : PS10 [1, 6, 7, 8, 14, 15, 90, 91, 92, 123] c278_32 1 6 7 8 14 15 90 91 92 98 := ⟨_, fun c v1 v6 v7 v8 v14 v15 v90 v91 v92 v98 T => Eq.trans (regA rfl rfl (sV (eX_fld rfl) fun u0 => (sV (eX_load1 rfl) fun u1 => (sV (eX_eql rfl rfl) fun u2 => (sMov rfl (sE (F' := [(1, v1), (6, v6), (7, v7), (8, v8), (14, v14), (15, v15), (90, v90), (91, v91), (92, v92), (123, u2)]) rfl)))))) rfl⟩
noncomputable def p278_32_1 : PS9 [1, 6, 7, 8, 14, 15, 90, 91, 92, 123] c278_32 1 6 7 8 14 15 90 91 92 := ⟨_, fun c v1 v6 v7 v8 v14 v15 v90 v91 v92 T => Eq.trans (regA rfl rfl (sV (eX_fld rfl) fun u0 => (sV (eX_load1 rfl) fun u1 => (sV (eX_eql rfl rfl) fun u2 => (sMov rfl (sE (F' := [(1, v1), (6, v6), (7, v7), (8, v8), (14, v14), (15, v15), (90, v90), (91, v91), (92, v92), (123, u2)]) rfl)))))) rfl⟩
noncomputable def p278_32_2 : PS10 [1, 6, 7, 8, 14, 15, 90, 91, 92, 123] c278_32 1 6 7 8 14 15 90 91 92 110 := ⟨_, fun c v1 v6 v7 v8 v14 v15 v90 v91 v92 v110 T => Eq.trans (regA rfl rfl (sV (eX_fld rfl) fun u0 => (sV (eX_load1 rfl) fun u1 => (sV (eX_eql rfl rfl) fun u2 => (sMov rfl (sE (F' := [(1, v1), (6, v6), (7, v7), (8, v8), (14, v14), (15, v15), (90, v90), (91, v91), (92, v92), (123, u2)]) rfl)))))) rfl⟩
noncomputable def x278_32 : XReg := (((XReg.of [1, 6, 7, 8, 14, 15, 90, 91, 92, 123] c278_32).more [1, 6, 7, 8, 14, 15, 90, 91, 92, 98] ⟨p278_32.1, p278_32.2⟩).more [1, 6, 7, 8, 14, 15, 90, 91, 92] ⟨p278_32_1.1, p278_32_1.2⟩).more [1, 6, 7, 8, 14, 15, 90, 91, 92, 110] ⟨p278_32_2.1, p278_32_2.2⟩
noncomputable def p278_34 : PS10 [1, 6, 7, 8, 14, 15, 90, 91, 92, 145] c278_34 1 6 7 8 14 15 90 91 92 123 := ⟨_, fun c v1 v6 v7 v8 v14 v15 v90 v91 v92 v123 T => Eq.trans (regA rfl rfl (sV (eX_loadN rfl) fun u0 => (sMov rfl (sM (eX_call rfl) fun u2 T => (sMov rfl (sE (F' := [(1, v1), (6, v6), (7, v7), (8, v8), (14, v14), (15, v15), (90, v90), (91, v91), (92, v92), (145, u2)]) rfl)))))) rfl⟩
noncomputable def x278_34 : XReg := (XReg.of [1, 6, 7, 8, 14, 15, 90, 91, 92, 145] c278_34).more [1, 6, 7, 8, 14, 15, 90, 91, 92, 123] ⟨p278_34.1, p278_34.2⟩
noncomputable def p278_36 : PS7 [1, 6, 7, 8, 90, 91, 92] c278_36 1 6 7 8 90 91 92 := ⟨_, fun c v1 v6 v7 v8 v90 v91 v92 T => Eq.trans (regA rfl rfl (sV (eX_add rfl rfl) fun u0 => (sMov rfl (sE (F' := [(1, v1), (6, v6), (7, v7), (8, v8), (90, v90), (91, v91), (92, u0)]) rfl)))) rfl⟩
noncomputable def p278_36_1 : PS10 [1, 6, 7, 8, 90, 91, 92] c278_36 1 6 7 8 14 15 90 91 92 145 := ⟨_, fun c v1 v6 v7 v8 v14 v15 v90 v91 v92 v145 T => Eq.trans (regA rfl rfl (sV (eX_add rfl rfl) fun u0 => (sMov rfl (sE (F' := [(1, v1), (6, v6), (7, v7), (8, v8), (90, v90), (91, v91), (92, u0)]) rfl)))) rfl⟩
noncomputable def x278_36 : XReg := ((XReg.of [1, 6, 7, 8, 90, 91, 92] c278_36).more [1, 6, 7, 8, 90, 91, 92] ⟨p278_36.1, p278_36.2⟩).more [1, 6, 7, 8, 14, 15, 90, 91, 92, 145] ⟨p278_36_1.1, p278_36_1.2⟩
noncomputable def p283_1 : PS3 [2, 8, 9] c283_1 1 2 3 := ⟨_, fun c v1 v2 v3 T => Eq.trans (regA rfl rfl (sV (eX_loadN rfl) fun u0 => (sMov rfl (sM (eX_call rfl) fun u2 T => (sMov rfl (sV (eX_extr rfl) fun u4 => (sV (eX_extr rfl) fun u5 => (sMov rfl (sMov rfl (sE (F' := [(2, v2), (8, u4), (9, u5)]) rfl)))))))))) rfl⟩
noncomputable def x283_1 : XReg := (XReg.of [2, 8, 9] c283_1).more [1, 2, 3] ⟨p283_1.1, p283_1.2⟩
noncomputable def p283_5 : PS5 [2, 8, 22, 23, 24, 25] c283_5 2 8 22 23 24 := ⟨_, fun c v2 v8 v22 v23 v24 T => Eq.trans (regA rfl rfl (sV (eX_lss rfl rfl) fun u0 => (sE (F' := [(2, v2), (8, v8), (22, v22), (23, v23), (24, v24), (25, u0)]) rfl))) rfl⟩
noncomputable def x283_5 : XReg := (XReg.of [2, 8, 22, 23, 24, 25] c283_5).more [2, 8, 22, 23, 24] ⟨p283_5.1, p283_5.2⟩
noncomputable def p283_6 : PS6 [2, 8, 10, 11, 22, 23, 24] c283_6 2 8 22 23 24 25 := ⟨_, fun c v2 v8 v22 v23 v24 v25 T => Eq.trans (regA rfl rfl (sMov rfl (sV (eX_idxS rfl rfl) fun u1 => (sV (eX_load1 rfl) fun u2 => (sMov rfl (sMov rfl (sE (F' := [(2, v2), (8, v8), (10, v24), (11, u2), (22, v22), (23, v23), (24, v24)]) rfl))))))) rfl⟩
noncomputable def x283_6 : XReg := (XReg.of [2, 8, 10, 11, 22, 23, 24] c283_6).more [2, 8, 22, 23, 24, 25] ⟨p283_6.1, p283_6.2⟩
noncomputable def p283_7 : PS7 [2, 8, 10, 13, 22, 23, 24] c283_7 2 8 10 11 22 23 24 := ⟨_, fun c v2 v8 v10 v11 v22 v23 v24 T => Eq.trans (regA rfl rfl (sMov rfl (sMov rfl (sM (eX_call rfl) fun u2 T => (sMov rfl (sV (eX_extr rfl) fun u4 => (sV (eX_extr rfl) fun u5 => (sM (eX_alloc) fun u6 T => (sS (eX_storeN rfl rfl) fun T => (sMov rfl (sE (F' := [(2, v2), (8, v8), (10, v10), (13, u5), (22, v22), (23, v23), (24, v24)]) rfl))))))))))) rfl⟩
noncomputable def x283_7 : XReg := (XReg.of [2, 8, 10, 13, 22, 23, 24] c283_7).more [2, 8, 10, 11, 22, 23, 24] ⟨p283_7.1, p283_7.2⟩
noncomputable def p283_8 : PS7 [2, 8, 10, 22, 23, 24, 36] c283_8 2 8 10 13 22 23 24 := ⟨_, fun c v2 v8 v10 v13 v22 v23 v24 T => Eq.trans (regA rfl rfl (sMov rfl (sV (eX_not rfl) fun u1 => (sE (F' := [(2, v2), (8, v8), (10, v10), (22, v22), (23, v23), (24, v24), (36, u1)]) rfl)))) rfl⟩
noncomputable def x283_8 : XReg := (XReg.of [2, 8, 10, 22, 23, 24, 36] c283_8).more [2, 8, 10, 13, 22, 23, 24] ⟨p283_8.1, p283_8.2⟩
noncomputable def p283_10 : PS7 [2, 8, 22, 23, 24] c283_10 2 8 10 22 23 24 36 := ⟨_, fun c v2 v8 v10 v22 v23 v24 v36 T => Eq.trans (regA rfl rfl (sV (eX_add rfl rfl) fun u0 => (sMov rfl (sE (F' := [(2, v2), (8, v8), (22, v22), (23, v23), (24, u0)]) rfl)))) rfl⟩
noncomputable def x283_10 : XReg := (XReg.of [2, 8, 22, 23, 24] c283_10).more [2, 8, 10, 22, 23, 24, 36] ⟨p283_10.1, p283_10.2⟩
end Go.Jq
set_option maxRecDepth 20000
namespace Go.Jq
noncomputable def r4_body : RCode := (.seq (.run x4_0) (.seq (.seq (.run x4_1) (.cond (.tmp 8) (.run x4_2) .skip)) (.seq (.run x4_3) .ret)))
noncomputable def r4 : RFunc ⊕ Nat := .inl ⟨1, 11, r4_body, [.cellN 2 74]⟩
theorem q4 : c4 = rconv r4 := by kernel_rfl
noncomputable def r11_body : RCode := (.seq (.run x11_0) (.seq (.run x11_1) (.seq (.seq (.run x11_2) (.cond (.tmp 13) (.seq (.run x11_3) .ret) .skip)) (.seq (.old (.qreg [4, 5, 6, 7] c11_4)) .ret))))
noncomputable def r11 : RFunc ⊕ Nat := .inl ⟨2, 29, r11_body, [.tmp 4, .tmp 5, .tmp 6, .tmp 7]⟩
theorem q11 : c11 = rconv r11 := by kernel_rfl
noncomputable def r14_6 : RCode := (.seq (.seq (.run x14_2) (.cond (.tmp 12) .skip (.exit 0))) (.seq (.block 1 (.seq (.old (.reg [1, 2, 7, 21] c14_3)) (.cond (.tmp 21) (.seq (.old (.qreg [4, 5, 6] c14_4)) .ret) .skip))) (.old (.reg [1, 2, 7] c14_5))))
noncomputable def r14_body : RCode := (.seq (.run x14_0) (.seq (.seq (.run x14_1) (.block 0 (.loop [1, 2, 7] r14_6))) (.seq (.run x14_7) .ret)))
noncomputable def r14 : RFunc ⊕ Nat := .inl ⟨2, 32, r14_body, [.tmp 4, .tmp 5, .tmp 6]⟩
theorem q14 : c14 = rconv r14 := by kernel_rfl
noncomputable def r15_7 : RCode := (.seq (.run x15_2) (.seq (.cond (.tmp 9) .skip (.exit 0)) (.seq (.block 1 (.seq (.old (.reg [1, 2, 5, 7, 8] c15_3)) (.seq (.old (.reg [1, 2, 5, 7, 8, 22] c15_4)) (.cond (.tmp 22) (.seq (.old (.reg [4] c15_5)) .ret) .skip)))) (.old (.reg [1, 2, 7, 8] c15_6)))))
noncomputable def r15_body : RCode := (.seq (.run x15_0) (.seq (.seq (.run x15_1) (.block 0 (.loop [1, 2, 7, 8] r15_7))) (.seq (.run x15_8) .ret)))
noncomputable def r15 : RFunc ⊕ Nat := .inl ⟨2, 25, r15_body, [.tmp 4]⟩
theorem q15 : c15 = rconv r15 := by kernel_rfl
noncomputable def r20_body : RCode := (.seq (.old (.reg [0] c20_0)) (.seq (.old (.reg [0, 1] c20_1)) (.seq (.run x20_2) .ret)))
noncomputable def r20 : RFunc ⊕ Nat := .inl ⟨0, 16, r20_body, [.cellN 0 3]⟩
theorem q20 : c20 = rconv r20 := by kernel_rfl
noncomputable def r46_body : RCode := (.seq (.old (.reg [0] c46_0)) (.seq (.old (.reg [2] c46_1)) .ret))
noncomputable def r46 : RFunc ⊕ Nat := .inl ⟨1, 8, r46_body, [.tmp 2]⟩
theorem q46 : c46 = rconv r46 := by kernel_rfl
noncomputable def r58_body : RCode := (.seq (.run x58_0) (.seq (.run x58_1) .ret))
noncomputable def r58 : RFunc ⊕ Nat := .inl ⟨2, 10, r58_body, [.tmp 4]⟩
theorem q58 : c58 = rconv r58 := by kernel_rfl
noncomputable def r59_9 : RCode := (.seq (.run x59_4) (.seq (.cond (.tmp 42) .skip (.exit 0)) (.seq (.block 1 (.seq (.run x59_5) (.seq (.run x59_6) (.cond (.tmp 63) (.seq (.old (.reg [2] c59_7)) .ret) .skip)))) (.run x59_8))))
noncomputable def r59_17 : RCode := (.seq (.run x59_12) (.seq (.cond (.tmp 70) .skip (.exit 2)) (.seq (.block 3 (.seq (.run x59_13) (.seq (.run x59_14) (.cond (.tmp 85) (.seq (.old (.reg [2] c59_15)) .ret) .skip)))) (.run x59_16))))
noncomputable def r59_body : RCode := (.seq (.old (.reg [1] c59_0)) (.seq (.seq (.run x59_1) (.cond (.tmp 37) (.seq (.old (.reg [2] c59_2)) .ret) .skip)) (.seq (.seq (.old (.reg [1, 39, 40, 41] c59_3)) (.block 0 (.loop [1, 39, 40, 41] r59_9))) (.seq (.old (.reg [1, 5] c59_10)) (.seq (.seq (.old (.reg [5, 67, 68, 69] c59_11)) (.block 2 (.loop [5, 67, 68, 69] r59_17))) (.seq (.old (.reg [2] c59_18)) .ret))))))
noncomputable def r59 : RFunc ⊕ Nat := .inl ⟨1, 87, r59_body, [.tmp 2]⟩
theorem q59 : c59 = rconv r59 := by kernel_rfl
noncomputable def r60_body : RCode := (.seq (.run x60_0) (.seq (.run x60_1) .ret))
noncomputable def r60 : RFunc ⊕ Nat := .inl ⟨2, 10, r60_body, [.cellN 4 5]⟩
theorem q60 : c60 = rconv r60 := by kernel_rfl
noncomputable def r79_body : RCode := (.seq (.old (.reg [2, 3] c79_0)) (.seq (.old (.dreg [4] c79_1 c79_1b)) .ret))
noncomputable def r79 : RFunc ⊕ Nat := .inl ⟨2, 22, r79_body, [.tmp 4]⟩
theorem q79 : c79 = rconv r79 := by kernel_rfl
noncomputable def r88_11 : RCode := (.seq (.run x88_5) (.seq (.cond (.tmp 25) .skip (.exit 0)) (.seq (.block 1 (.seq (.run x88_6) (.seq (.old (.dreg [1, 2, 6, 7, 24] c88_7 c88_7b)) (.seq (.old (.dreg [1, 2, 6, 7, 24] c88_8 c88_8b)) (.run x88_9))))) (.run x88_10))))
noncomputable def r88_body : RCode := (.seq (.old (.reg [1, 2] c88_0)) (.seq (.seq (.run x88_1) (.cond (.tmp 18) (.seq (.old (.reg [4, 5] c88_2)) .ret) .skip)) (.seq (.old (.reg [1, 2, 6] c88_3)) (.seq (.seq (.old (.reg [1, 2, 6, 24] c88_4)) (.block 0 (.loop [1, 2, 6, 24] r88_11))) (.seq (.old (.dreg [6] c88_12 c88_12b)) (.seq (.old (.reg [4, 5] c88_13)) .ret))))))
noncomputable def r88 : RFunc ⊕ Nat := .inl ⟨2, 59, r88_body, [.tmp 4, .tmp 5]⟩
theorem q88 : c88 = rconv r88 := by kernel_rfl
noncomputable def r92_body : RCode := (.seq (.old (.reg [0] c92_0)) (.seq (.seq (.old (.reg [0, 4] c92_1)) (.cond (.tmp 4) (.seq (.old (.reg [2] c92_2)) .ret) .skip)) (.seq (.old (.reg [2] c92_3)) .ret)))
noncomputable def r92 : RFunc ⊕ Nat := .inl ⟨1, 8, r92_body, [.tmp 2]⟩
theorem q92 : c92 = rconv r92 := by kernel_rfl
noncomputable def r101_body : RCode := (.seq (.run x101_0) (.seq (.run x101_1) .ret))
noncomputable def r101 : RFunc ⊕ Nat := .inl ⟨1, 11, r101_body, [.tmp 2]⟩
theorem q101 : c101 = rconv r101 := by kernel_rfl
noncomputable def r102_body : RCode := (.seq (.run x102_0) (.seq (.run x102_1) .ret))
noncomputable def r102 : RFunc ⊕ Nat := .inl ⟨2, 9, r102_body, [.tmp 4]⟩
theorem q102 : c102 = rconv r102 := by kernel_rfl
noncomputable def r103_body : RCode := (.seq (.run x103_0) (.seq (.seq (.run x103_1) (.cond (.tmp 8) (.seq (.old (.reg [2] c103_2)) .ret) .skip)) (.seq (.run x103_3) .ret)))
noncomputable def r103 : RFunc ⊕ Nat := .inl ⟨1, 12, r103_body, [.tmp 2]⟩
theorem q103 : c103 = rconv r103 := by kernel_rfl
noncomputable def r104_7 : RCode := (.seq (.run x104_3) (.seq (.cond (.tmp 10) .skip (.exit 0)) (.seq (.block 1 (.seq (.run x104_4) (.run x104_5))) (.run x104_6))))
noncomputable def r104_body : RCode := (.seq (.old (.reg [1] c104_0)) (.seq (.old (.reg [1, 3] c104_1)) (.seq (.seq (.old (.reg [3, 7, 8, 9] c104_2)) (.block 0 (.loop [3, 7, 8, 9] r104_7))) (.seq (.old (.reg [2] c104_8)) .ret))))
noncomputable def r104 : RFunc ⊕ Nat := .inl ⟨1, 19, r104_body, [.tmp 2]⟩
theorem q104 : c104 = rconv r104 := by kernel_rfl
noncomputable def r105_body : RCode := (.seq (.old (.reg [0] c105_0)) (.seq (.run x105_1) .ret))
noncomputable def r105 : RFunc ⊕ Nat := .inl ⟨1, 9, r105_body, [.tmp 2]⟩
theorem q105 : c105 = rconv r105 := by kernel_rfl
noncomputable def r106_body : RCode := (.seq (.run x106_0) (.seq (.run x106_1) .ret))
noncomputable def r106 : RFunc ⊕ Nat := .inl ⟨2, 13, r106_body, [.tmp 3]⟩
theorem q106 : c106 = rconv r106 := by kernel_rfl
noncomputable def r107_7 : RCode := (.seq (.run x107_2) (.seq (.cond (.tmp 8) .skip (.exit 0)) (.seq (.block 1 (.seq (.run x107_3) (.seq (.run x107_4) (.cond (.tmp 29) (.seq (.old (.reg [2] c107_5)) .ret) .skip)))) (.run x107_6))))
noncomputable def r107_body : RCode := (.seq (.old (.reg [0] c107_0)) (.seq (.seq (.run x107_1) (.block 0 (.loop [0, 5, 6, 7] r107_7))) (.seq (.old (.reg [2] c107_8)) .ret)))
noncomputable def r107 : RFunc ⊕ Nat := .inl ⟨1, 31, r107_body, [.tmp 2]⟩
theorem q107 : c107 = rconv r107 := by kernel_rfl
noncomputable def r108_body : RCode := (.seq (.old (.reg [0, 1] c108_0)) (.seq (.run x108_1) .ret))
noncomputable def r108 : RFunc ⊕ Nat := .inl ⟨2, 9, r108_body, [.tmp 4]⟩
theorem q108 : c108 = rconv r108 := by kernel_rfl
noncomputable def r109_body : RCode := (.seq (.run x109_0) (.seq (.run x109_1) .ret))
noncomputable def r109 : RFunc ⊕ Nat := .inl ⟨2, 8, r109_body, [.tmp 3]⟩
theorem q109 : c109 = rconv r109 := by kernel_rfl
noncomputable def r110_body : RCode := (.seq (.run x110_0) (.seq (.run x110_1) (.seq (.run x110_2) (.seq (.seq (.run x110_3) (.block 0 (.seq (.run x110_4) (.cond (.tmp 12) (.seq (.old (.dreg [1, 2, 5] c110_5 c110_5b)) (.run x110_6)) (.seq (.run x110_7) (.cond (.tmp 29) (.seq (.old (.dreg [1, 2, 5] c110_8 c110_8b)) (.run x110_9)) (.seq (.old (.reg [1, 2, 5, 6, 11, 46] c110_10)) (.cond (.tmp 46) .skip (.seq (.old (.reg [1, 2, 5, 11, 48] c110_11)) (.cond (.tmp 48) (.seq (.old (.dreg [1, 2, 5] c110_12 c110_12b)) (.old (.reg [2, 5, 6] c110_13))) (.seq (.old (.reg [2, 5, 11, 81] c110_14)) (.cond (.tmp 81) (.seq (.old (.dreg [2, 5] c110_15 c110_15b)) (.old (.reg [2, 5, 6] c110_16))) (.seq (.old (.reg [2, 5, 129] c110_17)) (.cond (.tmp 129) (.seq (.old (.dreg [2, 5] c110_18 c110_18b)) (.old (.reg [2, 5, 6] c110_19))) (.seq (.old (.reg [4] c110_20)) .ret))))))))))))))) (.seq (.run x110_21) .ret)))))
noncomputable def r110 : RFunc ⊕ Nat := .inl ⟨2, 159, r110_body, [.tmp 4]⟩
theorem q110 : c110 = rconv r110 := by kernel_rfl
noncomputable def r111_15 : RCode := (.seq (.seq (.run x111_1) (.cond (.tmp 19) .skip (.exit 0))) (.block 1 (.seq (.run x111_2) (.seq (.old (.dreg [0, 3, 4, 5, 6, 7] c111_3 c111_3b)) (.seq (.seq (.run x111_4) (.block 2 (.seq (.run x111_5) (.cond (.tmp 36) (.seq (.seq (.old (.reg [0, 3, 4, 5, 6, 8, 9] c111_6)) (.seq (.old (.reg [0, 3, 4, 5, 6, 8, 46] c111_7)) (.cond (.tmp 46) (.old (.reg [0, 3, 4, 5, 6] c111_8)) .skip))) (.old (.reg [0, 3, 4] c111_9))) (.seq (.run x111_10) (.cond (.tmp 52) (.seq (.old (.reg [0, 3, 4, 5, 56] c111_11)) (.cond (.tmp 56) (.old (.reg [0, 3, 4] c111_12)) .skip)) (.seq (.run x111_13) .ret))))))) (.old (.reg [0, 3, 4] c111_14)))))))
noncomputable def r111_body : RCode := (.seq (.run x111_0) (.seq (.block 0 (.loop [0, 3, 4] r111_15)) (.seq (.run x111_16) .ret)))
noncomputable def r111 : RFunc ⊕ Nat := .inl ⟨2, 72, r111_body, [.cellN 4 5]⟩
theorem q111 : c111 = rconv r111 := by kernel_rfl
noncomputable def r112_body : RCode := (.seq (.run x112_0) (.seq (.seq (.run x112_1) (.cond (.tmp 13) (.seq (.run x112_2) .ret) .skip)) (.seq (.run x112_3) .ret)))
noncomputable def r112 : RFunc ⊕ Nat := .inl ⟨2, 19, r112_body, [.tmp 4]⟩
theorem q112 : c112 = rconv r112 := by kernel_rfl
noncomputable def r113_body : RCode := (.seq (.run x113_0) (.seq (.run x113_1) (.seq (.seq (.run x113_2) (.cond (.tmp 22) (.seq (.run x113_3) .ret) .skip)) (.seq (.run x113_4) (.seq (.seq (.run x113_5) (.cond (.tmp 36) (.seq (.old (.reg [6, 7] c113_6)) .ret) .skip)) (.seq (.run x113_7) .ret))))))
noncomputable def r113 : RFunc ⊕ Nat := .inl ⟨3, 39, r113_body, [.cellN 6 9, .tmp 7]⟩
theorem q113 : c113 = rconv r113 := by kernel_rfl
noncomputable def r114_body : RCode := (.seq (.run x114_0) (.seq (.seq (.run x114_1) (.block 0 (.seq (.run x114_2) (.cond (.tmp 10) (.seq (.old (.dreg [6, 7] c114_3 c114_3b)) .ret) (.seq (.old (.reg [2, 3, 4, 6, 9, 19] c114_4)) (.cond (.tmp 19) (.seq (.run x114_5) .ret) (.seq (.old (.reg [2, 3, 4, 6, 25] c114_6)) (.cond (.tmp 25) (.seq (.seq (.old (.reg [2, 3, 4, 6, 32] c114_7)) (.cond (.tmp 32) (.seq (.old (.dreg [6, 7] c114_8 c114_8b)) .ret) .skip)) (.seq (.old (.reg [6, 7] c114_9)) .ret)) .skip)))))))) (.seq (.old (.reg [6, 7] c114_10)) .ret)))
noncomputable def r114 : RFunc ⊕ Nat := .inl ⟨3, 46, r114_body, [.cellN 6 6, .tmp 7]⟩
theorem q114 : c114 = rconv r114 := by kernel_rfl
noncomputable def r116_body : RCode := (.seq (.run x116_0) (.seq (.run x116_1) (.seq (.seq (.run x116_2) (.cond (.tmp 19) (.seq (.old (.reg [8] c116_3)) .ret) .skip)) (.seq (.seq (.run x116_4) (.cond (.tmp 28) (.run x116_5) .skip)) (.seq (.run x116_6) (.seq (.old (.dreg [8] c116_7 c116_7b)) .ret))))))
noncomputable def r116 : RFunc ⊕ Nat := .inl ⟨4, 42, r116_body, [.cellN 8 5]⟩
theorem q116 : c116 = rconv r116 := by kernel_rfl
noncomputable def r142_8 : RCode := (.seq (.run x142_3) (.seq (.cond (.tmp 9) .skip (.exit 0)) (.seq (.block 1 (.seq (.run x142_4) (.seq (.run x142_5) (.cond (.tmp 14) (.seq (.old (.reg [2] c142_6)) .ret) .skip)))) (.run x142_7))))
noncomputable def r142_body : RCode := (.seq (.old (.reg [0] c142_0)) (.seq (.old (.reg [0, 3] c142_1)) (.seq (.seq (.run x142_2) (.block 0 (.loop [3, 6, 7, 8] r142_8))) (.seq (.old (.reg [2] c142_9)) .ret))))
noncomputable def r142 : RFunc ⊕ Nat := .inl ⟨1, 18, r142_body, [.tmp 2]⟩
theorem q142 : c142 = rconv r142 := by kernel_rfl
noncomputable def r143_11 : RCode := (.seq (.old (.reg [0, 1, 2, 11, 12, 13, 14] c143_2)) (.seq (.cond (.tmp 14) .skip (.exit 0)) (.seq (.block 1 (.seq (.run x143_3) (.seq (.seq (.run x143_4) (.cond (.tmp 21) (.seq (.old (.reg [6] c143_5)) .ret) .skip)) (.seq (.run x143_6) (.seq (.run x143_7) (.seq (.old (.reg [0, 1, 2, 10, 11, 12, 13, 31] c143_8)) (.cond (.tmp 31) (.seq (.old (.reg [6] c143_9)) .ret) .skip))))))) (.old (.reg [0, 1, 2, 11, 12, 13] c143_10)))))
noncomputable def r143_body : RCode := (.seq (.old (.reg [0, 1, 2] c143_0)) (.seq (.seq (.old (.reg [0, 1, 2, 11, 12, 13] c143_1)) (.block 0 (.loop [0, 1, 2, 11, 12, 13] r143_11))) (.seq (.seq (.old (.reg [38] c143_12)) (.cond (.tmp 38) (.seq (.old (.reg [6] c143_13)) .ret) .skip)) (.seq (.old (.reg [6] c143_14)) .ret))))
noncomputable def r143 : RFunc ⊕ Nat := .inl ⟨3, 39, r143_body, [.tmp 6]⟩
theorem q143 : c143 = rconv r143 := by kernel_rfl
noncomputable def r144_body : RCode := (.seq (.old (.reg [2, 3] c144_0)) (.seq (.old (.dreg [4] c144_1 c144_1b)) .ret))
noncomputable def r144 : RFunc ⊕ Nat := .inl ⟨2, 37, r144_body, [.tmp 4]⟩
theorem q144 : c144 = rconv r144 := by kernel_rfl
noncomputable def r145_11 : RCode := (.seq (.run x145_2) (.seq (.cond (.tmp 12) .skip (.exit 0)) (.seq (.block 1 (.seq (.run x145_3) (.seq (.seq (.run x145_4) (.cond (.tmp 19) (.seq (.old (.reg [4] c145_5)) .ret) .skip)) (.seq (.run x145_6) (.seq (.run x145_7) (.seq (.run x145_8) (.cond (.tmp 28) (.seq (.old (.reg [4] c145_9)) .ret) .skip))))))) (.run x145_10))))
noncomputable def r145_body : RCode := (.seq (.old (.reg [0, 1] c145_0)) (.seq (.seq (.old (.reg [0, 1, 9, 10, 11] c145_1)) (.block 0 (.loop [0, 1, 9, 10, 11] r145_11))) (.seq (.seq (.old (.reg [35] c145_12)) (.cond (.tmp 35) (.seq (.old (.reg [4] c145_13)) .ret) .skip)) (.seq (.old (.reg [4] c145_14)) .ret))))
noncomputable def r145 : RFunc ⊕ Nat := .inl ⟨2, 36, r145_body, [.tmp 4]⟩
theorem q145 : c145 = rconv r145 := by kernel_rfl
noncomputable def r146_11 : RCode := (.seq (.old (.reg [0, 1, 2, 11, 12, 13, 14] c146_2)) (.seq (.cond (.tmp 14) .skip (.exit 0)) (.seq (.block 1 (.seq (.old (.reg [0, 1, 2, 7, 8, 11, 12, 13] c146_3)) (.seq (.seq (.old (.reg [0, 1, 2, 7, 8, 11, 12, 13, 21] c146_4)) (.cond (.tmp 21) (.seq (.old (.reg [6] c146_5)) .ret) .skip)) (.seq (.old (.reg [0, 1, 2, 8, 9, 11, 12, 13] c146_6)) (.seq (.old (.reg [0, 1, 2, 10, 11, 12, 13] c146_7)) (.seq (.old (.reg [0, 1, 2, 10, 11, 12, 13, 31] c146_8)) (.cond (.tmp 31) (.seq (.old (.reg [6] c146_9)) .ret) .skip))))))) (.old (.reg [0, 1, 2, 11, 12, 13] c146_10)))))
noncomputable def r146_body : RCode := (.seq (.old (.reg [0, 1, 2] c146_0)) (.seq (.seq (.old (.reg [0, 1, 2, 11, 12, 13] c146_1)) (.block 0 (.loop [0, 1, 2, 11, 12, 13] r146_11))) (.seq (.seq (.old (.reg [38] c146_12)) (.cond (.tmp 38) (.seq (.old (.reg [6] c146_13)) .ret) .skip)) (.seq (.old (.reg [6] c146_14)) .ret))))
noncomputable def r146 : RFunc ⊕ Nat := .inl ⟨3, 39, r146_body, [.tmp 6]⟩
theorem q146 : c146 = rconv r146 := by kernel_rfl
noncomputable def r147_7 : RCode := (.seq (.old (.reg [3, 7, 8, 9, 10] c147_3)) (.seq (.cond (.tmp 10) .skip (.exit 0)) (.seq (.block 1 (.seq (.run x147_4) (.run x147_5))) (.old (.reg [3, 7, 8, 9] c147_6)))))
noncomputable def r147_body : RCode := (.seq (.old (.reg [1] c147_0)) (.seq (.old (.reg [1, 3] c147_1)) (.seq (.seq (.old (.reg [3, 7, 8, 9] c147_2)) (.block 0 (.loop [3, 7, 8, 9] r147_7))) (.seq (.old (.reg [2] c147_8)) .ret))))
noncomputable def r147 : RFunc ⊕ Nat := .inl ⟨1, 23, r147_body, [.tmp 2]⟩
theorem q147 : c147 = rconv r147 := by kernel_rfl
noncomputable def r158_7 : RCode := (.seq (.run x158_3) (.seq (.cond (.tmp 17) .skip (.exit 0)) (.seq (.block 1 (.seq (.run x158_4) (.old (.dreg [2, 3, 14, 15, 16] c158_5 c158_5b)))) (.run x158_6))))
noncomputable def r158_body : RCode := (.seq (.old (.reg [1, 2] c158_0)) (.seq (.old (.dreg [1, 2, 3] c158_1 c158_1b)) (.seq (.seq (.old (.reg [2, 3, 14, 15, 16] c158_2)) (.block 0 (.loop [2, 3, 14, 15, 16] r158_7))) (.seq (.old (.reg [2] c158_8)) .ret))))
noncomputable def r158 : RFunc ⊕ Nat := .inl ⟨1, 29, r158_body, [.cellN 2 3]⟩
theorem q158 : c158 = rconv r158 := by kernel_rfl
noncomputable def r159_18 : RCode := (.seq (.run x159_12) (.seq (.cond (.tmp 76) .skip (.exit 2)) (.seq (.block 3 (.seq (.run x159_13) (.seq (.run x159_14) (.seq (.run x159_15) (.cond (.tmp 98) (.old (.reg [0, 3, 4, 13, 75] c159_16)) .skip))))) (.run x159_17))))
noncomputable def r159_20 : RCode := (.seq (.run x159_3) (.seq (.cond (.tmp 14) .skip (.exit 0)) (.seq (.block 1 (.seq (.run x159_4) (.seq (.old (.dreg [0, 3, 4, 5, 6, 13] c159_5 c159_5b)) (.seq (.run x159_6) (.seq (.seq (.run x159_7) (.cond (.tmp 52) (.run x159_8) .skip)) (.seq (.seq (.run x159_9) (.cond (.tmp 70) (.old (.reg [0, 3, 4, 13] c159_10)) .skip)) (.seq (.run x159_11) (.block 2 (.loop [0, 3, 4, 13, 75] r159_18))))))))) (.run x159_19))))
noncomputable def r159_body : RCode := (.seq (.run x159_0) (.seq (.run x159_1) (.seq (.seq (.run x159_2) (.block 0 (.loop [0, 3, 13] r159_20))) (.seq (.run x159_21) .ret))))
noncomputable def r159 : RFunc ⊕ Nat := .inl ⟨1, 109, r159_body, [.tmp 2]⟩
theorem q159 : c159 = rconv r159 := by kernel_rfl
noncomputable def r161_body : RCode := (.seq (.run x161_0) (.seq (.seq (.run x161_1) (.cond (.tmp 11) (.seq (.old (.reg [4, 5] c161_2)) .ret) .skip)) (.seq (.run x161_3) (.seq (.block 0 (.seq (.run x161_4) (.cond (.tmp 21) (.run x161_5) (.seq (.old (.reg [0, 1, 4, 6, 27] c161_6)) (.cond (.tmp 27) (.old (.reg [0, 1, 4, 6] c161_7)) (.old (.reg [0, 1, 4, 6] c161_8))))))) (.seq (.run x161_9) (.seq (.old (.dreg [4, 6] c161_10 c161_10b)) (.seq (.run x161_11) .ret)))))))
noncomputable def r161 : RFunc ⊕ Nat := .inl ⟨2, 47, r161_body, [.cellN 4 7, .tmp 5]⟩
theorem q161 : c161 = rconv r161 := by kernel_rfl
noncomputable def r164_body : RCode := (.seq (.run x164_0) (.seq (.run x164_1) .ret))
noncomputable def r164 : RFunc ⊕ Nat := .inl ⟨2, 22, r164_body, [.tmp 4]⟩
theorem q164 : c164 = rconv r164 := by kernel_rfl
noncomputable def r166_body : RCode := (.seq (.run x166_0) (.seq (.run x166_1) .ret))
noncomputable def r166 : RFunc ⊕ Nat := .inl ⟨1, 16, r166_body, [.tmp 2]⟩
theorem q166 : c166 = rconv r166 := by kernel_rfl
noncomputable def r171_7 : RCode := (.seq (.run x171_2) (.seq (.cond (.tmp 9) .skip (.exit 0)) (.seq (.block 1 (.seq (.run x171_3) (.seq (.run x171_4) (.cond (.tmp 16) (.seq (.old (.reg [4] c171_5)) .ret) .skip)))) (.run x171_6))))
noncomputable def r171_body : RCode := (.seq (.old (.reg [0, 1] c171_0)) (.seq (.seq (.run x171_1) (.block 0 (.loop [0, 1, 7, 8] r171_7))) (.seq (.old (.reg [4] c171_8)) .ret)))
noncomputable def r171 : RFunc ⊕ Nat := .inl ⟨2, 19, r171_body, [.tmp 4]⟩
theorem q171 : c171 = rconv r171 := by kernel_rfl
noncomputable def r172_body : RCode := (.seq (.run x172_0) (.seq (.run x172_1) .ret))
noncomputable def r172 : RFunc ⊕ Nat := .inl ⟨1, 16, r172_body, [.tmp 2]⟩
theorem q172 : c172 = rconv r172 := by kernel_rfl
noncomputable def r173_body : RCode := (.seq (.old (.reg [0] c173_0)) (.seq (.run x173_1) .ret))
noncomputable def r173 : RFunc ⊕ Nat := .inl ⟨1, 9, r173_body, [.tmp 2]⟩
theorem q173 : c173 = rconv r173 := by kernel_rfl
noncomputable def r174_body : RCode := (.seq (.run x174_0) (.seq (.seq (.run x174_1) (.cond (.tmp 12) (.seq (.run x174_2) .ret) .skip)) (.seq (.run x174_3) .ret)))
noncomputable def r174 : RFunc ⊕ Nat := .inl ⟨2, 20, r174_body, [.tmp 4]⟩
theorem q174 : c174 = rconv r174 := by kernel_rfl
noncomputable def r176_body : RCode := (.seq (.run x176_0) (.cond (.tmp 11) (.run x176_1) .skip))
noncomputable def r176 : RFunc ⊕ Nat := .inl ⟨3, 18, r176_body, []⟩
theorem q176 : c176 = rconv r176 := by kernel_rfl
noncomputable def r180_10 : RCode := (.seq (.seq (.run x180_8) (.cond (.tmp 37) .skip (.exit 0))) (.block 1 (.old (.dreg [7, 8] c180_9 c180_9b))))
noncomputable def r180_body : RCode := (.seq (.old (.reg [0, 1] c180_0)) (.seq (.seq (.old (.reg [0, 1, 10] c180_1)) (.cond (.tmp 10) (.old (.reg [0, 1] c180_2)) .skip)) (.seq (.run x180_3) (.seq (.seq (.old (.reg [0, 6, 26] c180_4)) (.cond (.tmp 26) (.old (.reg [0, 6] c180_5)) .skip)) (.seq (.old (.reg [0, 7] c180_6)) (.seq (.old (.reg [7, 8] c180_7)) (.seq (.block 0 (.loop [7, 8] r180_10)) (.seq (.old (.reg [4] c180_11)) .ret))))))))
noncomputable def r180 : RFunc ⊕ Nat := .inl ⟨2, 48, r180_body, [.tmp 4]⟩
theorem q180 : c180 = rconv r180 := by kernel_rfl
noncomputable def r197_body : RCode := (.seq (.run x197_0) (.seq (.run x197_1) (.seq (.run x197_2) (.seq (.seq (.run x197_3) (.cond (.tmp 11) (.seq (.seq (.old (.reg [12] c197_4)) (.cond (.tmp 12) (.seq (.old (.reg [4] c197_5)) .ret) .skip)) (.seq (.old (.reg [4] c197_6)) .ret)) .skip)) (.seq (.seq (.run x197_7) (.cond (.tmp 13) (.seq (.old (.reg [4] c197_8)) .ret) .skip)) (.seq (.seq (.run x197_9) (.cond (.tmp 16) (.seq (.old (.reg [4] c197_10)) .ret) .skip)) (.seq (.seq (.run x197_11) (.cond (.tmp 19) (.seq (.old (.reg [4] c197_12)) .ret) .skip)) (.seq (.run x197_13) .ret))))))))
noncomputable def r197 : RFunc ⊕ Nat := .inl ⟨2, 20, r197_body, [.tmp 4]⟩
theorem q197 : c197 = rconv r197 := by kernel_rfl
noncomputable def r198_body : RCode := (.seq (.run x198_0) (.seq (.run x198_1) (.seq (.run x198_2) (.seq (.seq (.run x198_3) (.cond (.tmp 11) (.seq (.seq (.old (.reg [12] c198_4)) (.cond (.tmp 12) (.seq (.old (.reg [4] c198_5)) .ret) .skip)) (.seq (.old (.reg [4] c198_6)) .ret)) .skip)) (.seq (.seq (.run x198_7) (.cond (.tmp 13) (.seq (.old (.reg [4] c198_8)) .ret) .skip)) (.seq (.seq (.run x198_9) (.cond (.tmp 16) (.seq (.old (.reg [4] c198_10)) .ret) .skip)) (.seq (.seq (.run x198_11) (.cond (.tmp 19) (.seq (.old (.reg [4] c198_12)) .ret) .skip)) (.seq (.run x198_13) .ret))))))))
noncomputable def r198 : RFunc ⊕ Nat := .inl ⟨2, 20, r198_body, [.tmp 4]⟩
theorem q198 : c198 = rconv r198 := by kernel_rfl
noncomputable def r208_body : RCode := (.seq (.old (.reg [0] c208_0)) (.seq (.seq (.old (.reg [0, 4] c208_1)) (.cond (.tmp 4) (.seq (.old (.reg [2] c208_2)) .ret) .skip)) (.seq (.old (.reg [2] c208_3)) .ret)))
noncomputable def r208 : RFunc ⊕ Nat := .inl ⟨1, 8, r208_body, [.tmp 2]⟩
theorem q208 : c208 = rconv r208 := by kernel_rfl
noncomputable def r209_body : RCode := (.seq (.old (.reg [0] c209_0)) (.seq (.seq (.old (.reg [0, 4] c209_1)) (.cond (.tmp 4) (.seq (.old (.reg [2] c209_2)) .ret) .skip)) (.seq (.old (.reg [2] c209_3)) .ret)))
noncomputable def r209 : RFunc ⊕ Nat := .inl ⟨1, 8, r209_body, [.tmp 2]⟩
theorem q209 : c209 = rconv r209 := by kernel_rfl
noncomputable def r210_body : RCode := (.seq (.old (.reg [0] c210_0)) (.seq (.seq (.run x210_1) (.cond (.tmp 4) (.seq (.old (.reg [2] c210_2)) .ret) .skip)) (.seq (.run x210_3) .ret)))
noncomputable def r210 : RFunc ⊕ Nat := .inl ⟨1, 8, r210_body, [.tmp 2]⟩
theorem q210 : c210 = rconv r210 := by kernel_rfl
noncomputable def r211_body : RCode := (.seq (.run x211_0) (.seq (.run x211_1) (.seq (.old (.dreg [0, 1, 4, 5, 6] c211_2 c211_2b)) (.seq (.old (.qreg [0, 1, 4, 5, 6, 8, 9] c211_3)) (.seq (.seq (.old (.dreg [0, 1, 4, 5, 6, 8, 9, 10, 11, 12] c211_4 c211_4b)) (.seq (.run x211_5) (.cond (.tmp 59) (.old (.reg [0, 1, 4, 5, 6, 8, 9] c211_6)) .skip))) (.seq (.run x211_7) (.seq (.seq (.run x211_8) (.cond (.tmp 70) (.old (.reg [0, 1, 4, 5, 8, 9, 13] c211_9)) .skip)) (.seq (.run x211_10) (.seq (.block 0 (.seq (.run x211_11) (.cond (.tmp 76) (.old (.dreg [0, 1, 4, 5, 8, 9, 13] c211_12 c211_12b)) (.seq (.run x211_13) (.cond (.tmp 104) (.old (.dreg [0, 1, 4, 5, 8, 9, 13] c211_14 c211_14b)) .skip))))) (.seq (.old (.dreg [1, 4, 9, 13] c211_15 c211_15b)) (.seq (.run x211_16) .ret)))))))))))
noncomputable def r211 : RFunc ⊕ Nat := .inl ⟨2, 146, r211_body, [.cellN 4 7]⟩
theorem q211 : c211 = rconv r211 := by kernel_rfl
noncomputable def r223_body : RCode := (.seq (.old (.reg [0, 1] c223_0)) (.seq (.cond (.const (.bool false)) (.seq (.old (.reg [6, 7] c223_1)) (.seq (.old (.reg [4, 5] c223_2)) .ret)) .skip) (.seq (.old (.reg [8, 9] c223_3)) (.seq (.old (.reg [4, 5] c223_4)) .ret))))
noncomputable def r223 : RFunc ⊕ Nat := .inl ⟨2, 30, r223_body, [.tmp 4, .tmp 5]⟩
theorem q223 : c223 = rconv r223 := by kernel_rfl
noncomputable def r229_body : RCode := (.seq (.run x229_0) (.seq (.run x229_1) .ret))
noncomputable def r229 : RFunc ⊕ Nat := .inl ⟨1, 6, r229_body, [.tmp 2]⟩
theorem q229 : c229 = rconv r229 := by kernel_rfl
noncomputable def r230_body : RCode := (.seq (.run x230_0) (.seq (.run x230_1) .ret))
noncomputable def r230 : RFunc ⊕ Nat := .inl ⟨1, 6, r230_body, [.tmp 2]⟩
theorem q230 : c230 = rconv r230 := by kernel_rfl
noncomputable def r250_body : RCode := (.seq (.old (.reg [0, 1] c250_0)) (.seq (.old (.reg [0, 1, 6] c250_1)) (.seq (.old (.reg [0, 1, 6, 7] c250_2)) (.seq (.old (.reg [0, 1, 6, 7, 8] c250_3)) (.seq (.old (.reg [0, 1, 6, 7, 8, 9] c250_4)) (.seq (.old (.reg [0, 1, 6, 7, 8, 9, 10] c250_5)) (.seq (.old (.reg [0, 1, 6, 7, 9, 11] c250_6)) (.seq (.old (.reg [0, 1, 6, 7, 9, 11, 12] c250_7)) (.seq (.old (.reg [0, 1, 6, 7, 9, 12, 13] c250_8)) (.seq (.old (.reg [0, 1, 7, 9, 12, 13] c250_9)) (.seq (.old (.reg [0, 1, 4] c250_10)) (.seq (.old (.reg [4, 5] c250_11)) .ret))))))))))))
noncomputable def r250 : RFunc ⊕ Nat := .inl ⟨2, 51, r250_body, [.tmp 4, .tmp 5]⟩
theorem q250 : c250 = rconv r250 := by kernel_rfl
noncomputable def r269_body : RCode := (.seq (.old (.reg [] c269_0)) (.seq (.old (.reg [1, 2] c269_1)) (.seq (.old (.reg [1, 2, 4] c269_2)) (.seq (.old (.reg [0] c269_3)) .ret))))
noncomputable def r269 : RFunc ⊕ Nat := .inl ⟨0, 47, r269_body, [.tmp 0]⟩
theorem q269 : c269 = rconv r269 := by kernel_rfl
noncomputable def r272_body : RCode := (.seq (.old (.reg [1, 2, 3, 6] c272_0)) (.seq (.run x272_1) (.seq (.seq (.run x272_2) (.cond (.tmp 26) (.seq (.old (.reg [6, 7] c272_3)) .ret) .skip)) (.seq (.old (.reg [6, 7] c272_4)) .ret))))
noncomputable def r272 : RFunc ⊕ Nat := .inl ⟨3, 32, r272_body, [.cellN 6 3, .tmp 7]⟩
theorem q272 : c272 = rconv r272 := by kernel_rfl
noncomputable def r273_body : RCode := (.seq (.old (.reg [1, 2, 3, 4] c273_0)) (.seq (.old (.reg [1, 3, 4, 9, 10] c273_1)) (.seq (.old (.reg [9, 10, 11, 12] c273_2)) (.seq (.old (.reg [8] c273_3)) .ret))))
noncomputable def r273 : RFunc ⊕ Nat := .inl ⟨4, 36, r273_body, [.tmp 8]⟩
theorem q273 : c273 = rconv r273 := by kernel_rfl
noncomputable def r277_body : RCode := (.seq (.old (.reg [1, 2, 3] c277_0)) (.seq (.run x277_1) (.seq (.seq (.old (.reg [7, 9, 18] c277_2)) (.cond (.tmp 18) (.seq (.old (.reg [6, 7, 8] c277_3)) .ret) .skip)) (.seq (.run x277_4) .ret))))
noncomputable def r277 : RFunc ⊕ Nat := .inl ⟨3, 24, r277_body, [.tmp 6, .tmp 7, .tmp 8]⟩
theorem q277 : c277 = rconv r277 := by kernel_rfl
noncomputable def r278_15 : RCode := (.seq (.run x278_8) (.seq (.cond (.tmp 31) .skip (.exit 2)) (.seq (.block 3 (.seq (.run x278_9) (.seq (.run x278_10) (.cond (.tmp 43) (.seq (.run x278_11) (.seq (.run x278_12) (.run x278_13))) .skip)))) (.run x278_14))))
noncomputable def r278_17 : RCode := (.seq (.old (.reg [1, 2, 3, 6, 7, 8, 24, 25, 26] c278_4)) (.seq (.cond (.tmp 26) .skip (.exit 0)) (.seq (.block 1 (.seq (.old (.reg [1, 2, 3, 6, 7, 8, 9, 24, 25] c278_5)) (.seq (.old (.reg [1, 2, 3, 6, 7, 8, 9, 10, 24, 25] c278_6)) (.seq (.old (.reg [1, 2, 3, 6, 7, 8, 9, 10, 24, 25, 28, 29, 30] c278_7)) (.block 2 (.loop [1, 2, 3, 6, 7, 8, 9, 10, 24, 25, 28, 29, 30] r278_15)))))) (.old (.reg [1, 2, 3, 6, 7, 8, 24, 25] c278_16)))))
noncomputable def r278_24 : RCode := (.seq (.old (.reg [1, 2, 6, 7, 8, 78, 79, 80] c278_20)) (.seq (.cond (.tmp 80) .skip (.exit 4)) (.seq (.block 5 (.seq (.old (.reg [1, 2, 6, 7, 8, 13, 78, 79] c278_21)) (.run x278_22))) (.old (.reg [1, 2, 6, 7, 8, 78, 79] c278_23)))))
noncomputable def r278_37 : RCode := (.seq (.run x278_26) (.seq (.cond (.tmp 93) .skip (.exit 6)) (.seq (.block 7 (.seq (.run x278_27) (.seq (.seq (.run x278_28) (.cond (.tmp 98) (.seq (.old (.dreg [1, 6, 7, 8, 14, 15, 90, 91, 92] c278_29 c278_29b)) (.seq (.old (.reg [1, 6, 7, 8, 14, 15, 90, 91, 92, 110] c278_30)) (.cond (.tmp 110) (.old (.dreg [1, 6, 7, 8, 14, 15, 90, 91, 92] c278_31 c278_31b)) .skip))) .skip)) (.block 8 (.seq (.run x278_32) (.cond (.tmp 123) (.old (.dreg [1, 6, 7, 8, 90, 91, 92] c278_33 c278_33b)) (.seq (.run x278_34) (.cond (.tmp 145) (.old (.dreg [1, 6, 7, 8, 90, 91, 92] c278_35 c278_35b)) .skip)))))))) (.run x278_36))))
noncomputable def r278_body : RCode := (.seq (.old (.reg [1, 2, 3, 6] c278_0)) (.seq (.old (.reg [1, 2, 3, 6, 7] c278_1)) (.seq (.old (.reg [1, 2, 3, 6, 7, 8] c278_2)) (.seq (.seq (.old (.reg [1, 2, 3, 6, 7, 8, 24, 25] c278_3)) (.block 0 (.loop [1, 2, 3, 6, 7, 8, 24, 25] r278_17))) (.seq (.old (.reg [1, 2, 3, 6, 7, 8] c278_18)) (.seq (.seq (.old (.reg [1, 2, 6, 7, 8, 78, 79] c278_19)) (.block 4 (.loop [1, 2, 6, 7, 8, 78, 79] r278_24))) (.seq (.seq (.old (.reg [1, 6, 7, 8, 90, 91, 92] c278_25)) (.block 6 (.loop [1, 6, 7, 8, 90, 91, 92] r278_37))) (.seq (.old (.reg [6] c278_38)) .ret))))))))
noncomputable def r278 : RFunc ⊕ Nat := .inl ⟨3, 168, r278_body, [.cellN 6 3]⟩
theorem q278 : c278 = rconv r278 := by kernel_rfl
noncomputable def r279_body : RCode := (.seq (.old (.reg [2, 3] c279_0)) (.seq (.old (.reg [4] c279_1)) .ret))
noncomputable def r279 : RFunc ⊕ Nat := .inl ⟨2, 9, r279_body, [.tmp 4]⟩
theorem q279 : c279 = rconv r279 := by kernel_rfl
noncomputable def r283_11 : RCode := (.seq (.run x283_5) (.seq (.cond (.tmp 25) .skip (.exit 0)) (.seq (.block 1 (.seq (.run x283_6) (.seq (.run x283_7) (.seq (.run x283_8) (.cond (.tmp 36) (.seq (.old (.reg [6, 7] c283_9)) .ret) .skip))))) (.run x283_10))))
noncomputable def r283_body : RCode := (.seq (.old (.reg [1, 2, 3] c283_0)) (.seq (.run x283_1) (.seq (.seq (.old (.reg [2, 8, 21] c283_2)) (.cond (.tmp 21) (.seq (.old (.reg [6, 7] c283_3)) .ret) .skip)) (.seq (.seq (.old (.reg [2, 8, 22, 23, 24] c283_4)) (.block 0 (.loop [2, 8, 22, 23, 24] r283_11))) (.seq (.old (.reg [6, 7] c283_12)) .ret)))))
noncomputable def r283 : RFunc ⊕ Nat := .inl ⟨3, 43, r283_body, [.tmp 6, .tmp 7]⟩
theorem q283 : c283 = rconv r283 := by kernel_rfl
noncomputable def r284_body : RCode := (.seq (.old (.reg [0] c284_0)) (.seq (.old (.reg [2] c284_1)) .ret))
noncomputable def r284 : RFunc ⊕ Nat := .inl ⟨1, 6, r284_body, [.tmp 2]⟩
theorem q284 : c284 = rconv r284 := by kernel_rfl
noncomputable def Y_L : List (Nat × (RFunc ⊕ Nat)) := [(4, r4), (11, r11), (14, r14), (15, r15), (20, r20), (46, r46), (58, r58), (59, r59), (60, r60), (79, r79), (88, r88), (92, r92), (101, r101), (102, r102), (103, r103), (104, r104), (105, r105), (106, r106), (107, r107), (108, r108), (109, r109), (110, r110), (111, r111), (112, r112), (113, r113), (114, r114), (116, r116), (142, r142), (143, r143), (144, r144), (145, r145), (146, r146), (147, r147), (158, r158), (159, r159), (161, r161), (164, r164), (166, r166), (171, r171), (172, r172), (173, r173), (174, r174), (176, r176), (180, r180), (197, r197), (198, r198), (208, r208), (209, r209), (210, r210), (211, r211), (223, r223), (229, r229), (230, r230), (250, r250), (269, r269), (272, r272), (273, r273), (277, r277), (278, r278), (279, r279), (283, r283), (284, r284)]
noncomputable def Y_T : Tri (RFunc ⊕ Nat) := (.node none (.node none (.node none (.node none (.node (some r15) (.node none .leaf (.node none (.node (some r159) .leaf .leaf) (.node (some r223) .leaf .leaf))) (.node none (.node (some r79) (.node (some r143) .leaf .leaf) .leaf) (.node (some r111) .leaf .leaf))) (.node none (.node none .leaf (.node (some r103) .leaf .leaf)) (.node none (.node none (.node none (.node (some r279) .leaf .leaf) .leaf) .leaf) .leaf))) (.node (some r11) (.node none .leaf (.node none (.node none (.node (some r147) .leaf .leaf) (.node (some r211) .leaf .leaf)) .leaf)) (.node none (.node none .leaf (.node (some r107) (.node (some r171) .leaf .leaf) .leaf)) (.node (some r59) (.node none (.node none (.node (some r283) .leaf .leaf) .leaf) .leaf) .leaf)))) (.node none (.node none (.node none (.node none .leaf (.node none (.node (some r161) .leaf .leaf) .leaf)) (.node none (.node none (.node (some r145) (.node (some r273) .leaf .leaf) .leaf) (.node (some r209) .leaf .leaf)) (.node (some r113) .leaf .leaf))) (.node none (.node none .leaf (.node (some r105) .leaf .leaf)) .leaf)) (.node none (.node none (.node none (.node none .leaf (.node (some r197) .leaf .leaf)) (.node (some r101) .leaf (.node (some r229) .leaf .leaf))) (.node none (.node none (.node none (.node (some r277) .leaf .leaf) .leaf) .leaf) .leaf)) (.node none (.node none (.node none (.node none (.node (some r269) .leaf .leaf) .leaf) .leaf) (.node (some r109) (.node (some r173) .leaf .leaf) .leaf)) .leaf)))) (.node none (.node (some r4) (.node none (.node none .leaf (.node none (.node none (.node (some r144) (.node (some r272) .leaf .leaf) .leaf) (.node (some r208) .leaf .leaf)) (.node (some r112) (.node (some r176) .leaf .leaf) .leaf))) (.node none (.node none .leaf (.node (some r104) .leaf .leaf)) (.node none (.node (some r88) .leaf .leaf) .leaf))) (.node none (.node (some r20) (.node none .leaf (.node none (.node (some r164) .leaf .leaf) .leaf)) (.node none .leaf (.node (some r116) (.node (some r180) .leaf .leaf) .leaf))) (.node none (.node none .leaf (.node (some r108) (.node (some r172) .leaf .leaf) .leaf)) (.node (some r60) (.node (some r92) (.node none (.node (some r284) .leaf .leaf) .leaf) .leaf) .leaf)))) (.node none (.node none (.node none .leaf (.node none (.node none (.node (some r146) .leaf .leaf) (.node (some r210) .leaf .leaf)) (.node (some r114) .leaf .leaf))) (.node none (.node none .leaf (.node (some r106) .leaf .leaf)) (.node (some r58) .leaf (.node none .leaf (.node (some r250) .leaf .leaf))))) (.node (some r14) (.node none (.node none (.node none .leaf (.node (some r198) .leaf .leaf)) (.node (some r102) (.node (some r166) .leaf .leaf) (.node (some r230) .leaf .leaf))) (.node none (.node none (.node none (.node (some r278) .leaf .leaf) .leaf) .leaf) .leaf)) (.node none (.node (some r46) (.node none (.node (some r142) .leaf .leaf) .leaf) (.node (some r110) (.node (some r174) .leaf .leaf) .leaf)) (.node none (.node none (.node (some r158) .leaf .leaf) .leaf) .leaf))))))
theorem Y_TL : Y_T = triOf Y_L := by kernel_rfl
end Go.Jq
