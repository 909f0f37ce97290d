/- Regions, and what they come to. Printed by mkres.py. -/
import Derived.Test.YthooijibekdekaaGreatDoorC2
import Derived.Test.YthooijibekdekaaGreatDoorR
import Derived.Test.YthooijibekdekaaGreatDoorX1
set_option linter.unusedSimpArgs false
set_option linter.unusedVariables false
set_option maxRecDepth 20000
set_option maxHeartbeats 4000000
namespace Go.Jq
noncomputable def p143_7 : PSigma fun r : ECall → Cur 8 => ∀ c v0 v1 v2 v8 v9 v11 v12 v13 T, regE c [0, 1, 2, 10, 11, 12, 13] c143_7 [(0, v0), (1, v1), (2, v2), (8, v8), (9, v9), (11, v11), (12, v12), (13, v13)] T = r c v0 v1 v2 v8 v9 v11 v12 v13 T := ⟨_, fun c v0 v1 v2 v8 v9 v11 v12 v13 T => Eq.trans (regA rfl rfl (sMov rfl (sV (eX_loadN rfl) fun u1 => (sV (eX_loadN rfl) fun u2 => (sM (eX_callv rfl rfl) fun u3 T => (sMov rfl (sE (F' := [(0, v0), (1, v1), (2, v2), (10, u3), (11, v11), (12, v12), (13, v13)]) rfl))))))) rfl⟩
noncomputable def x143_7 : XReg := (XReg.of [0, 1, 2, 10, 11, 12, 13] c143_7).more [0, 1, 2, 8, 9, 11, 12, 13] ⟨p143_7.1, p143_7.2⟩
noncomputable def p143_8 : PSigma fun r : ECall → Cur 7 => ∀ c v0 v1 v2 v10 v11 v12 v13 T, regE c [0, 1, 2, 10, 11, 12, 13, 31] c143_8 [(0, v0), (1, v1), (2, v2), (10, v10), (11, v11), (12, v12), (13, v13)] T = r c v0 v1 v2 v10 v11 v12 v13 T := ⟨_, fun c v0 v1 v2 v10 v11 v12 v13 T => Eq.trans (regA rfl rfl (sMov rfl (sV (eX_neq rfl rfl) fun u1 => (sE (F' := [(0, v0), (1, v1), (2, v2), (10, v10), (11, v11), (12, v12), (13, v13), (31, u1)]) rfl)))) rfl⟩
noncomputable def x143_8 : XReg := (XReg.of [0, 1, 2, 10, 11, 12, 13, 31] c143_8).more [0, 1, 2, 10, 11, 12, 13] ⟨p143_8.1, p143_8.2⟩
noncomputable def p143_10 : PSigma fun r : ECall → Cur 8 => ∀ c v0 v1 v2 v10 v11 v12 v13 v31 T, regE c [0, 1, 2, 11, 12, 13] c143_10 [(0, v0), (1, v1), (2, v2), (10, v10), (11, v11), (12, v12), (13, v13), (31, v31)] T = r c v0 v1 v2 v10 v11 v12 v13 v31 T := ⟨_, fun c v0 v1 v2 v10 v11 v12 v13 v31 T => Eq.trans (regA rfl rfl (sV (eX_add rfl rfl) fun u0 => (sMov rfl (sE (F' := [(0, v0), (1, v1), (2, v2), (11, v11), (12, v12), (13, u0)]) rfl)))) rfl⟩
noncomputable def x143_10 : XReg := (XReg.of [0, 1, 2, 11, 12, 13] c143_10).more [0, 1, 2, 10, 11, 12, 13, 31] ⟨p143_10.1, p143_10.2⟩
noncomputable def p143_12 : PSigma fun r : ECall → Cur 7 => ∀ c v0 v1 v2 v11 v12 v13 v14 T, regE c [38] c143_12 [(0, v0), (1, v1), (2, v2), (11, v11), (12, v12), (13, v13), (14, v14)] T = r c v0 v1 v2 v11 v12 v13 v14 T := ⟨_, fun c v0 v1 v2 v11 v12 v13 v14 T => Eq.trans (regA rfl rfl (sMov rfl (sV (eX_lenS rfl) fun u1 => (sMov rfl (sV (eX_lenS rfl) fun u3 => (sV (eX_lss rfl rfl) fun u4 => (sE (F' := [(38, u4)]) rfl))))))) rfl⟩
noncomputable def x143_12 : XReg := (XReg.of [38] c143_12).more [0, 1, 2, 11, 12, 13, 14] ⟨p143_12.1, p143_12.2⟩
noncomputable def p143_14 : PSigma fun r : ECall → Cur 1 => ∀ c v38 T, regE c [6] c143_14 [(38, v38)] T = r c v38 T := ⟨_, fun c v38 T => Eq.trans (regA rfl rfl (sMov rfl (sE (F' := [(6, (cv (.int .i64 (0))))]) rfl))) rfl⟩
noncomputable def x143_14 : XReg := (XReg.of [6] c143_14).more [38] ⟨p143_14.1, p143_14.2⟩
noncomputable def p144_0 : PSigma fun r : ECall → Cur 2 => ∀ c v0 v1 T, regE c [2, 3] c144_0 [(0, v0), (1, v1)] T = r c v0 v1 T := ⟨_, fun c v0 v1 T => Eq.trans (regA rfl rfl (sM (eX_box rfl) fun u0 T => (sM (eX_box rfl) fun u1 T => (sMov rfl (sE (F' := [(2, u0), (3, u1)]) rfl))))) rfl⟩
noncomputable def x144_0 : XReg := (XReg.of [2, 3] c144_0).more [0, 1] ⟨p144_0.1, p144_0.2⟩
noncomputable def p145_0 : PSigma fun r : ECall → Cur 2 => ∀ c v0 v1 T, regE c [0, 1] c145_0 [(0, v0), (1, v1)] T = r c v0 v1 T := ⟨_, fun c v0 v1 T => Eq.trans (regA rfl rfl (sMov rfl (sE (F' := [(0, v0), (1, v1)]) rfl))) rfl⟩
noncomputable def x145_0 : XReg := (XReg.of [0, 1] c145_0).more [0, 1] ⟨p145_0.1, p145_0.2⟩
noncomputable def p145_1 : PSigma fun r : ECall → Cur 2 => ∀ c v0 v1 T, regE c [0, 1, 9, 10, 11] c145_1 [(0, v0), (1, v1)] T = r c v0 v1 T := ⟨_, fun c v0 v1 T => Eq.trans (regA rfl rfl (sMov rfl (sV (eX_lenS rfl) fun u1 => (sMov rfl (sE (F' := [(0, v0), (1, v1), (9, v0), (10, u1), (11, (cv (.int .i64 (0))))]) rfl))))) rfl⟩
noncomputable def x145_1 : XReg := (XReg.of [0, 1, 9, 10, 11] c145_1).more [0, 1] ⟨p145_1.1, p145_1.2⟩
noncomputable def p145_2 : PSigma fun r : ECall → Cur 5 => ∀ c v0 v1 v9 v10 v11 T, regE c [0, 1, 9, 10, 11, 12] c145_2 [(0, v0), (1, v1), (9, v9), (10, v10), (11, v11)] T = r c v0 v1 v9 v10 v11 T := ⟨_, fun c v0 v1 v9 v10 v11 T => Eq.trans (regA rfl rfl (sV (eX_lss rfl rfl) fun u0 => (sE (F' := [(0, v0), (1, v1), (9, v9), (10, v10), (11, v11), (12, u0)]) rfl))) rfl⟩
noncomputable def x145_2 : XReg := (XReg.of [0, 1, 9, 10, 11, 12] c145_2).more [0, 1, 9, 10, 11] ⟨p145_2.1, p145_2.2⟩
noncomputable def p145_3 : PSigma fun r : ECall → Cur 6 => ∀ c v0 v1 v9 v10 v11 v12 T, regE c [0, 1, 5, 6, 9, 10, 11] c145_3 [(0, v0), (1, v1), (9, v9), (10, v10), (11, v11), (12, v12)] T = r c v0 v1 v9 v10 v11 v12 T := ⟨_, fun c v0 v1 v9 v10 v11 v12 T => Eq.trans (regA rfl rfl (sMov rfl (sV (eX_idxS rfl rfl) fun u1 => (sV (eX_load1 rfl) fun u2 => (sMov rfl (sMov rfl (sE (F' := [(0, v0), (1, v1), (5, v11), (6, u2), (9, v9), (10, v10), (11, v11)]) rfl))))))) rfl⟩
noncomputable def x145_3 : XReg := (XReg.of [0, 1, 5, 6, 9, 10, 11] c145_3).more [0, 1, 9, 10, 11, 12] ⟨p145_3.1, p145_3.2⟩
noncomputable def p145_4 : PSigma fun r : ECall → Cur 7 => ∀ c v0 v1 v5 v6 v9 v10 v11 T, regE c [0, 1, 5, 6, 9, 10, 11, 19] c145_4 [(0, v0), (1, v1), (5, v5), (6, v6), (9, v9), (10, v10), (11, v11)] T = r c v0 v1 v5 v6 v9 v10 v11 T := ⟨_, fun c v0 v1 v5 v6 v9 v10 v11 T => Eq.trans (regA rfl rfl (sMov rfl (sMov rfl (sV (eX_lenS rfl) fun u2 => (sV (eX_geq rfl rfl) fun u3 => (sE (F' := [(0, v0), (1, v1), (5, v5), (6, v6), (9, v9), (10, v10), (11, v11), (19, u3)]) rfl)))))) rfl⟩
noncomputable def x145_4 : XReg := (XReg.of [0, 1, 5, 6, 9, 10, 11, 19] c145_4).more [0, 1, 5, 6, 9, 10, 11] ⟨p145_4.1, p145_4.2⟩
noncomputable def p145_6 : PSigma fun r : ECall → Cur 8 => ∀ c v0 v1 v5 v6 v9 v10 v11 v19 T, regE c [0, 1, 6, 7, 9, 10, 11] c145_6 [(0, v0), (1, v1), (5, v5), (6, v6), (9, v9), (10, v10), (11, v11), (19, v19)] T = r c v0 v1 v5 v6 v9 v10 v11 v19 T := ⟨_, fun c v0 v1 v5 v6 v9 v10 v11 v19 T => Eq.trans (regA rfl rfl (sMov rfl (sMov rfl (sV (eX_idxS rfl rfl) fun u2 => (sV (eX_load1 rfl) fun u3 => (sMov rfl (sE (F' := [(0, v0), (1, v1), (6, v6), (7, u3), (9, v9), (10, v10), (11, v11)]) rfl))))))) rfl⟩
noncomputable def x145_6 : XReg := (XReg.of [0, 1, 6, 7, 9, 10, 11] c145_6).more [0, 1, 5, 6, 9, 10, 11, 19] ⟨p145_6.1, p145_6.2⟩
noncomputable def p145_7 : PSigma fun r : ECall → Cur 7 => ∀ c v0 v1 v6 v7 v9 v10 v11 T, regE c [0, 1, 8, 9, 10, 11] c145_7 [(0, v0), (1, v1), (6, v6), (7, v7), (9, v9), (10, v10), (11, v11)] T = r c v0 v1 v6 v7 v9 v10 v11 T := ⟨_, fun c v0 v1 v6 v7 v9 v10 v11 T => Eq.trans (regA rfl rfl (sMov rfl (sMov rfl (sM (eX_call rfl) fun u2 T => (sMov rfl (sE (F' := [(0, v0), (1, v1), (8, u2), (9, v9), (10, v10), (11, v11)]) rfl)))))) rfl⟩
noncomputable def x145_7 : XReg := (XReg.of [0, 1, 8, 9, 10, 11] c145_7).more [0, 1, 6, 7, 9, 10, 11] ⟨p145_7.1, p145_7.2⟩
noncomputable def p145_8 : PSigma fun r : ECall → Cur 6 => ∀ c v0 v1 v8 v9 v10 v11 T, regE c [0, 1, 8, 9, 10, 11, 28] c145_8 [(0, v0), (1, v1), (8, v8), (9, v9), (10, v10), (11, v11)] T = r c v0 v1 v8 v9 v10 v11 T := ⟨_, fun c v0 v1 v8 v9 v10 v11 T => Eq.trans (regA rfl rfl (sMov rfl (sV (eX_neq rfl rfl) fun u1 => (sE (F' := [(0, v0), (1, v1), (8, v8), (9, v9), (10, v10), (11, v11), (28, u1)]) rfl)))) rfl⟩
noncomputable def x145_8 : XReg := (XReg.of [0, 1, 8, 9, 10, 11, 28] c145_8).more [0, 1, 8, 9, 10, 11] ⟨p145_8.1, p145_8.2⟩
noncomputable def p145_9 : PSigma fun r : ECall → Cur 7 => ∀ c v0 v1 v8 v9 v10 v11 v28 T, regE c [4] c145_9 [(0, v0), (1, v1), (8, v8), (9, v9), (10, v10), (11, v11), (28, v28)] T = r c v0 v1 v8 v9 v10 v11 v28 T := ⟨_, fun c v0 v1 v8 v9 v10 v11 v28 T => Eq.trans (regA rfl rfl (sMov rfl (sMov rfl (sE (F' := [(4, v8)]) rfl)))) rfl⟩
noncomputable def x145_9 : XReg := (XReg.of [4] c145_9).more [0, 1, 8, 9, 10, 11, 28] ⟨p145_9.1, p145_9.2⟩
noncomputable def p145_10 : PSigma fun r : ECall → Cur 7 => ∀ c v0 v1 v8 v9 v10 v11 v28 T, regE c [0, 1, 9, 10, 11] c145_10 [(0, v0), (1, v1), (8, v8), (9, v9), (10, v10), (11, v11), (28, v28)] T = r c v0 v1 v8 v9 v10 v11 v28 T := ⟨_, fun c v0 v1 v8 v9 v10 v11 v28 T => Eq.trans (regA rfl rfl (sV (eX_add rfl rfl) fun u0 => (sMov rfl (sE (F' := [(0, v0), (1, v1), (9, v9), (10, v10), (11, u0)]) rfl)))) rfl⟩
noncomputable def x145_10 : XReg := (XReg.of [0, 1, 9, 10, 11] c145_10).more [0, 1, 8, 9, 10, 11, 28] ⟨p145_10.1, p145_10.2⟩
noncomputable def p145_12 : PSigma fun r : ECall → Cur 6 => ∀ c v0 v1 v9 v10 v11 v12 T, regE c [35] c145_12 [(0, v0), (1, v1), (9, v9), (10, v10), (11, v11), (12, v12)] T = r c v0 v1 v9 v10 v11 v12 T := ⟨_, fun c v0 v1 v9 v10 v11 v12 T => Eq.trans (regA rfl rfl (sMov rfl (sV (eX_lenS rfl) fun u1 => (sMov rfl (sV (eX_lenS rfl) fun u3 => (sV (eX_lss rfl rfl) fun u4 => (sE (F' := [(35, u4)]) rfl))))))) rfl⟩
noncomputable def x145_12 : XReg := (XReg.of [35] c145_12).more [0, 1, 9, 10, 11, 12] ⟨p145_12.1, p145_12.2⟩
noncomputable def p145_14 : PSigma fun r : ECall → Cur 1 => ∀ c v35 T, regE c [4] c145_14 [(35, v35)] T = r c v35 T := ⟨_, fun c v35 T => Eq.trans (regA rfl rfl (sMov rfl (sE (F' := [(4, (cv (.int .i64 (0))))]) rfl))) rfl⟩
noncomputable def x145_14 : XReg := (XReg.of [4] c145_14).more [35] ⟨p145_14.1, p145_14.2⟩
noncomputable def p146_0 : PSigma fun r : ECall → Cur 3 => ∀ c v0 v1 v2 T, regE c [0, 1, 2] c146_0 [(0, v0), (1, v1), (2, v2)] T = r c v0 v1 v2 T := ⟨_, fun c v0 v1 v2 T => Eq.trans (regA rfl rfl (sMov rfl (sE (F' := [(0, v0), (1, v1), (2, v2)]) rfl))) rfl⟩
noncomputable def x146_0 : XReg := (XReg.of [0, 1, 2] c146_0).more [0, 1, 2] ⟨p146_0.1, p146_0.2⟩
noncomputable def p146_1 : PSigma fun r : ECall → Cur 3 => ∀ c v0 v1 v2 T, regE c [0, 1, 2, 11, 12, 13] c146_1 [(0, v0), (1, v1), (2, v2)] T = r c v0 v1 v2 T := ⟨_, fun c v0 v1 v2 T => Eq.trans (regA rfl rfl (sMov rfl (sV (eX_lenS rfl) fun u1 => (sMov rfl (sE (F' := [(0, v0), (1, v1), (2, v2), (11, v0), (12, u1), (13, (cv (.int .i64 (0))))]) rfl))))) rfl⟩
noncomputable def x146_1 : XReg := (XReg.of [0, 1, 2, 11, 12, 13] c146_1).more [0, 1, 2] ⟨p146_1.1, p146_1.2⟩
noncomputable def p146_2 : PSigma fun r : ECall → Cur 6 => ∀ c v0 v1 v2 v11 v12 v13 T, regE c [0, 1, 2, 11, 12, 13, 14] c146_2 [(0, v0), (1, v1), (2, v2), (11, v11), (12, v12), (13, v13)] T = r c v0 v1 v2 v11 v12 v13 T := ⟨_, fun c v0 v1 v2 v11 v12 v13 T => Eq.trans (regA rfl rfl (sV (eX_lss rfl rfl) fun u0 => (sE (F' := [(0, v0), (1, v1), (2, v2), (11, v11), (12, v12), (13, v13), (14, u0)]) rfl))) rfl⟩
noncomputable def x146_2 : XReg := (XReg.of [0, 1, 2, 11, 12, 13, 14] c146_2).more [0, 1, 2, 11, 12, 13] ⟨p146_2.1, p146_2.2⟩
noncomputable def p146_3 : PSigma fun r : ECall → Cur 7 => ∀ c v0 v1 v2 v11 v12 v13 v14 T, regE c [0, 1, 2, 7, 8, 11, 12, 13] c146_3 [(0, v0), (1, v1), (2, v2), (11, v11), (12, v12), (13, v13), (14, v14)] T = r c v0 v1 v2 v11 v12 v13 v14 T := ⟨_, fun c v0 v1 v2 v11 v12 v13 v14 T => Eq.trans (regA rfl rfl (sMov rfl (sV (eX_idxS rfl rfl) fun u1 => (sV (eX_load1 rfl) fun u2 => (sMov rfl (sMov rfl (sE (F' := [(0, v0), (1, v1), (2, v2), (7, v13), (8, u2), (11, v11), (12, v12), (13, v13)]) rfl))))))) rfl⟩
noncomputable def x146_3 : XReg := (XReg.of [0, 1, 2, 7, 8, 11, 12, 13] c146_3).more [0, 1, 2, 11, 12, 13, 14] ⟨p146_3.1, p146_3.2⟩
noncomputable def p146_4 : PSigma fun r : ECall → Cur 8 => ∀ c v0 v1 v2 v7 v8 v11 v12 v13 T, regE c [0, 1, 2, 7, 8, 11, 12, 13, 21] c146_4 [(0, v0), (1, v1), (2, v2), (7, v7), (8, v8), (11, v11), (12, v12), (13, v13)] T = r c v0 v1 v2 v7 v8 v11 v12 v13 T := ⟨_, fun c v0 v1 v2 v7 v8 v11 v12 v13 T => Eq.trans (regA rfl rfl (sMov rfl (sMov rfl (sV (eX_lenS rfl) fun u2 => (sV (eX_geq rfl rfl) fun u3 => (sE (F' := [(0, v0), (1, v1), (2, v2), (7, v7), (8, v8), (11, v11), (12, v12), (13, v13), (21, u3)]) rfl)))))) rfl⟩
noncomputable def x146_4 : XReg := (XReg.of [0, 1, 2, 7, 8, 11, 12, 13, 21] c146_4).more [0, 1, 2, 7, 8, 11, 12, 13] ⟨p146_4.1, p146_4.2⟩
noncomputable def p146_6 : PSigma fun r : ECall → Cur 9 => ∀ c v0 v1 v2 v7 v8 v11 v12 v13 v21 T, regE c [0, 1, 2, 8, 9, 11, 12, 13] c146_6 [(0, v0), (1, v1), (2, v2), (7, v7), (8, v8), (11, v11), (12, v12), (13, v13), (21, v21)] T = r c v0 v1 v2 v7 v8 v11 v12 v13 v21 T := ⟨_, fun c v0 v1 v2 v7 v8 v11 v12 v13 v21 T => Eq.trans (regA rfl rfl (sMov rfl (sMov rfl (sV (eX_idxS rfl rfl) fun u2 => (sV (eX_load1 rfl) fun u3 => (sMov rfl (sE (F' := [(0, v0), (1, v1), (2, v2), (8, v8), (9, u3), (11, v11), (12, v12), (13, v13)]) rfl))))))) rfl⟩
noncomputable def x146_6 : XReg := (XReg.of [0, 1, 2, 8, 9, 11, 12, 13] c146_6).more [0, 1, 2, 7, 8, 11, 12, 13, 21] ⟨p146_6.1, p146_6.2⟩
noncomputable def p146_7 : PSigma fun r : ECall → Cur 8 => ∀ c v0 v1 v2 v8 v9 v11 v12 v13 T, regE c [0, 1, 2, 10, 11, 12, 13] c146_7 [(0, v0), (1, v1), (2, v2), (8, v8), (9, v9), (11, v11), (12, v12), (13, v13)] T = r c v0 v1 v2 v8 v9 v11 v12 v13 T := ⟨_, fun c v0 v1 v2 v8 v9 v11 v12 v13 T => Eq.trans (regA rfl rfl (sMov rfl (sMov rfl (sMov rfl (sM (eX_callv rfl rfl) fun u3 T => (sMov rfl (sE (F' := [(0, v0), (1, v1), (2, v2), (10, u3), (11, v11), (12, v12), (13, v13)]) rfl))))))) rfl⟩
noncomputable def x146_7 : XReg := (XReg.of [0, 1, 2, 10, 11, 12, 13] c146_7).more [0, 1, 2, 8, 9, 11, 12, 13] ⟨p146_7.1, p146_7.2⟩
noncomputable def p146_8 : PSigma fun r : ECall → Cur 7 => ∀ c v0 v1 v2 v10 v11 v12 v13 T, regE c [0, 1, 2, 10, 11, 12, 13, 31] c146_8 [(0, v0), (1, v1), (2, v2), (10, v10), (11, v11), (12, v12), (13, v13)] T = r c v0 v1 v2 v10 v11 v12 v13 T := ⟨_, fun c v0 v1 v2 v10 v11 v12 v13 T => Eq.trans (regA rfl rfl (sMov rfl (sV (eX_neq rfl rfl) fun u1 => (sE (F' := [(0, v0), (1, v1), (2, v2), (10, v10), (11, v11), (12, v12), (13, v13), (31, u1)]) rfl)))) rfl⟩
noncomputable def x146_8 : XReg := (XReg.of [0, 1, 2, 10, 11, 12, 13, 31] c146_8).more [0, 1, 2, 10, 11, 12, 13] ⟨p146_8.1, p146_8.2⟩
noncomputable def p146_9 : PSigma fun r : ECall → Cur 8 => ∀ c v0 v1 v2 v10 v11 v12 v13 v31 T, regE c [6] c146_9 [(0, v0), (1, v1), (2, v2), (10, v10), (11, v11), (12, v12), (13, v13), (31, v31)] T = r c v0 v1 v2 v10 v11 v12 v13 v31 T := ⟨_, fun c v0 v1 v2 v10 v11 v12 v13 v31 T => Eq.trans (regA rfl rfl (sMov rfl (sMov rfl (sE (F' := [(6, v10)]) rfl)))) rfl⟩
noncomputable def x146_9 : XReg := (XReg.of [6] c146_9).more [0, 1, 2, 10, 11, 12, 13, 31] ⟨p146_9.1, p146_9.2⟩
noncomputable def p147_0 : PSigma fun r : ECall → Cur 1 => ∀ c v0 T, regE c [1] c147_0 [(0, v0)] T = r c v0 T := ⟨_, fun c v0 T => Eq.trans (regA rfl rfl (sM (eX_box rfl) fun u0 T => (sMov rfl (sE (F' := [(1, u0)]) rfl)))) rfl⟩
noncomputable def x147_0 : XReg := (XReg.of [1] c147_0).more [0] ⟨p147_0.1, p147_0.2⟩
noncomputable def p147_1 : PSigma fun r : ECall → Cur 1 => ∀ c v1 T, regE c [1, 3] c147_1 [(1, v1)] T = r c v1 T := ⟨_, fun c v1 T => Eq.trans (regA rfl rfl (sMov rfl (sE (F' := [(1, v1), (3, (cv (.slice none 0 0)))]) rfl))) rfl⟩
noncomputable def x147_1 : XReg := (XReg.of [1, 3] c147_1).more [1] ⟨p147_1.1, p147_1.2⟩
noncomputable def p147_2 : PSigma fun r : ECall → Cur 2 => ∀ c v1 v3 T, regE c [3, 7, 8, 9] c147_2 [(1, v1), (3, v3)] T = r c v1 v3 T := ⟨_, fun c v1 v3 T => Eq.trans (regA rfl rfl (sV (eX_fld rfl) fun u0 => (sV (eX_load1 rfl) fun u1 => (sV (eX_lenS rfl) fun u2 => (sMov rfl (sE (F' := [(3, v3), (7, u1), (8, u2), (9, (cv (.int .i64 (0))))]) rfl)))))) rfl⟩
noncomputable def x147_2 : XReg := (XReg.of [3, 7, 8, 9] c147_2).more [1, 3] ⟨p147_2.1, p147_2.2⟩
noncomputable def p147_3 : PSigma fun r : ECall → Cur 4 => ∀ c v3 v7 v8 v9 T, regE c [3, 7, 8, 9, 10] c147_3 [(3, v3), (7, v7), (8, v8), (9, v9)] T = r c v3 v7 v8 v9 T := ⟨_, fun c v3 v7 v8 v9 T => Eq.trans (regA rfl rfl (sV (eX_lss rfl rfl) fun u0 => (sE (F' := [(3, v3), (7, v7), (8, v8), (9, v9), (10, u0)]) rfl))) rfl⟩
noncomputable def x147_3 : XReg := (XReg.of [3, 7, 8, 9, 10] c147_3).more [3, 7, 8, 9] ⟨p147_3.1, p147_3.2⟩
noncomputable def p147_4 : PSigma fun r : ECall → Cur 5 => ∀ c v3 v7 v8 v9 v10 T, regE c [3, 4, 5, 7, 8, 9] c147_4 [(3, v3), (7, v7), (8, v8), (9, v9), (10, v10)] T = r c v3 v7 v8 v9 v10 T := ⟨_, fun c v3 v7 v8 v9 v10 T => Eq.trans (regA rfl rfl (sMov rfl (sV (eX_idxS rfl rfl) fun u1 => (sV (eX_load1 rfl) fun u2 => (sMov rfl (sMov rfl (sE (F' := [(3, v3), (4, v9), (5, u2), (7, v7), (8, v8), (9, v9)]) rfl))))))) rfl⟩
noncomputable def x147_4 : XReg := (XReg.of [3, 4, 5, 7, 8, 9] c147_4).more [3, 7, 8, 9, 10] ⟨p147_4.1, p147_4.2⟩
noncomputable def p147_5 : PSigma fun r : ECall → Cur 6 => ∀ c v3 v4 v5 v7 v8 v9 T, regE c [3, 7, 8, 9] c147_5 [(3, v3), (4, v4), (5, v5), (7, v7), (8, v8), (9, v9)] T = r c v3 v4 v5 v7 v8 v9 T := ⟨_, fun c v3 v4 v5 v7 v8 v9 T => Eq.trans (regA rfl rfl (sMov rfl (sMov rfl (sMov rfl (sMov rfl (sV (eX_build rfl) fun u4 => (sM (eX_mkslice rfl) fun u5 T => (sM (eX_append rfl rfl) fun u6 T => (sMov rfl (sE (F' := [(3, u6), (7, v7), (8, v8), (9, v9)]) rfl)))))))))) rfl⟩
noncomputable def x147_5 : XReg := (XReg.of [3, 7, 8, 9] c147_5).more [3, 4, 5, 7, 8, 9] ⟨p147_5.1, p147_5.2⟩
noncomputable def p147_6 : PSigma fun r : ECall → Cur 4 => ∀ c v3 v7 v8 v9 T, regE c [3, 7, 8, 9] c147_6 [(3, v3), (7, v7), (8, v8), (9, v9)] T = r c v3 v7 v8 v9 T := ⟨_, fun c v3 v7 v8 v9 T => Eq.trans (regA rfl rfl (sV (eX_add rfl rfl) fun u0 => (sMov rfl (sE (F' := [(3, v3), (7, v7), (8, v8), (9, u0)]) rfl)))) rfl⟩
noncomputable def x147_6 : XReg := (XReg.of [3, 7, 8, 9] c147_6).more [3, 7, 8, 9] ⟨p147_6.1, p147_6.2⟩
noncomputable def p147_8 : PSigma fun r : ECall → Cur 5 => ∀ c v3 v7 v8 v9 v10 T, regE c [2] c147_8 [(3, v3), (7, v7), (8, v8), (9, v9), (10, v10)] T = r c v3 v7 v8 v9 v10 T := ⟨_, fun c v3 v7 v8 v9 v10 T => Eq.trans (regA rfl rfl (sMov rfl (sMov rfl (sE (F' := [(2, v3)]) rfl)))) rfl⟩
noncomputable def x147_8 : XReg := (XReg.of [2] c147_8).more [3, 7, 8, 9, 10] ⟨p147_8.1, p147_8.2⟩
noncomputable def p153_0 : PSigma fun r : ECall → Cur 1 => ∀ c v0 T, regE c [0] c153_0 [(0, v0)] T = r c v0 T := ⟨_, fun c v0 T => Eq.trans (regA rfl rfl (sMov rfl (sE (F' := [(0, v0)]) rfl))) rfl⟩
noncomputable def x153_0 : XReg := (XReg.of [0] c153_0).more [0] ⟨p153_0.1, p153_0.2⟩
noncomputable def p153_1 : PSigma fun r : ECall → Cur 1 => ∀ c v0 T, regE c [2] c153_1 [(0, v0)] T = r c v0 T := ⟨_, fun c v0 T => Eq.trans (regA rfl rfl (sMov rfl (sM (eX_call rfl) fun u1 T => (sMov rfl (sE (F' := [(2, u1)]) rfl))))) rfl⟩
noncomputable def x153_1 : XReg := (XReg.of [2] c153_1).more [0] ⟨p153_1.1, p153_1.2⟩
noncomputable def p171_0 : PSigma fun r : ECall → Cur 2 => ∀ c v0 v1 T, regE c [0, 1] c171_0 [(0, v0), (1, v1)] T = r c v0 v1 T := ⟨_, fun c v0 v1 T => Eq.trans (regA rfl rfl (sMov rfl (sE (F' := [(0, v0), (1, v1)]) rfl))) rfl⟩
noncomputable def x171_0 : XReg := (XReg.of [0, 1] c171_0).more [0, 1] ⟨p171_0.1, p171_0.2⟩
noncomputable def p171_1 : PSigma fun r : ECall → Cur 2 => ∀ c v0 v1 T, regE c [0, 1, 7, 8] c171_1 [(0, v0), (1, v1)] T = r c v0 v1 T := ⟨_, fun c v0 v1 T => Eq.trans (regA rfl rfl (sMov rfl (sV (eX_lenS rfl) fun u1 => (sMov rfl (sE (F' := [(0, v0), (1, v1), (7, u1), (8, (cv (.int .i64 (0))))]) rfl))))) rfl⟩
noncomputable def x171_1 : XReg := (XReg.of [0, 1, 7, 8] c171_1).more [0, 1] ⟨p171_1.1, p171_1.2⟩
noncomputable def p171_2 : PSigma fun r : ECall → Cur 4 => ∀ c v0 v1 v7 v8 T, regE c [0, 1, 7, 8, 9] c171_2 [(0, v0), (1, v1), (7, v7), (8, v8)] T = r c v0 v1 v7 v8 T := ⟨_, fun c v0 v1 v7 v8 T => Eq.trans (regA rfl rfl (sV (eX_lss rfl rfl) fun u0 => (sE (F' := [(0, v0), (1, v1), (7, v7), (8, v8), (9, u0)]) rfl))) rfl⟩
noncomputable def x171_2 : XReg := (XReg.of [0, 1, 7, 8, 9] c171_2).more [0, 1, 7, 8] ⟨p171_2.1, p171_2.2⟩
noncomputable def p171_3 : PSigma fun r : ECall → Cur 5 => ∀ c v0 v1 v7 v8 v9 T, regE c [0, 1, 5, 7, 8] c171_3 [(0, v0), (1, v1), (7, v7), (8, v8), (9, v9)] T = r c v0 v1 v7 v8 v9 T := ⟨_, fun c v0 v1 v7 v8 v9 T => Eq.trans (regA rfl rfl (sMov rfl (sMov rfl (sE (F' := [(0, v0), (1, v1), (5, v8), (7, v7), (8, v8)]) rfl)))) rfl⟩
noncomputable def x171_3 : XReg := (XReg.of [0, 1, 5, 7, 8] c171_3).more [0, 1, 7, 8, 9] ⟨p171_3.1, p171_3.2⟩
noncomputable def p171_4 : PSigma fun r : ECall → Cur 5 => ∀ c v0 v1 v5 v7 v8 T, regE c [0, 1, 5, 7, 8, 16] c171_4 [(0, v0), (1, v1), (5, v5), (7, v7), (8, v8)] T = r c v0 v1 v5 v7 v8 T := ⟨_, fun c v0 v1 v5 v7 v8 T => Eq.trans (regA rfl rfl (sMov rfl (sMov rfl (sMov rfl (sV (eX_idxS rfl rfl) fun u3 => (sV (eX_loadN rfl) fun u4 => (sM (eX_callv rfl rfl) fun u5 T => (sE (F' := [(0, v0), (1, v1), (5, v5), (7, v7), (8, v8), (16, u5)]) rfl)))))))) rfl⟩
noncomputable def x171_4 : XReg := (XReg.of [0, 1, 5, 7, 8, 16] c171_4).more [0, 1, 5, 7, 8] ⟨p171_4.1, p171_4.2⟩
noncomputable def p171_6 : PSigma fun r : ECall → Cur 6 => ∀ c v0 v1 v5 v7 v8 v16 T, regE c [0, 1, 7, 8] c171_6 [(0, v0), (1, v1), (5, v5), (7, v7), (8, v8), (16, v16)] T = r c v0 v1 v5 v7 v8 v16 T := ⟨_, fun c v0 v1 v5 v7 v8 v16 T => Eq.trans (regA rfl rfl (sV (eX_add rfl rfl) fun u0 => (sMov rfl (sE (F' := [(0, v0), (1, v1), (7, v7), (8, u0)]) rfl)))) rfl⟩
noncomputable def x171_6 : XReg := (XReg.of [0, 1, 7, 8] c171_6).more [0, 1, 5, 7, 8, 16] ⟨p171_6.1, p171_6.2⟩
noncomputable def p171_8 : PSigma fun r : ECall → Cur 5 => ∀ c v0 v1 v7 v8 v9 T, regE c [4] c171_8 [(0, v0), (1, v1), (7, v7), (8, v8), (9, v9)] T = r c v0 v1 v7 v8 v9 T := ⟨_, fun c v0 v1 v7 v8 v9 T => Eq.trans (regA rfl rfl (sMov rfl (sE (F' := [(4, (cv (.int .i64 (-1))))]) rfl))) rfl⟩
noncomputable def x171_8 : XReg := (XReg.of [4] c171_8).more [0, 1, 7, 8, 9] ⟨p171_8.1, p171_8.2⟩
noncomputable def p172_1 : PSigma fun r : ECall → Cur 1 => ∀ c v1 T, regE c [2] c172_1 [(1, v1)] T = r c v1 T := ⟨_, fun c v1 T => Eq.trans (regA rfl rfl (sV (eX_fld rfl) fun u0 => (sV (eX_load1 rfl) fun u1 => (sV (eX_eql rfl rfl) fun u2 => (sMov rfl (gfV rfl (eX_fld rfl) fun u4 T => (gfV rfl (eX_load1 rfl) fun u5 T => (gfM rfl (eX_call rfl) fun u6 T => (gfMov rfl rfl fun u7 T => (gtV rfl (eX_fld rfl) fun u8 T => (gtV rfl (eX_load1 rfl) fun u9 T => (gtV rfl (eX_eql rfl rfl) fun u10 T => (gfV rfl (eX_pick rfl rfl rfl) fun u11 T => (sV (eX_pick rfl rfl rfl) fun u12 => (sMov rfl (sE (F' := [(2, u12)]) rfl)))))))))))))))) rfl⟩
noncomputable def x172_1 : XReg := (XReg.of [2] c172_1).more [1] ⟨p172_1.1, p172_1.2⟩
noncomputable def p173_1 : PSigma fun r : ECall → Cur 1 => ∀ c v0 T, regE c [2] c173_1 [(0, v0)] T = r c v0 T := ⟨_, fun c v0 T => Eq.trans (regA rfl rfl (sMov rfl (sV (eX_geq rfl rfl) fun u1 => (sMov rfl (gtMov rfl rfl fun u3 T => (gtV rfl (eX_lss rfl rfl) fun u4 T => (sV (eX_pick rfl rfl rfl) fun u5 => (sMov rfl (sE (F' := [(2, u5)]) rfl))))))))) rfl⟩
noncomputable def x173_1 : XReg := (XReg.of [2] c173_1).more [0] ⟨p173_1.1, p173_1.2⟩
noncomputable def p174_0 : PSigma fun r : ECall → Cur 2 => ∀ c v0 v1 T, regE c [2, 3] c174_0 [(0, v0), (1, v1)] T = r c v0 v1 T := ⟨_, fun c v0 v1 T => Eq.trans (regA rfl rfl (sM (eX_box rfl) fun u0 T => (sM (eX_box rfl) fun u1 T => (sMov rfl (sE (F' := [(2, u0), (3, u1)]) rfl))))) rfl⟩
noncomputable def x174_0 : XReg := (XReg.of [2, 3] c174_0).more [0, 1] ⟨p174_0.1, p174_0.2⟩
noncomputable def p174_1 : PSigma fun r : ECall → Cur 2 => ∀ c v2 v3 T, regE c [2, 3, 12] c174_1 [(2, v2), (3, v3)] T = r c v2 v3 T := ⟨_, fun c v2 v3 T => Eq.trans (regA rfl rfl (sV (eX_fld rfl) fun u0 => (sV (eX_load1 rfl) fun u1 => (sV (eX_geq rfl rfl) fun u2 => (sMov rfl (gtV rfl (eX_fld rfl) fun u4 T => (gtV rfl (eX_load1 rfl) fun u5 T => (gtV rfl (eX_lss rfl rfl) fun u6 T => (sV (eX_pick rfl rfl rfl) fun u7 => (sE (F' := [(2, v2), (3, v3), (12, u7)]) rfl)))))))))) rfl⟩
noncomputable def x174_1 : XReg := (XReg.of [2, 3, 12] c174_1).more [2, 3] ⟨p174_1.1, p174_1.2⟩
noncomputable def p174_2 : PSigma fun r : ECall → Cur 3 => ∀ c v2 v3 v12 T, regE c [4] c174_2 [(2, v2), (3, v3), (12, v12)] T = r c v2 v3 v12 T := ⟨_, fun c v2 v3 v12 T => Eq.trans (regA rfl rfl (sV (eX_fld rfl) fun u0 => (sV (eX_load1 rfl) fun u1 => (sV (eX_fld rfl) fun u2 => (sV (eX_idxA rfl rfl) fun u3 => (sV (eX_load1 rfl) fun u4 => (sMov rfl (sE (F' := [(4, u4)]) rfl)))))))) rfl⟩
noncomputable def x174_2 : XReg := (XReg.of [4] c174_2).more [2, 3, 12] ⟨p174_2.1, p174_2.2⟩
noncomputable def p174_3 : PSigma fun r : ECall → Cur 3 => ∀ c v2 v3 v12 T, regE c [4] c174_3 [(2, v2), (3, v3), (12, v12)] T = r c v2 v3 v12 T := ⟨_, fun c v2 v3 v12 T => Eq.trans (regA rfl rfl (sV (eX_fld rfl) fun u0 => (sV (eX_load1 rfl) fun u1 => (sMov rfl (sE (F' := [(4, u1)]) rfl))))) rfl⟩
noncomputable def x174_3 : XReg := (XReg.of [4] c174_3).more [2, 3, 12] ⟨p174_3.1, p174_3.2⟩
noncomputable def p176_0 : PSigma fun r : ECall → Cur 3 => ∀ c v0 v1 v2 T, regE c [0, 1, 2, 11] c176_0 [(0, v0), (1, v1), (2, v2)] T = r c v0 v1 v2 T := ⟨_, fun c v0 v1 v2 T => Eq.trans (regA rfl rfl (sMov rfl (sV (eX_geq rfl rfl) fun u1 => (sMov rfl (gtMov rfl rfl fun u3 T => (gtV rfl (eX_lss rfl rfl) fun u4 T => (sV (eX_pick rfl rfl rfl) fun u5 => (sE (F' := [(0, v0), (1, v1), (2, v2), (11, u5)]) rfl)))))))) rfl⟩
noncomputable def x176_0 : XReg := (XReg.of [0, 1, 2, 11] c176_0).more [0, 1, 2] ⟨p176_0.1, p176_0.2⟩
noncomputable def p176_1 : PSigma fun r : ECall → Cur 4 => ∀ c v0 v1 v2 v11 T, regE c [] c176_1 [(0, v0), (1, v1), (2, v2), (11, v11)] T = r c v0 v1 v2 v11 T := ⟨_, fun c v0 v1 v2 v11 T => Eq.trans (regA rfl rfl (sMov rfl (sMov rfl (sMov rfl (sV (eX_nilchk rfl) fun u3 => (sV (eX_fld rfl) fun u4 => (sV (eX_idxA rfl rfl) fun u5 => (sS (eX_store1 rfl rfl) fun T => (sE (F' := []) rfl))))))))) rfl⟩
noncomputable def x176_1 : XReg := (XReg.of [] c176_1).more [0, 1, 2, 11] ⟨p176_1.1, p176_1.2⟩
noncomputable def p177_0 : PSigma fun r : ECall → Cur 1 => ∀ c v0 T, regE c [0] c177_0 [(0, v0)] T = r c v0 T := ⟨_, fun c v0 T => Eq.trans (regA rfl rfl (sMov rfl (sE (F' := [(0, v0)]) rfl))) rfl⟩
noncomputable def x177_0 : XReg := (XReg.of [0] c177_0).more [0] ⟨p177_0.1, p177_0.2⟩
noncomputable def p177_1 : PSigma fun r : ECall → Cur 1 => ∀ c v0 T, regE c [2] c177_1 [(0, v0)] T = r c v0 T := ⟨_, fun c v0 T => Eq.trans (regA rfl rfl (sMov rfl (sMov rfl (sV (eX_lenS rfl) fun u2 => (sMov rfl (sV (eX_lenS rfl) fun u4 => (sV (eX_slsl rfl rfl rfl rfl) fun u5 => (sMov rfl (sE (F' := [(2, u5)]) rfl))))))))) rfl⟩
noncomputable def x177_1 : XReg := (XReg.of [2] c177_1).more [0] ⟨p177_1.1, p177_1.2⟩
noncomputable def p178_0 : PSigma fun r : ECall → Cur 1 => ∀ c v0 T, regE c [0] c178_0 [(0, v0)] T = r c v0 T := ⟨_, fun c v0 T => Eq.trans (regA rfl rfl (sMov rfl (sE (F' := [(0, v0)]) rfl))) rfl⟩
noncomputable def x178_0 : XReg := (XReg.of [0] c178_0).more [0] ⟨p178_0.1, p178_0.2⟩
noncomputable def p178_1 : PSigma fun r : ECall → Cur 1 => ∀ c v0 T, regE c [2] c178_1 [(0, v0)] T = r c v0 T := ⟨_, fun c v0 T => Eq.trans (regA rfl rfl (sMov rfl (sMov rfl (sV (eX_lenS rfl) fun u2 => (sMov rfl (sV (eX_lenS rfl) fun u4 => (sV (eX_slsl rfl rfl rfl rfl) fun u5 => (sMov rfl (sE (F' := [(2, u5)]) rfl))))))))) rfl⟩
noncomputable def x178_1 : XReg := (XReg.of [2] c178_1).more [0] ⟨p178_1.1, p178_1.2⟩
noncomputable def p179_1 : PSigma fun r : ECall → Cur 1 => ∀ c v0 T, regE c [2] c179_1 [(0, v0)] T = r c v0 T := ⟨_, fun c v0 T => Eq.trans (regA rfl rfl (sMov rfl (sMov rfl (sV (eX_lenS rfl) fun u2 => (sMov rfl (sV (eX_lenS rfl) fun u4 => (sV (eX_slsl rfl rfl rfl rfl) fun u5 => (sMov rfl (sE (F' := [(2, u5)]) rfl))))))))) rfl⟩
noncomputable def x179_1 : XReg := (XReg.of [2] c179_1).more [0] ⟨p179_1.1, p179_1.2⟩
noncomputable def p180_1 : PSigma fun r : ECall → Cur 2 => ∀ c v0 v1 T, regE c [0, 1, 10] c180_1 [(0, v0), (1, v1)] T = r c v0 v1 T := ⟨_, fun c v0 v1 T => Eq.trans (regA rfl rfl (sMov rfl (sV (eX_lss rfl rfl) fun u1 => (sE (F' := [(0, v0), (1, v1), (10, u1)]) rfl)))) rfl⟩
noncomputable def x180_1 : XReg := (XReg.of [0, 1, 10] c180_1).more [0, 1] ⟨p180_1.1, p180_1.2⟩
noncomputable def p180_3 : PSigma fun r : ECall → Cur 3 => ∀ c v0 v1 v10 T, regE c [0, 5, 6] c180_3 [(0, v0), (1, v1), (10, v10)] T = r c v0 v1 v10 T := ⟨_, fun c v0 v1 v10 T => Eq.trans (regA rfl rfl (sMov rfl (sV (eX_lenS rfl) fun u1 => (sV (eX_conv rfl) fun u2 => (sMov rfl (sV (eX_conv rfl) fun u4 => (sM (eX_call rfl) fun u5 T => (sMov rfl (sV (eX_extr rfl) fun u7 => (sV (eX_extr rfl) fun u8 => (sMov rfl (sMov rfl (sE (F' := [(0, v0), (5, u7), (6, u8)]) rfl))))))))))))) rfl⟩
noncomputable def x180_3 : XReg := (XReg.of [0, 5, 6] c180_3).more [0, 1, 10] ⟨p180_3.1, p180_3.2⟩
noncomputable def p180_4 : PSigma fun r : ECall → Cur 3 => ∀ c v0 v5 v6 T, regE c [0, 6, 26] c180_4 [(0, v0), (5, v5), (6, v6)] T = r c v0 v5 v6 T := ⟨_, fun c v0 v5 v6 T => Eq.trans (regA rfl rfl (sMov rfl (sV (eX_gtr rfl rfl) fun u1 => (sMov rfl (gfMov rfl rfl fun u3 T => (gfV rfl (eX_gtr rfl rfl) fun u4 T => (sV (eX_pick rfl rfl rfl) fun u5 => (sE (F' := [(0, v0), (6, v6), (26, u5)]) rfl)))))))) rfl⟩
noncomputable def x180_4 : XReg := (XReg.of [0, 6, 26] c180_4).more [0, 5, 6] ⟨p180_4.1, p180_4.2⟩
noncomputable def p180_6 : PSigma fun r : ECall → Cur 3 => ∀ c v0 v6 v26 T, regE c [0, 7] c180_6 [(0, v0), (6, v6), (26, v26)] T = r c v0 v6 v26 T := ⟨_, fun c v0 v6 v26 T => Eq.trans (regA rfl rfl (sMov rfl (sV (eX_conv rfl) fun u1 => (sM (op1_mkrow) fun u2 T => (sMov rfl (sE (F' := [(0, v0), (7, u2)]) rfl)))))) rfl⟩
noncomputable def x180_6 : XReg := (XReg.of [0, 7] c180_6).more [0, 6, 26] ⟨p180_6.1, p180_6.2⟩
noncomputable def p180_7 : PSigma fun r : ECall → Cur 2 => ∀ c v0 v7 T, regE c [7, 8] c180_7 [(0, v0), (7, v7)] T = r c v0 v7 T := ⟨_, fun c v0 v7 T => Eq.trans (regA rfl rfl (sMov rfl (sMov rfl (sM (eX_copy rfl rfl) fun u2 T => (sMov rfl (sE (F' := [(7, v7), (8, u2)]) rfl)))))) rfl⟩
noncomputable def x180_7 : XReg := (XReg.of [7, 8] c180_7).more [0, 7] ⟨p180_7.1, p180_7.2⟩
noncomputable def p180_8 : PSigma fun r : ECall → Cur 2 => ∀ c v7 v8 T, regE c [7, 8, 37] c180_8 [(7, v7), (8, v8)] T = r c v7 v8 T := ⟨_, fun c v7 v8 T => Eq.trans (regA rfl rfl (sMov rfl (sMov rfl (sV (eX_lenS rfl) fun u2 => (sV (eX_lss rfl rfl) fun u3 => (sE (F' := [(7, v7), (8, v8), (37, u3)]) rfl)))))) rfl⟩
noncomputable def x180_8 : XReg := (XReg.of [7, 8, 37] c180_8).more [7, 8] ⟨p180_8.1, p180_8.2⟩
noncomputable def p180_11 : PSigma fun r : ECall → Cur 3 => ∀ c v7 v8 v37 T, regE c [4] c180_11 [(7, v7), (8, v8), (37, v37)] T = r c v7 v8 v37 T := ⟨_, fun c v7 v8 v37 T => Eq.trans (regA rfl rfl (sMov rfl (sMov rfl (sE (F' := [(4, v7)]) rfl)))) rfl⟩
noncomputable def x180_11 : XReg := (XReg.of [4] c180_11).more [7, 8, 37] ⟨p180_11.1, p180_11.2⟩
noncomputable def p187_1 : PSigma fun r : ECall → Cur 5 => ∀ c v0 v1 v2 v3 v8 T, regE c [0, 1, 2, 3, 8, 14] c187_1 [(0, v0), (1, v1), (2, v2), (3, v3), (8, v8)] T = r c v0 v1 v2 v3 v8 T := ⟨_, fun c v0 v1 v2 v3 v8 T => Eq.trans (regA rfl rfl (sMov rfl (sMov rfl (sV (eX_lss rfl rfl) fun u2 => (sE (F' := [(0, v0), (1, v1), (2, v2), (3, v3), (8, v8), (14, u2)]) rfl))))) rfl⟩
noncomputable def x187_1 : XReg := (XReg.of [0, 1, 2, 3, 8, 14] c187_1).more [0, 1, 2, 3, 8] ⟨p187_1.1, p187_1.2⟩
noncomputable def p192_5 : PSigma fun r : ECall → Cur 7 => ∀ c v0 v1 v2 v3 v9 v10 v36 T, regE c [0, 1, 2, 3, 9, 10] c192_5 [(0, v0), (1, v1), (2, v2), (3, v3), (9, v9), (10, v10), (36, v36)] T = r c v0 v1 v2 v3 v9 v10 v36 T := ⟨_, fun c v0 v1 v2 v3 v9 v10 v36 T => Eq.trans (regA rfl rfl (sMov rfl (sV (eX_add rfl rfl) fun u1 => (sMov rfl (sE (F' := [(0, v0), (1, v1), (2, v2), (3, v3), (9, u1), (10, v10)]) rfl))))) rfl⟩
noncomputable def x192_5 : XReg := (XReg.of [0, 1, 2, 3, 9, 10] c192_5).more [0, 1, 2, 3, 9, 10, 36] ⟨p192_5.1, p192_5.2⟩
noncomputable def p196_10 : PSigma fun r : ECall → Cur 3 => ∀ c v0 v2 v14 T, regE c [2] c196_10 [(0, v0), (2, v2), (14, v14)] T = r c v0 v2 v14 T := ⟨_, fun c v0 v2 v14 T => Eq.trans (regA rfl rfl (sMov rfl (sMov rfl (sV (eX_conv rfl) fun u2 => (sM (op1_idxT) fun u3 T => (sV (eX_conv rfl) fun u4 => (sV (eX_add rfl rfl) fun u5 => (sMov rfl (sE (F' := [(2, u5)]) rfl))))))))) rfl⟩
noncomputable def x196_10 : XReg := (XReg.of [2] c196_10).more [0, 2, 14] ⟨p196_10.1, p196_10.2⟩
noncomputable def p197_0 : PSigma fun r : ECall → Cur 2 => ∀ c v0 v1 T, regE c [0, 1] c197_0 [(0, v0), (1, v1)] T = r c v0 v1 T := ⟨_, fun c v0 v1 T => Eq.trans (regA rfl rfl (sMov rfl (sE (F' := [(0, v0), (1, v1)]) rfl))) rfl⟩
noncomputable def x197_0 : XReg := (XReg.of [0, 1] c197_0).more [0, 1] ⟨p197_0.1, p197_0.2⟩
noncomputable def p197_1 : PSigma fun r : ECall → Cur 2 => ∀ c v0 v1 T, regE c [0, 1, 5] c197_1 [(0, v0), (1, v1)] T = r c v0 v1 T := ⟨_, fun c v0 v1 T => Eq.trans (regA rfl rfl (sMov rfl (sM (eX_call rfl) fun u1 T => (sMov rfl (sE (F' := [(0, v0), (1, v1), (5, u1)]) rfl))))) rfl⟩
noncomputable def x197_1 : XReg := (XReg.of [0, 1, 5] c197_1).more [0, 1] ⟨p197_1.1, p197_1.2⟩
noncomputable def p197_2 : PSigma fun r : ECall → Cur 3 => ∀ c v0 v1 v5 T, regE c [0, 1, 5, 6] c197_2 [(0, v0), (1, v1), (5, v5)] T = r c v0 v1 v5 T := ⟨_, fun c v0 v1 v5 T => Eq.trans (regA rfl rfl (sMov rfl (sM (eX_call rfl) fun u1 T => (sMov rfl (sE (F' := [(0, v0), (1, v1), (5, v5), (6, u1)]) rfl))))) rfl⟩
noncomputable def x197_2 : XReg := (XReg.of [0, 1, 5, 6] c197_2).more [0, 1, 5] ⟨p197_2.1, p197_2.2⟩
noncomputable def p197_3 : PSigma fun r : ECall → Cur 4 => ∀ c v0 v1 v5 v6 T, regE c [0, 1, 6, 11] c197_3 [(0, v0), (1, v1), (5, v5), (6, v6)] T = r c v0 v1 v5 v6 T := ⟨_, fun c v0 v1 v5 v6 T => Eq.trans (regA rfl rfl (sMov rfl (sE (F' := [(0, v0), (1, v1), (6, v6), (11, v5)]) rfl))) rfl⟩
noncomputable def x197_3 : XReg := (XReg.of [0, 1, 6, 11] c197_3).more [0, 1, 5, 6] ⟨p197_3.1, p197_3.2⟩
noncomputable def p197_7 : PSigma fun r : ECall → Cur 4 => ∀ c v0 v1 v6 v11 T, regE c [0, 1, 13] c197_7 [(0, v0), (1, v1), (6, v6), (11, v11)] T = r c v0 v1 v6 v11 T := ⟨_, fun c v0 v1 v6 v11 T => Eq.trans (regA rfl rfl (sMov rfl (sE (F' := [(0, v0), (1, v1), (13, v6)]) rfl))) rfl⟩
noncomputable def x197_7 : XReg := (XReg.of [0, 1, 13] c197_7).more [0, 1, 6, 11] ⟨p197_7.1, p197_7.2⟩
noncomputable def p197_9 : PSigma fun r : ECall → Cur 3 => ∀ c v0 v1 v13 T, regE c [0, 1, 16] c197_9 [(0, v0), (1, v1), (13, v13)] T = r c v0 v1 v13 T := ⟨_, fun c v0 v1 v13 T => Eq.trans (regA rfl rfl (sMov rfl (sMov rfl (sV (eX_lss rfl rfl) fun u2 => (sE (F' := [(0, v0), (1, v1), (16, u2)]) rfl))))) rfl⟩
noncomputable def x197_9 : XReg := (XReg.of [0, 1, 16] c197_9).more [0, 1, 13] ⟨p197_9.1, p197_9.2⟩
noncomputable def p197_11 : PSigma fun r : ECall → Cur 3 => ∀ c v0 v1 v16 T, regE c [19] c197_11 [(0, v0), (1, v1), (16, v16)] T = r c v0 v1 v16 T := ⟨_, fun c v0 v1 v16 T => Eq.trans (regA rfl rfl (sMov rfl (sMov rfl (sV (eX_gtr rfl rfl) fun u2 => (sE (F' := [(19, u2)]) rfl))))) rfl⟩
noncomputable def x197_11 : XReg := (XReg.of [19] c197_11).more [0, 1, 16] ⟨p197_11.1, p197_11.2⟩
noncomputable def p197_12 : PSigma fun r : ECall → Cur 1 => ∀ c v19 T, regE c [4] c197_12 [(19, v19)] T = r c v19 T := ⟨_, fun c v19 T => Eq.trans (regA rfl rfl (sMov rfl (sE (F' := [(4, (cv (.int .i64 (1))))]) rfl))) rfl⟩
noncomputable def x197_12 : XReg := (XReg.of [4] c197_12).more [19] ⟨p197_12.1, p197_12.2⟩
noncomputable def p197_13 : PSigma fun r : ECall → Cur 1 => ∀ c v19 T, regE c [4] c197_13 [(19, v19)] T = r c v19 T := ⟨_, fun c v19 T => Eq.trans (regA rfl rfl (sMov rfl (sE (F' := [(4, (cv (.int .i64 (0))))]) rfl))) rfl⟩
noncomputable def x197_13 : XReg := (XReg.of [4] c197_13).more [19] ⟨p197_13.1, p197_13.2⟩
noncomputable def p198_0 : PSigma fun r : ECall → Cur 2 => ∀ c v0 v1 T, regE c [0, 1] c198_0 [(0, v0), (1, v1)] T = r c v0 v1 T := ⟨_, fun c v0 v1 T => Eq.trans (regA rfl rfl (sMov rfl (sE (F' := [(0, v0), (1, v1)]) rfl))) rfl⟩
noncomputable def x198_0 : XReg := (XReg.of [0, 1] c198_0).more [0, 1] ⟨p198_0.1, p198_0.2⟩
noncomputable def p198_1 : PSigma fun r : ECall → Cur 2 => ∀ c v0 v1 T, regE c [0, 1, 5] c198_1 [(0, v0), (1, v1)] T = r c v0 v1 T := ⟨_, fun c v0 v1 T => Eq.trans (regA rfl rfl (sMov rfl (sM (eX_call rfl) fun u1 T => (sMov rfl (sE (F' := [(0, v0), (1, v1), (5, u1)]) rfl))))) rfl⟩
noncomputable def x198_1 : XReg := (XReg.of [0, 1, 5] c198_1).more [0, 1] ⟨p198_1.1, p198_1.2⟩
noncomputable def p198_2 : PSigma fun r : ECall → Cur 3 => ∀ c v0 v1 v5 T, regE c [0, 1, 5, 6] c198_2 [(0, v0), (1, v1), (5, v5)] T = r c v0 v1 v5 T := ⟨_, fun c v0 v1 v5 T => Eq.trans (regA rfl rfl (sMov rfl (sM (eX_call rfl) fun u1 T => (sMov rfl (sE (F' := [(0, v0), (1, v1), (5, v5), (6, u1)]) rfl))))) rfl⟩
noncomputable def x198_2 : XReg := (XReg.of [0, 1, 5, 6] c198_2).more [0, 1, 5] ⟨p198_2.1, p198_2.2⟩
noncomputable def p198_3 : PSigma fun r : ECall → Cur 4 => ∀ c v0 v1 v5 v6 T, regE c [0, 1, 6, 11] c198_3 [(0, v0), (1, v1), (5, v5), (6, v6)] T = r c v0 v1 v5 v6 T := ⟨_, fun c v0 v1 v5 v6 T => Eq.trans (regA rfl rfl (sMov rfl (sE (F' := [(0, v0), (1, v1), (6, v6), (11, v5)]) rfl))) rfl⟩
noncomputable def x198_3 : XReg := (XReg.of [0, 1, 6, 11] c198_3).more [0, 1, 5, 6] ⟨p198_3.1, p198_3.2⟩
noncomputable def p198_7 : PSigma fun r : ECall → Cur 4 => ∀ c v0 v1 v6 v11 T, regE c [0, 1, 13] c198_7 [(0, v0), (1, v1), (6, v6), (11, v11)] T = r c v0 v1 v6 v11 T := ⟨_, fun c v0 v1 v6 v11 T => Eq.trans (regA rfl rfl (sMov rfl (sE (F' := [(0, v0), (1, v1), (13, v6)]) rfl))) rfl⟩
noncomputable def x198_7 : XReg := (XReg.of [0, 1, 13] c198_7).more [0, 1, 6, 11] ⟨p198_7.1, p198_7.2⟩
noncomputable def p198_9 : PSigma fun r : ECall → Cur 3 => ∀ c v0 v1 v13 T, regE c [0, 1, 16] c198_9 [(0, v0), (1, v1), (13, v13)] T = r c v0 v1 v13 T := ⟨_, fun c v0 v1 v13 T => Eq.trans (regA rfl rfl (sMov rfl (sMov rfl (sV (eX_lss rfl rfl) fun u2 => (sE (F' := [(0, v0), (1, v1), (16, u2)]) rfl))))) rfl⟩
noncomputable def x198_9 : XReg := (XReg.of [0, 1, 16] c198_9).more [0, 1, 13] ⟨p198_9.1, p198_9.2⟩
noncomputable def p198_11 : PSigma fun r : ECall → Cur 3 => ∀ c v0 v1 v16 T, regE c [19] c198_11 [(0, v0), (1, v1), (16, v16)] T = r c v0 v1 v16 T := ⟨_, fun c v0 v1 v16 T => Eq.trans (regA rfl rfl (sMov rfl (sMov rfl (sV (eX_gtr rfl rfl) fun u2 => (sE (F' := [(19, u2)]) rfl))))) rfl⟩
noncomputable def x198_11 : XReg := (XReg.of [19] c198_11).more [0, 1, 16] ⟨p198_11.1, p198_11.2⟩
noncomputable def p198_13 : PSigma fun r : ECall → Cur 1 => ∀ c v19 T, regE c [4] c198_13 [(19, v19)] T = r c v19 T := ⟨_, fun c v19 T => Eq.trans (regA rfl rfl (sMov rfl (sE (F' := [(4, (cv (.int .i64 (0))))]) rfl))) rfl⟩
noncomputable def x198_13 : XReg := (XReg.of [4] c198_13).more [19] ⟨p198_13.1, p198_13.2⟩
noncomputable def p223_0 : PSigma fun r : ECall → Cur 2 => ∀ c v0 v1 T, regE c [0, 1] c223_0 [(0, v0), (1, v1)] T = r c v0 v1 T := ⟨_, fun c v0 v1 T => Eq.trans (regA rfl rfl (sMov rfl (sMov rfl (sE (F' := [(0, v0), (1, v1)]) rfl)))) rfl⟩
noncomputable def x223_0 : XReg := (XReg.of [0, 1] c223_0).more [0, 1] ⟨p223_0.1, p223_0.2⟩
noncomputable def p223_3 : PSigma fun r : ECall → Cur 2 => ∀ c v0 v1 T, regE c [8, 9] c223_3 [(0, v0), (1, v1)] T = r c v0 v1 T := ⟨_, fun c v0 v1 T => Eq.trans (regA rfl rfl (sMov rfl (sMov rfl (sM (eX_call rfl) fun u2 T => (sMov rfl (sV (eX_extr rfl) fun u4 => (sV (eX_extr rfl) fun u5 => (sMov rfl (sMov rfl (sE (F' := [(8, u4), (9, u5)]) rfl)))))))))) rfl⟩
noncomputable def x223_3 : XReg := (XReg.of [8, 9] c223_3).more [0, 1] ⟨p223_3.1, p223_3.2⟩
noncomputable def p223_4 : PSigma fun r : ECall → Cur 2 => ∀ c v8 v9 T, regE c [4, 5] c223_4 [(8, v8), (9, v9)] T = r c v8 v9 T := ⟨_, fun c v8 v9 T => Eq.trans (regA rfl rfl (sMov rfl (sMov rfl (sMov rfl (sMov rfl (sE (F' := [(4, v8), (5, v9)]) rfl)))))) rfl⟩
noncomputable def x223_4 : XReg := (XReg.of [4, 5] c223_4).more [8, 9] ⟨p223_4.1, p223_4.2⟩
noncomputable def p229_0 : PSigma fun r : ECall → Cur 1 => ∀ c v0 T, regE c [0] c229_0 [(0, v0)] T = r c v0 T := ⟨_, fun c v0 T => Eq.trans (regA rfl rfl (sMov rfl (sE (F' := [(0, v0)]) rfl))) rfl⟩
noncomputable def x229_0 : XReg := (XReg.of [0] c229_0).more [0] ⟨p229_0.1, p229_0.2⟩
noncomputable def p229_1 : PSigma fun r : ECall → Cur 1 => ∀ c v0 T, regE c [2] c229_1 [(0, v0)] T = r c v0 T := ⟨_, fun c v0 T => Eq.trans (regA rfl rfl (sMov rfl (sMov rfl (sV (eX_neq rfl rfl) fun u2 => (sMov rfl (sE (F' := [(2, u2)]) rfl)))))) rfl⟩
noncomputable def x229_1 : XReg := (XReg.of [2] c229_1).more [0] ⟨p229_1.1, p229_1.2⟩
noncomputable def p230_0 : PSigma fun r : ECall → Cur 1 => ∀ c v0 T, regE c [0] c230_0 [(0, v0)] T = r c v0 T := ⟨_, fun c v0 T => Eq.trans (regA rfl rfl (sMov rfl (sE (F' := [(0, v0)]) rfl))) rfl⟩
noncomputable def x230_0 : XReg := (XReg.of [0] c230_0).more [0] ⟨p230_0.1, p230_0.2⟩
noncomputable def p230_1 : PSigma fun r : ECall → Cur 1 => ∀ c v0 T, regE c [2] c230_1 [(0, v0)] T = r c v0 T := ⟨_, fun c v0 T => Eq.trans (regA rfl rfl (sMov rfl (sMov rfl (sV (eX_neq rfl rfl) fun u2 => (sMov rfl (sE (F' := [(2, u2)]) rfl)))))) rfl⟩
noncomputable def x230_1 : XReg := (XReg.of [2] c230_1).more [0] ⟨p230_1.1, p230_1.2⟩
noncomputable def p250_0 : PSigma fun r : ECall → Cur 2 => ∀ c v0 v1 T, regE c [0, 1] c250_0 [(0, v0), (1, v1)] T = r c v0 v1 T := ⟨_, fun c v0 v1 T => Eq.trans (regA rfl rfl (sMov rfl (sMov rfl (sE (F' := [(0, v0), (1, v1)]) rfl)))) rfl⟩
noncomputable def x250_0 : XReg := (XReg.of [0, 1] c250_0).more [0, 1] ⟨p250_0.1, p250_0.2⟩
noncomputable def p250_1 : PSigma fun r : ECall → Cur 2 => ∀ c v0 v1 T, regE c [0, 1, 6] c250_1 [(0, v0), (1, v1)] T = r c v0 v1 T := ⟨_, fun c v0 v1 T => Eq.trans (regA rfl rfl (sMov rfl (sV (eX_and rfl rfl) fun u1 => (sMov rfl (sE (F' := [(0, v0), (1, v1), (6, u1)]) rfl))))) rfl⟩
noncomputable def x250_1 : XReg := (XReg.of [0, 1, 6] c250_1).more [0, 1] ⟨p250_1.1, p250_1.2⟩
noncomputable def p250_2 : PSigma fun r : ECall → Cur 3 => ∀ c v0 v1 v6 T, regE c [0, 1, 6, 7] c250_2 [(0, v0), (1, v1), (6, v6)] T = r c v0 v1 v6 T := ⟨_, fun c v0 v1 v6 T => Eq.trans (regA rfl rfl (sMov rfl (sV (eX_shr rfl rfl) fun u1 => (sMov rfl (sE (F' := [(0, v0), (1, v1), (6, v6), (7, u1)]) rfl))))) rfl⟩
noncomputable def x250_2 : XReg := (XReg.of [0, 1, 6, 7] c250_2).more [0, 1, 6] ⟨p250_2.1, p250_2.2⟩
noncomputable def p250_3 : PSigma fun r : ECall → Cur 4 => ∀ c v0 v1 v6 v7 T, regE c [0, 1, 6, 7, 8] c250_3 [(0, v0), (1, v1), (6, v6), (7, v7)] T = r c v0 v1 v6 v7 T := ⟨_, fun c v0 v1 v6 v7 T => Eq.trans (regA rfl rfl (sMov rfl (sV (eX_and rfl rfl) fun u1 => (sMov rfl (sE (F' := [(0, v0), (1, v1), (6, v6), (7, v7), (8, u1)]) rfl))))) rfl⟩
noncomputable def x250_3 : XReg := (XReg.of [0, 1, 6, 7, 8] c250_3).more [0, 1, 6, 7] ⟨p250_3.1, p250_3.2⟩
noncomputable def p250_4 : PSigma fun r : ECall → Cur 5 => ∀ c v0 v1 v6 v7 v8 T, regE c [0, 1, 6, 7, 8, 9] c250_4 [(0, v0), (1, v1), (6, v6), (7, v7), (8, v8)] T = r c v0 v1 v6 v7 v8 T := ⟨_, fun c v0 v1 v6 v7 v8 T => Eq.trans (regA rfl rfl (sMov rfl (sV (eX_shr rfl rfl) fun u1 => (sMov rfl (sE (F' := [(0, v0), (1, v1), (6, v6), (7, v7), (8, v8), (9, u1)]) rfl))))) rfl⟩
noncomputable def x250_4 : XReg := (XReg.of [0, 1, 6, 7, 8, 9] c250_4).more [0, 1, 6, 7, 8] ⟨p250_4.1, p250_4.2⟩
noncomputable def p250_5 : PSigma fun r : ECall → Cur 6 => ∀ c v0 v1 v6 v7 v8 v9 T, regE c [0, 1, 6, 7, 8, 9, 10] c250_5 [(0, v0), (1, v1), (6, v6), (7, v7), (8, v8), (9, v9)] T = r c v0 v1 v6 v7 v8 v9 T := ⟨_, fun c v0 v1 v6 v7 v8 v9 T => Eq.trans (regA rfl rfl (sMov rfl (sMov rfl (sV (eX_mul rfl rfl) fun u2 => (sMov rfl (sE (F' := [(0, v0), (1, v1), (6, v6), (7, v7), (8, v8), (9, v9), (10, u2)]) rfl)))))) rfl⟩
noncomputable def x250_5 : XReg := (XReg.of [0, 1, 6, 7, 8, 9, 10] c250_5).more [0, 1, 6, 7, 8, 9] ⟨p250_5.1, p250_5.2⟩
noncomputable def p250_6 : PSigma fun r : ECall → Cur 7 => ∀ c v0 v1 v6 v7 v8 v9 v10 T, regE c [0, 1, 6, 7, 9, 11] c250_6 [(0, v0), (1, v1), (6, v6), (7, v7), (8, v8), (9, v9), (10, v10)] T = r c v0 v1 v6 v7 v8 v9 v10 T := ⟨_, fun c v0 v1 v6 v7 v8 v9 v10 T => Eq.trans (regA rfl rfl (sMov rfl (sMov rfl (sV (eX_mul rfl rfl) fun u2 => (sMov rfl (sV (eX_shr rfl rfl) fun u4 => (sV (eX_add rfl rfl) fun u5 => (sMov rfl (sE (F' := [(0, v0), (1, v1), (6, v6), (7, v7), (9, v9), (11, u5)]) rfl))))))))) rfl⟩
noncomputable def x250_6 : XReg := (XReg.of [0, 1, 6, 7, 9, 11] c250_6).more [0, 1, 6, 7, 8, 9, 10] ⟨p250_6.1, p250_6.2⟩
noncomputable def p250_7 : PSigma fun r : ECall → Cur 6 => ∀ c v0 v1 v6 v7 v9 v11 T, regE c [0, 1, 6, 7, 9, 11, 12] c250_7 [(0, v0), (1, v1), (6, v6), (7, v7), (9, v9), (11, v11)] T = r c v0 v1 v6 v7 v9 v11 T := ⟨_, fun c v0 v1 v6 v7 v9 v11 T => Eq.trans (regA rfl rfl (sMov rfl (sV (eX_and rfl rfl) fun u1 => (sMov rfl (sE (F' := [(0, v0), (1, v1), (6, v6), (7, v7), (9, v9), (11, v11), (12, u1)]) rfl))))) rfl⟩
noncomputable def x250_7 : XReg := (XReg.of [0, 1, 6, 7, 9, 11, 12] c250_7).more [0, 1, 6, 7, 9, 11] ⟨p250_7.1, p250_7.2⟩
noncomputable def p250_8 : PSigma fun r : ECall → Cur 7 => ∀ c v0 v1 v6 v7 v9 v11 v12 T, regE c [0, 1, 6, 7, 9, 12, 13] c250_8 [(0, v0), (1, v1), (6, v6), (7, v7), (9, v9), (11, v11), (12, v12)] T = r c v0 v1 v6 v7 v9 v11 v12 T := ⟨_, fun c v0 v1 v6 v7 v9 v11 v12 T => Eq.trans (regA rfl rfl (sMov rfl (sV (eX_shr rfl rfl) fun u1 => (sMov rfl (sE (F' := [(0, v0), (1, v1), (6, v6), (7, v7), (9, v9), (12, v12), (13, u1)]) rfl))))) rfl⟩
noncomputable def x250_8 : XReg := (XReg.of [0, 1, 6, 7, 9, 12, 13] c250_8).more [0, 1, 6, 7, 9, 11, 12] ⟨p250_8.1, p250_8.2⟩
noncomputable def p250_9 : PSigma fun r : ECall → Cur 7 => ∀ c v0 v1 v6 v7 v9 v12 v13 T, regE c [0, 1, 7, 9, 12, 13] c250_9 [(0, v0), (1, v1), (6, v6), (7, v7), (9, v9), (12, v12), (13, v13)] T = r c v0 v1 v6 v7 v9 v12 v13 T := ⟨_, fun c v0 v1 v6 v7 v9 v12 v13 T => Eq.trans (regA rfl rfl (sMov rfl (sMov rfl (sMov rfl (sV (eX_mul rfl rfl) fun u3 => (sV (eX_add rfl rfl) fun u4 => (sMov rfl (sE (F' := [(0, v0), (1, v1), (7, v7), (9, v9), (12, u4), (13, v13)]) rfl)))))))) rfl⟩
noncomputable def x250_9 : XReg := (XReg.of [0, 1, 7, 9, 12, 13] c250_9).more [0, 1, 6, 7, 9, 12, 13] ⟨p250_9.1, p250_9.2⟩
noncomputable def p250_10 : PSigma fun r : ECall → Cur 6 => ∀ c v0 v1 v7 v9 v12 v13 T, regE c [0, 1, 4] c250_10 [(0, v0), (1, v1), (7, v7), (9, v9), (12, v12), (13, v13)] T = r c v0 v1 v7 v9 v12 v13 T := ⟨_, fun c v0 v1 v7 v9 v12 v13 T => Eq.trans (regA rfl rfl (sMov rfl (sMov rfl (sV (eX_mul rfl rfl) fun u2 => (sMov rfl (sV (eX_add rfl rfl) fun u4 => (sMov rfl (sV (eX_shr rfl rfl) fun u6 => (sV (eX_add rfl rfl) fun u7 => (sMov rfl (sE (F' := [(0, v0), (1, v1), (4, u7)]) rfl))))))))))) rfl⟩
noncomputable def x250_10 : XReg := (XReg.of [0, 1, 4] c250_10).more [0, 1, 7, 9, 12, 13] ⟨p250_10.1, p250_10.2⟩
noncomputable def p250_11 : PSigma fun r : ECall → Cur 3 => ∀ c v0 v1 v4 T, regE c [4, 5] c250_11 [(0, v0), (1, v1), (4, v4)] T = r c v0 v1 v4 T := ⟨_, fun c v0 v1 v4 T => Eq.trans (regA rfl rfl (sMov rfl (sMov rfl (sV (eX_mul rfl rfl) fun u2 => (sMov rfl (sE (F' := [(4, v4), (5, u2)]) rfl)))))) rfl⟩
noncomputable def x250_11 : XReg := (XReg.of [4, 5] c250_11).more [0, 1, 4] ⟨p250_11.1, p250_11.2⟩
end Go.Jq
set_option maxRecDepth 20000
namespace Go.Jq
noncomputable def r17_9 : RCode := (.seq (.seq (.old (.reg [0, 3, 4, 5, 22] c17_5)) (.cond (.tmp 22) .skip (.exit 0))) (.seq (.block 1 (.seq (.old (.reg [0, 3, 4, 5] c17_6)) (.old (.reg [0, 3, 4, 5] c17_7)))) (.old (.reg [0, 3, 4, 5] c17_8))))
noncomputable def r17_body : RCode := (.seq (.old (.reg [0] c17_0)) (.seq (.old (.reg [0] c17_1)) (.seq (.old (.reg [0, 3] c17_2)) (.seq (.old (.reg [0, 3, 4] c17_3)) (.seq (.seq (.old (.reg [0, 3, 4, 5] c17_4)) (.block 0 (.loop [0, 3, 4, 5] r17_9))) (.seq (.old (.reg [0, 3, 4, 6, 7] c17_10)) (.seq (.old (.reg [0, 3, 4, 6, 7] c17_11)) (.seq (.old (.reg [0, 3, 4, 6, 7, 8, 9] c17_12)) (.seq (.old (.reg [0, 4, 6, 7, 8, 9, 11] c17_13)) (.seq (.old (.reg [2] c17_14)) .ret))))))))))
noncomputable def r17 : RFunc ⊕ Nat := .inl ⟨1, 92, r17_body, [.tmp 2]⟩
noncomputable def r22_body : RCode := (.seq (.old (.reg [2, 3] c22_0)) (.seq (.old (.reg [2, 3] c22_1)) (.seq (.old (.reg [2, 3, 6] c22_2)) (.seq (.old (.reg [3, 6] c22_3)) (.seq (.seq (.old (.reg [6, 16] c22_4)) (.cond (.tmp 16) (.seq (.old (.reg [4, 5] c22_5)) .ret) .skip)) (.seq (.old (.reg [6] c22_6)) (.seq (.old (.reg [4, 5] c22_7)) .ret)))))))
noncomputable def r22 : RFunc ⊕ Nat := .inl ⟨2, 20, r22_body, [.tmp 4, .tmp 5]⟩
noncomputable def r23_body : RCode := (.seq (.old (.reg [] c23_0)) (.seq (.old (.reg [1] c23_1)) (.seq (.old (.reg [1, 2, 3] c23_2)) (.seq (.old (.dreg [0] c23_3 c23_3b)) .ret))))
noncomputable def r23 : RFunc ⊕ Nat := .inl ⟨0, 53, r23_body, [.tmp 0]⟩
noncomputable def r30_8 : RCode := (.seq (.old (.reg [3, 8, 9, 10] c30_3)) (.seq (.cond (.tmp 10) .skip (.exit 0)) (.seq (.block 1 (.seq (.old (.reg [3, 4, 8, 9] c30_4)) (.seq (.old (.reg [3, 8, 9, 17] c30_5)) (.cond (.tmp 17) (.seq (.old (.reg [2] c30_6)) .ret) .skip)))) (.old (.reg [3, 8, 9] c30_7)))))
noncomputable def r30_body : RCode := (.seq (.old (.reg [1] c30_0)) (.seq (.old (.reg [3] c30_1)) (.seq (.seq (.old (.reg [3, 8, 9] c30_2)) (.block 0 (.loop [3, 8, 9] r30_8))) (.seq (.old (.reg [2] c30_9)) .ret))))
noncomputable def r30 : RFunc ⊕ Nat := .inl ⟨1, 19, r30_body, [.tmp 2]⟩
noncomputable def r31_8 : RCode := (.seq (.old (.reg [3, 6, 23, 24, 25, 26] c31_4)) (.seq (.cond (.tmp 26) .skip (.exit 0)) (.seq (.block 1 (.seq (.old (.reg [3, 6, 7, 8, 23, 24, 25] c31_5)) (.run x31_6))) (.old (.reg [3, 6, 23, 24, 25] c31_7)))))
noncomputable def r31_15 : RCode := (.seq (.run x31_10) (.seq (.cond (.tmp 50) .skip (.exit 2)) (.seq (.block 3 (.seq (.run x31_11) (.seq (.old (.dreg [3, 6, 9, 48, 49] c31_12 c31_12b)) (.run x31_13)))) (.run x31_14))))
noncomputable def r31_body : RCode := (.seq (.old (.reg [1, 2, 3] c31_0)) (.seq (.seq (.old (.reg [1, 2, 3, 12] c31_1)) (.cond (.tmp 12) .ret .skip)) (.seq (.old (.dreg [3, 6] c31_2 c31_2b)) (.seq (.seq (.old (.reg [3, 6, 23, 24, 25] c31_3)) (.block 0 (.loop [3, 6, 23, 24, 25] r31_8))) (.seq (.seq (.run x31_9) (.block 2 (.loop [3, 6, 48, 49] r31_15))) (.old (.reg [] c31_16)))))))
noncomputable def r31 : RFunc ⊕ Nat := .inl ⟨3, 68, r31_body, []⟩
noncomputable def r33_body : RCode := (.seq (.run x33_0) (.seq (.run x33_1) (.seq (.run x33_2) (.seq (.run x33_3) (.seq (.run x33_4) .ret)))))
noncomputable def r33 : RFunc ⊕ Nat := .inl ⟨5, 25, r33_body, [.tmp 10]⟩
noncomputable def r36_body : RCode := (.old (.reg [] c36_0))
noncomputable def r36 : RFunc ⊕ Nat := .inl ⟨1, 4, r36_body, []⟩
noncomputable def r37_body : RCode := (.seq (.old (.reg [0, 1, 2, 3, 4] c37_0)) (.seq (.old (.dreg [7] c37_1 c37_1b)) .ret))
noncomputable def r37 : RFunc ⊕ Nat := .inl ⟨5, 14, r37_body, [.tmp 7]⟩
noncomputable def r38_body : RCode := (.seq (.run x38_0) (.seq (.run x38_1) .ret))
noncomputable def r38 : RFunc ⊕ Nat := .inl ⟨1, 7, r38_body, [.cellN 2 65]⟩
noncomputable def r39_body : RCode := (.seq (.run x39_0) (.seq (.run x39_1) (.seq (.run x39_2) .ret)))
noncomputable def r39 : RFunc ⊕ Nat := .inl ⟨3, 13, r39_body, [.tmp 4]⟩
noncomputable def r40_15 : RCode := (.seq (.old (.reg [5, 50, 51, 52, 53] c40_7)) (.seq (.cond (.tmp 53) .skip (.exit 0)) (.seq (.block 1 (.seq (.old (.reg [5, 6, 7, 50, 51, 52] c40_8)) (.seq (.seq (.old (.qreg [5, 6, 7, 50, 51, 52, 71] c40_9)) (.cond (.tmp 71) (.seq (.old (.reg [4] c40_10)) .ret) .skip)) (.seq (.old (.reg [5, 6, 8, 50, 51, 52] c40_11)) (.seq (.old (.reg [5, 50, 51, 52, 81] c40_12)) (.cond (.tmp 81) (.seq (.old (.reg [4] c40_13)) .ret) .skip)))))) (.old (.reg [5, 50, 51, 52] c40_14)))))
noncomputable def r40_body : RCode := (.seq (.old (.reg [2, 3] c40_0)) (.seq (.seq (.old (.reg [2, 3, 38] c40_1)) (.cond (.tmp 38) (.seq (.old (.reg [4] c40_2)) .ret) .skip)) (.seq (.old (.reg [3, 5] c40_3)) (.seq (.seq (.old (.reg [3, 5, 48] c40_4)) (.cond (.tmp 48) (.seq (.old (.reg [4] c40_5)) .ret) .skip)) (.seq (.seq (.old (.reg [5, 50, 51, 52] c40_6)) (.block 0 (.loop [5, 50, 51, 52] r40_15))) (.seq (.old (.reg [4] c40_16)) .ret))))))
noncomputable def r40 : RFunc ⊕ Nat := .inl ⟨2, 83, r40_body, [.tmp 4]⟩
noncomputable def r41_14 : RCode := (.seq (.run x41_10) (.seq (.cond (.tmp 44) .skip (.exit 2)) (.seq (.block 3 (.seq (.run x41_11) (.run x41_12))) (.run x41_13))))
noncomputable def r41_17 : RCode := (.seq (.old (.reg [1, 3, 16, 17, 18, 19] c41_3)) (.seq (.cond (.tmp 19) .skip (.exit 0)) (.seq (.block 1 (.seq (.old (.reg [1, 3, 4, 5, 16, 17, 18] c41_4)) (.seq (.old (.reg [1, 3, 4, 5, 6, 16, 17, 18] c41_5)) (.seq (.seq (.old (.reg [1, 3, 4, 5, 6, 16, 17, 18, 27] c41_6)) (.cond (.tmp 27) (.old (.reg [1, 3, 5, 6, 16, 17, 18] c41_7)) .skip)) (.seq (.old (.reg [1, 3, 5, 6, 7, 16, 17, 18] c41_8)) (.seq (.seq (.old (.reg [1, 3, 5, 6, 7, 16, 17, 18, 41, 42, 43] c41_9)) (.block 2 (.loop [1, 3, 5, 6, 7, 16, 17, 18, 41, 42, 43] r41_14))) (.old (.dreg [1, 3, 16, 17, 18] c41_15 c41_15b)))))))) (.old (.reg [1, 3, 16, 17, 18] c41_16)))))
noncomputable def r41_27 : RCode := (.seq (.old (.reg [3, 12, 72, 73, 74, 78, 79, 80, 81] c41_23)) (.seq (.cond (.tmp 81) .skip (.exit 6)) (.seq (.block 7 (.seq (.old (.reg [3, 12, 14, 72, 73, 74, 78, 79, 80] c41_24)) (.old (.reg [3, 12, 72, 73, 74, 78, 79, 80] c41_25)))) (.old (.reg [3, 12, 72, 73, 74, 78, 79, 80] c41_26)))))
noncomputable def r41_30 : RCode := (.seq (.old (.reg [3, 72, 73, 74, 75] c41_19)) (.seq (.cond (.tmp 75) .skip (.exit 4)) (.seq (.block 5 (.seq (.old (.reg [3, 11, 72, 73, 74] c41_20)) (.seq (.old (.reg [3, 11, 12, 72, 73, 74] c41_21)) (.seq (.seq (.old (.reg [3, 12, 72, 73, 74, 78, 79, 80] c41_22)) (.block 6 (.loop [3, 12, 72, 73, 74, 78, 79, 80] r41_27))) (.old (.reg [3, 72, 73, 74] c41_28)))))) (.old (.reg [3, 72, 73, 74] c41_29)))))
noncomputable def r41_body : RCode := (.seq (.old (.reg [1] c41_0)) (.seq (.old (.reg [1, 3] c41_1)) (.seq (.seq (.old (.reg [1, 3, 16, 17, 18] c41_2)) (.block 0 (.loop [1, 3, 16, 17, 18] r41_17))) (.seq (.seq (.old (.reg [3, 72, 73, 74] c41_18)) (.block 4 (.loop [3, 72, 73, 74] r41_30))) (.seq (.old (.reg [2] c41_31)) .ret)))))
noncomputable def r41 : RFunc ⊕ Nat := .inl ⟨1, 99, r41_body, [.tmp 2]⟩
noncomputable def r52_13 : RCode := (.seq (.old (.reg [0, 2, 3, 4, 5, 15, 16, 17, 22, 23, 24, 25] c52_8)) (.seq (.cond (.tmp 25) .skip (.exit 2)) (.seq (.block 3 (.seq (.run x52_9) (.seq (.run x52_10) (.cond (.tmp 55) (.old (.reg [0, 2, 3, 4, 5, 15, 16, 17, 22, 23, 24] c52_11)) .skip)))) (.old (.reg [0, 2, 3, 4, 5, 15, 16, 17, 22, 23, 24] c52_12)))))
noncomputable def r52_15 : RCode := (.seq (.old (.reg [0, 2, 3, 15, 16, 17, 18] c52_5)) (.seq (.cond (.tmp 18) .skip (.exit 0)) (.seq (.block 1 (.seq (.old (.reg [0, 2, 3, 4, 5, 15, 16, 17] c52_6)) (.seq (.old (.reg [0, 2, 3, 4, 5, 15, 16, 17, 22, 23, 24] c52_7)) (.block 2 (.loop [0, 2, 3, 4, 5, 15, 16, 17, 22, 23, 24] r52_13))))) (.old (.reg [0, 2, 3, 15, 16, 17] c52_14)))))
noncomputable def r52_body : RCode := (.seq (.old (.reg [0, 2] c52_0)) (.seq (.seq (.old (.reg [0, 2, 10] c52_1)) (.cond (.tmp 10) (.seq (.old (.reg [2] c52_2)) .ret) .skip)) (.seq (.old (.reg [0, 2, 3] c52_3)) (.seq (.seq (.old (.reg [0, 2, 3, 15, 16, 17] c52_4)) (.block 0 (.loop [0, 2, 3, 15, 16, 17] r52_15))) (.seq (.old (.reg [2] c52_16)) .ret)))))
noncomputable def r52 : RFunc ⊕ Nat := .inl ⟨1, 63, r52_body, [.cellN 2 65]⟩
noncomputable def r53_body : RCode := (.seq (.run x53_0) (.seq (.seq (.run x53_1) (.cond (.tmp 8) (.seq (.run x53_2) .ret) .skip)) (.seq (.old (.reg [4] c53_3)) .ret)))
noncomputable def r53 : RFunc ⊕ Nat := .inl ⟨2, 13, r53_body, [.tmp 4]⟩
noncomputable def r56_body : RCode := (.seq (.old (.reg [1, 2, 3, 6] c56_0)) (.seq (.seq (.old (.reg [1, 2, 3, 6, 14] c56_1)) (.cond (.tmp 14) (.old (.reg [3, 6] c56_2)) .skip)) (.seq (.old (.reg [6] c56_3)) .ret)))
noncomputable def r56 : RFunc ⊕ Nat := .inl ⟨3, 25, r56_body, [.cellN 6 65]⟩
noncomputable def r57_10 : RCode := (.seq (.old (.reg [1, 2, 3, 6, 7, 11, 12, 13] c57_5)) (.seq (.cond (.tmp 13) .skip (.exit 2)) (.seq (.block 3 (.seq (.old (.reg [1, 2, 3, 4, 6, 7, 11, 12] c57_6)) (.seq (.run x57_7) (.cond (.tmp 20) (.old (.dreg [1, 2, 3, 6, 7, 11, 12] c57_8 c57_8b)) .skip)))) (.old (.reg [1, 2, 3, 6, 7, 11, 12] c57_9)))))
noncomputable def r57_12 : RCode := (.seq (.old (.reg [1, 2, 6, 7, 8] c57_2)) (.seq (.cond (.tmp 8) .skip (.exit 0)) (.seq (.block 1 (.seq (.old (.reg [1, 2, 3, 6, 7] c57_3)) (.seq (.old (.reg [1, 2, 3, 6, 7, 11, 12] c57_4)) (.block 2 (.loop [1, 2, 3, 6, 7, 11, 12] r57_10))))) (.old (.reg [1, 2, 6, 7] c57_11)))))
noncomputable def r57_body : RCode := (.seq (.old (.reg [1, 2] c57_0)) (.seq (.seq (.old (.reg [1, 2, 6, 7] c57_1)) (.block 0 (.loop [1, 2, 6, 7] r57_12))) (.seq (.old (.reg [2] c57_13)) .ret)))
noncomputable def r57 : RFunc ⊕ Nat := .inl ⟨1, 35, r57_body, [.cellN 2 65]⟩
noncomputable def r58_body : RCode := (.seq (.run x58_0) (.seq (.run x58_1) .ret))
noncomputable def r58 : RFunc ⊕ Nat := .inl ⟨2, 10, r58_body, [.tmp 4]⟩
noncomputable def r59_9 : RCode := (.seq (.run x59_4) (.seq (.cond (.tmp 42) .skip (.exit 0)) (.seq (.block 1 (.seq (.run x59_5) (.seq (.run x59_6) (.cond (.tmp 63) (.seq (.old (.reg [2] c59_7)) .ret) .skip)))) (.old (.reg [1, 39, 40, 41] c59_8)))))
noncomputable def r59_17 : RCode := (.seq (.run x59_12) (.seq (.cond (.tmp 70) .skip (.exit 2)) (.seq (.block 3 (.seq (.run x59_13) (.seq (.run x59_14) (.cond (.tmp 85) (.seq (.old (.reg [2] c59_15)) .ret) .skip)))) (.run x59_16))))
noncomputable def r59_body : RCode := (.seq (.old (.reg [1] c59_0)) (.seq (.seq (.run x59_1) (.cond (.tmp 37) (.seq (.old (.reg [2] c59_2)) .ret) .skip)) (.seq (.seq (.run x59_3) (.block 0 (.loop [1, 39, 40, 41] r59_9))) (.seq (.old (.reg [1, 5] c59_10)) (.seq (.seq (.run x59_11) (.block 2 (.loop [5, 67, 68, 69] r59_17))) (.seq (.old (.reg [2] c59_18)) .ret))))))
noncomputable def r59 : RFunc ⊕ Nat := .inl ⟨1, 87, r59_body, [.tmp 2]⟩
noncomputable def r60_body : RCode := (.seq (.run x60_0) (.seq (.run x60_1) .ret))
noncomputable def r60 : RFunc ⊕ Nat := .inl ⟨2, 10, r60_body, [.cellN 4 5]⟩
noncomputable def r61_9 : RCode := (.block 1 (.seq (.old (.dreg [0, 1, 4, 5, 6] c61_1 c61_1b)) (.seq (.seq (.run x61_2) (.seq (.run x61_3) (.cond (.tmp 32) .ret .skip))) (.seq (.old (.dreg [0, 1, 4, 5, 7, 8] c61_4 c61_4b)) (.seq (.seq (.run x61_5) (.cond (.tmp 42) (.seq (.run x61_6) .ret) .skip)) (.seq (.run x61_7) (.old (.dreg [0, 1, 4] c61_8 c61_8b))))))))
noncomputable def r61_body : RCode := (.seq (.run x61_0) (.block 0 (.loop [0, 1, 4] r61_9)))
noncomputable def r61 : RFunc ⊕ Nat := .inl ⟨2, 67, r61_body, []⟩
noncomputable def r62_19 : RCode := (.seq (.seq (.run x62_10) (.cond (.tmp 39) .skip (.exit 2))) (.seq (.block 3 (.seq (.seq (.old (.qreg [0, 3, 4, 5, 6, 7, 21, 22, 23, 53] c62_11)) (.cond (.tmp 53) (.exit 3) .skip)) (.seq (.run x62_12) (.seq (.run x62_13) (.seq (.run x62_14) (.seq (.seq (.old (.dreg [0, 3, 4, 5, 6, 7, 8, 21, 22, 23, 77] c62_15 c62_15b)) (.cond (.tmp 77) (.exit 3) .skip)) (.seq (.run x62_16) (.cond (.tmp 79) (.seq (.old (.reg [2] c62_17)) .ret) .skip)))))))) (.run x62_18)))
noncomputable def r62_24 : RCode := (.seq (.run x62_5) (.seq (.cond (.tmp 24) .skip (.exit 0)) (.seq (.block 1 (.seq (.run x62_6) (.seq (.seq (.run x62_7) (.cond (.tmp 30) (.exit 1) .skip)) (.seq (.old (.reg [0, 3, 4, 5, 6, 21, 22, 23] c62_8)) (.seq (.seq (.old (.reg [0, 3, 4, 5, 6, 7, 21, 22, 23] c62_9)) (.block 2 (.loop [0, 3, 4, 5, 6, 7, 21, 22, 23] r62_19))) (.seq (.seq (.old (.reg [0, 3, 4, 5, 21, 22, 23, 86] c62_20)) (.cond (.tmp 86) (.seq (.old (.reg [2] c62_21)) .ret) .skip)) (.old (.dreg [0, 3, 4, 21, 22, 23] c62_22 c62_22b)))))))) (.run x62_23))))
noncomputable def r62_body : RCode := (.seq (.run x62_0) (.seq (.run x62_1) (.seq (.run x62_2) (.seq (.run x62_3) (.seq (.seq (.run x62_4) (.block 0 (.loop [0, 3, 4, 21, 22, 23] r62_24))) (.seq (.old (.dreg [2] c62_25 c62_25b)) .ret))))))
noncomputable def r62 : RFunc ⊕ Nat := .inl ⟨1, 111, r62_body, [.tmp 2]⟩
noncomputable def r63_8 : RCode := (.seq (.run x63_3) (.seq (.cond (.tmp 15) .skip (.exit 0)) (.seq (.block 1 (.seq (.run x63_4) (.seq (.run x63_5) (.cond (.tmp 20) (.old (.dreg [5, 12, 13, 14] c63_6 c63_6b)) .skip)))) (.run x63_7))))
noncomputable def r63_body : RCode := (.seq (.run x63_0) (.seq (.run x63_1) (.seq (.seq (.run x63_2) (.block 0 (.loop [5, 12, 13, 14] r63_8))) (.seq (.run x63_9) .ret))))
noncomputable def r63 : RFunc ⊕ Nat := .inl ⟨2, 35, r63_body, [.tmp 4]⟩
noncomputable def r64_9 : RCode := (.seq (.seq (.old (.reg [1, 2, 3, 4, 5, 10, 11, 19] c64_6)) (.cond (.tmp 19) .skip (.exit 2))) (.seq (.block 3 (.old (.reg [1, 2, 3, 4, 5, 10, 11] c64_7))) (.old (.reg [1, 2, 3, 4, 5, 10, 11] c64_8))))
noncomputable def r64_11 : RCode := (.seq (.old (.reg [1, 2, 3, 10, 11, 12] c64_3)) (.seq (.cond (.tmp 12) .skip (.exit 0)) (.seq (.block 1 (.seq (.old (.reg [1, 2, 3, 4, 10, 11] c64_4)) (.seq (.old (.reg [1, 2, 3, 4, 5, 10, 11] c64_5)) (.block 2 (.loop [1, 2, 3, 4, 5, 10, 11] r64_9))))) (.old (.reg [1, 2, 3, 10, 11] c64_10)))))
noncomputable def r64_body : RCode := (.seq (.run x64_0) (.seq (.run x64_1) (.seq (.seq (.run x64_2) (.block 0 (.loop [1, 2, 3, 10, 11] r64_11))) (.seq (.run x64_12) .ret))))
noncomputable def r64 : RFunc ⊕ Nat := .inl ⟨1, 37, r64_body, [.cellN 2 65]⟩
noncomputable def r65_body : RCode := (.seq (.old (.reg [0, 1, 2, 3] c65_0)) (.seq (.old (.dreg [6] c65_1 c65_1b)) .ret))
noncomputable def r65 : RFunc ⊕ Nat := .inl ⟨4, 15, r65_body, [.tmp 6]⟩
noncomputable def r66_body : RCode := (.seq (.run x66_0) (.seq (.run x66_1) (.seq (.old (.reg [3, 4, 5, 7, 8] c66_2)) (.seq (.run x66_3) (.seq (.old (.dreg [6] c66_4 c66_4b)) .ret)))))
noncomputable def r66 : RFunc ⊕ Nat := .inl ⟨3, 19, r66_body, [.tmp 6]⟩
noncomputable def r67_body : RCode := (.seq (.run x67_0) (.seq (.run x67_1) (.seq (.old (.reg [3, 4, 5, 7, 8] c67_2)) (.seq (.run x67_3) (.seq (.run x67_4) .ret)))))
noncomputable def r67 : RFunc ⊕ Nat := .inl ⟨3, 14, r67_body, [.tmp 6]⟩
noncomputable def r68_body : RCode := (.seq (.run x68_0) (.seq (.old (.dreg [5] c68_1 c68_1b)) .ret))
noncomputable def r68 : RFunc ⊕ Nat := .inl ⟨4, 14, r68_body, [.tmp 5]⟩
noncomputable def r69_body : RCode := (.seq (.run x69_0) (.seq (.seq (.run x69_1) (.cond (.tmp 4) (.seq (.old (.reg [2] c69_2)) .ret) .skip)) (.seq (.run x69_3) .ret)))
noncomputable def r69 : RFunc ⊕ Nat := .inl ⟨1, 8, r69_body, [.tmp 2]⟩
noncomputable def r70_body : RCode := (.seq (.run x70_0) (.seq (.seq (.run x70_1) (.cond (.tmp 4) (.seq (.old (.reg [2] c70_2)) .ret) .skip)) (.seq (.run x70_3) .ret)))
noncomputable def r70 : RFunc ⊕ Nat := .inl ⟨1, 8, r70_body, [.tmp 2]⟩
noncomputable def r78_body : RCode := (.seq (.old (.reg [0, 1, 4] c78_0)) (.old (.reg [] c78_1)))
noncomputable def r78 : RFunc ⊕ Nat := .inl ⟨2, 14, r78_body, []⟩
noncomputable def r79_body : RCode := (.seq (.run x79_0) (.seq (.old (.dreg [4] c79_1 c79_1b)) .ret))
noncomputable def r79 : RFunc ⊕ Nat := .inl ⟨2, 22, r79_body, [.tmp 4]⟩
noncomputable def r80_14 : RCode := (.seq (.seq (.old (.reg [1, 2, 6, 7, 8, 34, 35, 50] c80_10)) (.cond (.tmp 50) .skip (.exit 2))) (.block 3 (.seq (.seq (.old (.reg [1, 2, 6, 7, 8, 34, 35, 55] c80_11)) (.cond (.tmp 55) (.old (.reg [1, 2, 6, 7, 8, 34, 35] c80_12)) .skip)) (.old (.reg [1, 2, 6, 7, 8, 34, 35] c80_13)))))
noncomputable def r80_20 : RCode := (.seq (.old (.reg [1, 2, 34, 35, 36] c80_6)) (.seq (.cond (.tmp 36) .skip (.exit 0)) (.seq (.block 1 (.seq (.old (.reg [1, 2, 6, 34, 35] c80_7)) (.seq (.old (.reg [1, 2, 6, 7, 34, 35] c80_8)) (.seq (.old (.reg [1, 2, 6, 7, 8, 34, 35] c80_9)) (.seq (.block 2 (.loop [1, 2, 6, 7, 8, 34, 35] r80_14)) (.seq (.old (.reg [1, 2, 7, 9, 11, 34, 35] c80_15)) (.seq (.seq (.old (.reg [1, 2, 7, 34, 35, 82] c80_16)) (.cond (.tmp 82) (.seq (.old (.reg [4] c80_17)) .ret) .skip)) (.old (.reg [1, 2, 34, 35] c80_18))))))))) (.old (.reg [1, 2, 34, 35] c80_19)))))
noncomputable def r80_body : RCode := (.seq (.old (.reg [1, 2] c80_0)) (.seq (.old (.reg [1, 2, 5] c80_1)) (.seq (.seq (.old (.reg [1, 2, 5, 27] c80_2)) (.cond (.tmp 27) (.seq (.old (.reg [4] c80_3)) .ret) .skip)) (.seq (.old (.reg [1, 2] c80_4)) (.seq (.seq (.old (.reg [1, 2, 34, 35] c80_5)) (.block 0 (.loop [1, 2, 34, 35] r80_20))) (.seq (.old (.reg [4] c80_21)) .ret))))))
noncomputable def r80 : RFunc ⊕ Nat := .inl ⟨2, 90, r80_body, [.tmp 4]⟩
noncomputable def r81_16 : RCode := (.seq (.old (.reg [1, 3, 12, 13, 14, 15] c81_3)) (.seq (.cond (.tmp 15) .skip (.exit 0)) (.seq (.block 1 (.seq (.old (.reg [1, 3, 4, 5, 12, 13, 14] c81_4)) (.seq (.old (.reg [1, 3, 4, 5, 6, 12, 13, 14] c81_5)) (.seq (.seq (.old (.reg [1, 3, 4, 5, 6, 12, 13, 14, 26] c81_6)) (.cond (.tmp 26) (.seq (.seq (.old (.reg [1, 3, 12, 13, 14, 28] c81_7)) (.cond (.tmp 28) (.seq (.old (.reg [2] c81_8)) .ret) .skip)) (.exit 1)) .skip)) (.seq (.seq (.old (.reg [1, 3, 4, 5, 6, 12, 13, 14, 42] c81_9)) (.cond (.tmp 42) (.seq (.old (.reg [2] c81_10)) .ret) .skip)) (.seq (.seq (.old (.reg [1, 3, 4, 5, 6, 7, 12, 13, 14] c81_11)) (.seq (.old (.reg [1, 3, 4, 6, 12, 13, 14, 64] c81_12)) (.cond (.tmp 64) (.seq (.old (.reg [2] c81_13)) .ret) .skip))) (.old (.reg [1, 3, 12, 13, 14] c81_14)))))))) (.old (.reg [1, 3, 12, 13, 14] c81_15)))))
noncomputable def r81_body : RCode := (.seq (.old (.reg [1] c81_0)) (.seq (.old (.reg [1, 3] c81_1)) (.seq (.seq (.old (.reg [1, 3, 12, 13, 14] c81_2)) (.block 0 (.loop [1, 3, 12, 13, 14] r81_16))) (.seq (.old (.reg [2] c81_17)) .ret))))
noncomputable def r81 : RFunc ⊕ Nat := .inl ⟨1, 72, r81_body, [.tmp 2]⟩
noncomputable def r82_body : RCode := (.seq (.old (.reg [0] c82_0)) (.seq (.old (.reg [3] c82_1)) (.seq (.old (.reg [3] c82_2)) (.seq (.old (.reg [2] c82_3)) .ret))))
noncomputable def r82 : RFunc ⊕ Nat := .inl ⟨1, 9, r82_body, [.tmp 2]⟩
noncomputable def r83_body : RCode := (.seq (.old (.reg [1] c83_0)) (.seq (.old (.reg [2] c83_1)) .ret))
noncomputable def r83 : RFunc ⊕ Nat := .inl ⟨1, 4, r83_body, [.tmp 2]⟩
noncomputable def r84_9 : RCode := (.seq (.old (.reg [0, 1, 12, 13, 14] c84_4)) (.seq (.cond (.tmp 14) .skip (.exit 0)) (.seq (.block 1 (.seq (.old (.reg [0, 1, 5, 12, 13] c84_5)) (.seq (.old (.qreg [0, 1, 12, 13, 24] c84_6)) (.cond (.tmp 24) (.seq (.old (.reg [4] c84_7)) .ret) .skip)))) (.old (.reg [0, 1, 12, 13] c84_8)))))
noncomputable def r84_body : RCode := (.seq (.old (.reg [0, 1] c84_0)) (.seq (.seq (.old (.reg [0, 1, 10] c84_1)) (.cond (.tmp 10) (.seq (.old (.reg [4] c84_2)) .ret) .skip)) (.seq (.seq (.old (.reg [0, 1, 12, 13] c84_3)) (.block 0 (.loop [0, 1, 12, 13] r84_9))) (.seq (.old (.reg [4] c84_10)) .ret))))
noncomputable def r84 : RFunc ⊕ Nat := .inl ⟨2, 26, r84_body, [.tmp 4]⟩
noncomputable def r85_body : RCode := (.seq (.run x85_0) (.seq (.run x85_1) .ret))
noncomputable def r85 : RFunc ⊕ Nat := .inl ⟨1, 5, r85_body, [.tmp 2]⟩
def r86 : RFunc ⊕ Nat := .inr 3
def r87 : RFunc ⊕ Nat := .inr 2
noncomputable def r98_body : RCode := (.seq (.run x98_0) (.seq (.run x98_1) .ret))
noncomputable def r98 : RFunc ⊕ Nat := .inl ⟨2, 13, r98_body, [.tmp 4]⟩
noncomputable def r100_body : RCode := (.seq (.old (.reg [1] c100_0)) (.seq (.run x100_1) .ret))
noncomputable def r100 : RFunc ⊕ Nat := .inl ⟨1, 16, r100_body, [.tmp 2]⟩
noncomputable def r101_body : RCode := (.seq (.run x101_0) (.seq (.run x101_1) .ret))
noncomputable def r101 : RFunc ⊕ Nat := .inl ⟨1, 11, r101_body, [.tmp 2]⟩
noncomputable def r102_body : RCode := (.seq (.run x102_0) (.seq (.run x102_1) .ret))
noncomputable def r102 : RFunc ⊕ Nat := .inl ⟨2, 9, r102_body, [.tmp 4]⟩
noncomputable def r103_body : RCode := (.seq (.run x103_0) (.seq (.seq (.run x103_1) (.cond (.tmp 8) (.seq (.old (.reg [2] c103_2)) .ret) .skip)) (.seq (.run x103_3) .ret)))
noncomputable def r103 : RFunc ⊕ Nat := .inl ⟨1, 12, r103_body, [.tmp 2]⟩
noncomputable def r104_7 : RCode := (.seq (.run x104_3) (.seq (.cond (.tmp 10) .skip (.exit 0)) (.seq (.block 1 (.seq (.run x104_4) (.run x104_5))) (.run x104_6))))
noncomputable def r104_body : RCode := (.seq (.old (.reg [1] c104_0)) (.seq (.old (.reg [1, 3] c104_1)) (.seq (.seq (.run x104_2) (.block 0 (.loop [3, 7, 8, 9] r104_7))) (.seq (.old (.reg [2] c104_8)) .ret))))
noncomputable def r104 : RFunc ⊕ Nat := .inl ⟨1, 19, r104_body, [.tmp 2]⟩
noncomputable def r105_body : RCode := (.seq (.old (.reg [0] c105_0)) (.seq (.run x105_1) .ret))
noncomputable def r105 : RFunc ⊕ Nat := .inl ⟨1, 9, r105_body, [.tmp 2]⟩
noncomputable def r106_body : RCode := (.seq (.run x106_0) (.seq (.run x106_1) .ret))
noncomputable def r106 : RFunc ⊕ Nat := .inl ⟨2, 13, r106_body, [.tmp 3]⟩
noncomputable def r107_7 : RCode := (.seq (.run x107_2) (.seq (.cond (.tmp 8) .skip (.exit 0)) (.seq (.block 1 (.seq (.run x107_3) (.seq (.run x107_4) (.cond (.tmp 29) (.seq (.old (.reg [2] c107_5)) .ret) .skip)))) (.run x107_6))))
noncomputable def r107_body : RCode := (.seq (.run x107_0) (.seq (.seq (.run x107_1) (.block 0 (.loop [0, 5, 6, 7] r107_7))) (.seq (.run x107_8) .ret)))
noncomputable def r107 : RFunc ⊕ Nat := .inl ⟨1, 31, r107_body, [.tmp 2]⟩
noncomputable def r108_body : RCode := (.seq (.run x108_0) (.seq (.run x108_1) .ret))
noncomputable def r108 : RFunc ⊕ Nat := .inl ⟨2, 9, r108_body, [.tmp 4]⟩
noncomputable def r109_body : RCode := (.seq (.run x109_0) (.seq (.run x109_1) .ret))
noncomputable def r109 : RFunc ⊕ Nat := .inl ⟨2, 8, r109_body, [.tmp 3]⟩
noncomputable def r110_body : RCode := (.seq (.run x110_0) (.seq (.run x110_1) (.seq (.run x110_2) (.seq (.seq (.run x110_3) (.block 0 (.seq (.run x110_4) (.cond (.tmp 12) (.seq (.old (.dreg [1, 2, 5] c110_5 c110_5b)) (.run x110_6)) (.seq (.old (.reg [1, 2, 5, 6, 11, 29] c110_7)) (.cond (.tmp 29) (.seq (.old (.dreg [1, 2, 5] c110_8 c110_8b)) (.run x110_9)) (.seq (.old (.reg [1, 2, 5, 6, 11, 46] c110_10)) (.cond (.tmp 46) .skip (.seq (.old (.reg [1, 2, 5, 11, 48] c110_11)) (.cond (.tmp 48) (.seq (.old (.dreg [1, 2, 5] c110_12 c110_12b)) (.old (.reg [2, 5, 6] c110_13))) (.seq (.old (.reg [2, 5, 11, 81] c110_14)) (.cond (.tmp 81) (.seq (.old (.dreg [2, 5] c110_15 c110_15b)) (.old (.reg [2, 5, 6] c110_16))) (.seq (.old (.reg [2, 5, 129] c110_17)) (.cond (.tmp 129) (.seq (.old (.dreg [2, 5] c110_18 c110_18b)) (.old (.reg [2, 5, 6] c110_19))) (.seq (.old (.reg [4] c110_20)) .ret))))))))))))))) (.seq (.run x110_21) .ret)))))
noncomputable def r110 : RFunc ⊕ Nat := .inl ⟨2, 159, r110_body, [.tmp 4]⟩
noncomputable def r111_15 : RCode := (.seq (.seq (.run x111_1) (.cond (.tmp 19) .skip (.exit 0))) (.block 1 (.seq (.run x111_2) (.seq (.old (.dreg [0, 3, 4, 5, 6, 7] c111_3 c111_3b)) (.seq (.seq (.run x111_4) (.block 2 (.seq (.run x111_5) (.cond (.tmp 36) (.seq (.seq (.old (.reg [0, 3, 4, 5, 6, 8, 9] c111_6)) (.seq (.old (.reg [0, 3, 4, 5, 6, 8, 46] c111_7)) (.cond (.tmp 46) (.old (.reg [0, 3, 4, 5, 6] c111_8)) .skip))) (.old (.reg [0, 3, 4] c111_9))) (.seq (.run x111_10) (.cond (.tmp 52) (.seq (.old (.reg [0, 3, 4, 5, 56] c111_11)) (.cond (.tmp 56) (.old (.reg [0, 3, 4] c111_12)) .skip)) (.seq (.run x111_13) .ret))))))) (.old (.reg [0, 3, 4] c111_14)))))))
noncomputable def r111_body : RCode := (.seq (.run x111_0) (.seq (.block 0 (.loop [0, 3, 4] r111_15)) (.seq (.run x111_16) .ret)))
noncomputable def r111 : RFunc ⊕ Nat := .inl ⟨2, 72, r111_body, [.cellN 4 5]⟩
noncomputable def r112_body : RCode := (.seq (.run x112_0) (.seq (.seq (.run x112_1) (.cond (.tmp 13) (.seq (.old (.reg [4] c112_2)) .ret) .skip)) (.seq (.run x112_3) .ret)))
noncomputable def r112 : RFunc ⊕ Nat := .inl ⟨2, 19, r112_body, [.tmp 4]⟩
noncomputable def r113_body : RCode := (.seq (.run x113_0) (.seq (.run x113_1) (.seq (.seq (.run x113_2) (.cond (.tmp 22) (.seq (.run x113_3) .ret) .skip)) (.seq (.run x113_4) (.seq (.seq (.run x113_5) (.cond (.tmp 36) (.seq (.old (.reg [6, 7] c113_6)) .ret) .skip)) (.seq (.run x113_7) .ret))))))
noncomputable def r113 : RFunc ⊕ Nat := .inl ⟨3, 39, r113_body, [.cellN 6 9, .tmp 7]⟩
noncomputable def r114_body : RCode := (.seq (.run x114_0) (.seq (.seq (.run x114_1) (.block 0 (.seq (.run x114_2) (.cond (.tmp 10) (.seq (.old (.dreg [6, 7] c114_3 c114_3b)) .ret) (.seq (.run x114_4) (.cond (.tmp 19) (.seq (.run x114_5) .ret) (.seq (.old (.reg [2, 3, 4, 6, 25] c114_6)) (.cond (.tmp 25) (.seq (.seq (.old (.reg [2, 3, 4, 6, 32] c114_7)) (.cond (.tmp 32) (.seq (.old (.dreg [6, 7] c114_8 c114_8b)) .ret) .skip)) (.seq (.old (.reg [6, 7] c114_9)) .ret)) .skip)))))))) (.seq (.old (.reg [6, 7] c114_10)) .ret)))
noncomputable def r114 : RFunc ⊕ Nat := .inl ⟨3, 46, r114_body, [.cellN 6 6, .tmp 7]⟩
noncomputable def r115_body : RCode := (.seq (.run x115_0) (.seq (.run x115_1) (.seq (.old (.dreg [0, 1, 3, 6, 8] c115_2 c115_2b)) (.seq (.old (.dreg [0, 1, 3, 6, 8] c115_3 c115_3b)) (.seq (.run x115_4) (.seq (.run x115_5) (.cond (.tmp 46) (.old (.dreg [] c115_6 c115_6b)) .skip)))))))
noncomputable def r115 : RFunc ⊕ Nat := .inl ⟨4, 65, r115_body, []⟩
noncomputable def r116_body : RCode := (.seq (.run x116_0) (.seq (.run x116_1) (.seq (.seq (.run x116_2) (.cond (.tmp 19) (.seq (.old (.reg [8] c116_3)) .ret) .skip)) (.seq (.seq (.run x116_4) (.cond (.tmp 28) (.run x116_5) .skip)) (.seq (.run x116_6) (.seq (.old (.dreg [8] c116_7 c116_7b)) .ret))))))
noncomputable def r116 : RFunc ⊕ Nat := .inl ⟨4, 42, r116_body, [.cellN 8 5]⟩
noncomputable def r117_body : RCode := (.seq (.run x117_0) (.seq (.seq (.run x117_1) (.cond (.tmp 4) (.seq (.old (.reg [2] c117_2)) .ret) .skip)) (.seq (.run x117_3) .ret)))
noncomputable def r117 : RFunc ⊕ Nat := .inl ⟨1, 8, r117_body, [.tmp 2]⟩
noncomputable def r118_body : RCode := (.seq (.run x118_0) (.seq (.run x118_1) (.seq (.old (.dreg [0, 1, 2, 6, 7, 8] c118_2 c118_2b)) (.seq (.run x118_3) (.seq (.old (.dreg [0, 1, 6] c118_4 c118_4b)) (.seq (.run x118_5) (.run x118_6)))))))
noncomputable def r118 : RFunc ⊕ Nat := .inl ⟨3, 62, r118_body, []⟩
noncomputable def r119_10 : RCode := (.seq (.run x119_5) (.seq (.cond (.tmp 36) .skip (.exit 0)) (.seq (.block 1 (.seq (.run x119_6) (.seq (.run x119_7) (.run x119_8)))) (.run x119_9))))
noncomputable def r119_25 : RCode := (.seq (.run x119_15) (.seq (.cond (.tmp 63) .skip (.exit 4)) (.seq (.block 5 (.seq (.run x119_16) (.seq (.run x119_17) (.seq (.seq (.run x119_18) (.cond (.tmp 67) (.seq (.run x119_19) (.seq (.run x119_20) (.seq (.run x119_21) (.cond (.tmp 85) (.run x119_22) .skip)))) .skip)) (.run x119_23))))) (.run x119_24))))
noncomputable def r119_27 : RCode := (.seq (.run x119_12) (.seq (.cond (.tmp 56) .skip (.exit 2)) (.seq (.block 3 (.seq (.run x119_13) (.seq (.run x119_14) (.block 4 (.loop [0, 4, 5, 6, 53, 54, 55, 60, 61, 62] r119_25))))) (.run x119_26))))
noncomputable def r119_body : RCode := (.seq (.run x119_0) (.seq (.run x119_1) (.seq (.run x119_2) (.seq (.run x119_3) (.seq (.seq (.run x119_4) (.block 0 (.loop [0, 4, 5, 6, 33, 34, 35] r119_10))) (.seq (.seq (.run x119_11) (.block 2 (.loop [0, 4, 5, 6, 53, 54, 55] r119_27))) (.seq (.run x119_28) .ret)))))))
noncomputable def r119 : RFunc ⊕ Nat := .inl ⟨1, 100, r119_body, [.tmp 2, .tmp 3]⟩
noncomputable def r120_8 : RCode := (.seq (.old (.reg [0, 1, 5, 12, 13, 14, 15] c120_2)) (.seq (.cond (.tmp 15) .skip (.exit 0)) (.seq (.block 1 (.seq (.run x120_3) (.seq (.seq (.run x120_4) (.cond (.tmp 26) (.exit 1) .skip)) (.seq (.old (.dreg [0, 1, 5, 12, 13, 14, 40] c120_5 c120_5b)) (.cond (.tmp 40) (.seq (.old (.reg [6] c120_6)) .ret) .skip))))) (.old (.reg [0, 1, 5, 12, 13, 14] c120_7)))))
noncomputable def r120_body : RCode := (.seq (.old (.reg [0, 1, 5] c120_0)) (.seq (.seq (.old (.reg [0, 1, 5, 12, 13, 14] c120_1)) (.block 0 (.loop [0, 1, 5, 12, 13, 14] r120_8))) (.seq (.old (.reg [6] c120_9)) .ret)))
noncomputable def r120 : RFunc ⊕ Nat := .inl ⟨3, 42, r120_body, [.tmp 6]⟩
noncomputable def r121_13 : RCode := (.seq (.run x121_4) (.seq (.cond (.tmp 22) .skip (.exit 0)) (.seq (.block 1 (.seq (.run x121_5) (.seq (.seq (.old (.dreg [0, 1, 2, 4, 5, 9, 19, 20, 21, 38] c121_6 c121_6b)) (.cond (.tmp 38) (.exit 1) .skip)) (.seq (.run x121_7) (.seq (.old (.dreg [0, 1, 2, 4, 5, 10, 19, 20, 21] c121_8 c121_8b)) (.seq (.run x121_9) (.seq (.run x121_10) (.cond (.tmp 54) (.seq (.old (.reg [7] c121_11)) .ret) .skip)))))))) (.run x121_12))))
noncomputable def r121_body : RCode := (.seq (.run x121_0) (.seq (.seq (.run x121_1) (.cond (.tmp 15) (.seq (.run x121_2) .ret) .skip)) (.seq (.seq (.run x121_3) (.block 0 (.loop [0, 1, 2, 4, 5, 19, 20, 21] r121_13))) (.seq (.run x121_14) .ret))))
noncomputable def r121 : RFunc ⊕ Nat := .inl ⟨6, 56, r121_body, [.tmp 7]⟩
noncomputable def r122_7 : RCode := (.seq (.run x122_3) (.seq (.cond (.tmp 9) .skip (.exit 0)) (.seq (.block 1 (.seq (.run x122_4) (.run x122_5))) (.run x122_6))))
noncomputable def r122_body : RCode := (.seq (.run x122_0) (.seq (.run x122_1) (.seq (.seq (.run x122_2) (.block 0 (.loop [3, 6, 7, 8] r122_7))) (.seq (.run x122_8) .ret))))
noncomputable def r122 : RFunc ⊕ Nat := .inl ⟨1, 17, r122_body, [.tmp 2]⟩
noncomputable def r123_8 : RCode := (.seq (.run x123_4) (.seq (.cond (.tmp 19) .skip (.exit 0)) (.seq (.block 1 (.seq (.run x123_5) (.run x123_6))) (.run x123_7))))
noncomputable def r123_body : RCode := (.seq (.run x123_0) (.seq (.seq (.run x123_1) (.cond (.tmp 13) (.seq (.run x123_2) (.seq (.seq (.run x123_3) (.block 0 (.loop [3, 8, 16, 17, 18] r123_8))) (.seq (.run x123_9) .ret))) .skip)) (.seq (.run x123_10) .ret)))
noncomputable def r123 : RFunc ⊕ Nat := .inl ⟨6, 36, r123_body, [.tmp 7]⟩
noncomputable def r124_body : RCode := (.seq (.run x124_0) (.seq (.run x124_1) (.seq (.run x124_2) .ret)))
noncomputable def r124 : RFunc ⊕ Nat := .inl ⟨4, 14, r124_body, [.tmp 5]⟩
noncomputable def r140_31 : RCode := (.block 1 (.seq (.old (.reg [0, 1, 2, 3, 4, 10, 11, 12] c140_2)) (.seq (.seq (.old (.reg [0, 1, 2, 3, 4, 10, 11, 12, 25] c140_3)) (.cond (.tmp 25) (.seq (.old (.reg [] c140_4)) .ret) .skip)) (.seq (.seq (.old (.reg [0, 1, 2, 3, 4, 10, 11, 12, 32] c140_5)) (.cond (.tmp 32) (.seq (.old (.reg [] c140_6)) .ret) .skip)) (.seq (.seq (.old (.reg [0, 1, 2, 3, 4, 10, 11, 12, 39] c140_7)) (.cond (.tmp 39) (.seq (.old (.reg [0, 1, 2, 3, 4, 10, 11, 12] c140_8)) (.old (.reg [0, 1, 2, 3, 4, 10, 11, 12] c140_9))) .skip)) (.seq (.old (.reg [0, 1, 2, 3, 4, 10, 11, 12, 13, 14] c140_10)) (.seq (.seq (.old (.reg [0, 1, 2, 3, 4, 10, 11, 12, 13, 14, 56] c140_11)) (.cond (.tmp 56) (.seq (.old (.reg [0, 1, 2, 3, 4, 10, 11, 12, 13] c140_12)) (.seq (.old (.reg [0, 1, 2, 3, 4, 10, 11, 12, 13] c140_13)) (.old (.reg [0, 1, 2, 3, 4, 10, 11, 12, 13, 14] c140_14)))) .skip)) (.seq (.seq (.old (.reg [0, 1, 2, 3, 4, 10, 11, 12, 13, 75] c140_15)) (.cond (.tmp 75) (.seq (.old (.reg [0, 1, 2, 3, 4, 10, 11, 12, 13, 80] c140_16)) (.cond (.tmp 80) .ret .skip)) .skip)) (.seq (.seq (.old (.dreg [0, 1, 2, 3, 4, 10, 11, 12, 13, 97] c140_17 c140_17b)) (.cond (.tmp 97) (.seq (.old (.reg [0, 2, 3, 4, 10, 11, 15] c140_18)) (.seq (.old (.reg [0, 1, 2, 3, 4, 10, 11] c140_19)) (.exit 1))) .skip)) (.seq (.old (.reg [0, 1, 2, 3, 4, 12, 16, 17] c140_20)) (.seq (.old (.reg [0, 1, 2, 3, 4, 11, 12, 16] c140_21)) (.seq (.old (.reg [0, 1, 2, 3, 4, 11, 12, 16, 18, 19] c140_22)) (.seq (.old (.reg [0, 1, 2, 3, 4, 11, 16, 18, 19, 20] c140_23)) (.seq (.old (.reg [0, 1, 2, 3, 4, 11, 16, 18, 19, 20, 125] c140_24)) (.cond (.tmp 125) (.seq (.old (.reg [0, 1, 2, 3, 4, 10, 11, 16] c140_25)) (.seq (.old (.reg [0, 2, 3, 4, 10, 11, 16] c140_26)) (.old (.reg [0, 1, 2, 3, 4, 10, 11] c140_27)))) (.seq (.old (.reg [0, 1, 2, 3, 4, 10, 11, 16] c140_28)) (.seq (.old (.reg [0, 1, 3, 4, 10, 11, 16] c140_29)) (.old (.reg [0, 1, 2, 3, 4, 10, 11] c140_30)))))))))))))))))))
noncomputable def r140_body : RCode := (.seq (.old (.reg [0, 1, 2, 3, 4, 10] c140_0)) (.seq (.old (.reg [0, 1, 2, 3, 4, 10, 11] c140_1)) (.block 0 (.loop [0, 1, 2, 3, 4, 10, 11] r140_31))))
noncomputable def r140 : RFunc ⊕ Nat := .inl ⟨5, 148, r140_body, []⟩
noncomputable def r141_body : RCode := (.seq (.old (.reg [0] c141_0)) (.seq (.cond (.const (.bool false)) (.seq (.old (.reg [2] c141_1)) .ret) .skip) (.seq (.old (.reg [2] c141_2)) .ret)))
noncomputable def r141 : RFunc ⊕ Nat := .inl ⟨1, 8, r141_body, [.tmp 2]⟩
noncomputable def r142_8 : RCode := (.seq (.run x142_3) (.seq (.cond (.tmp 9) .skip (.exit 0)) (.seq (.block 1 (.seq (.run x142_4) (.seq (.run x142_5) (.cond (.tmp 14) (.seq (.run x142_6) .ret) .skip)))) (.run x142_7))))
noncomputable def r142_body : RCode := (.seq (.run x142_0) (.seq (.run x142_1) (.seq (.seq (.run x142_2) (.block 0 (.loop [3, 6, 7, 8] r142_8))) (.seq (.run x142_9) .ret))))
noncomputable def r142 : RFunc ⊕ Nat := .inl ⟨1, 18, r142_body, [.tmp 2]⟩
noncomputable def r143_11 : RCode := (.seq (.run x143_2) (.seq (.cond (.tmp 14) .skip (.exit 0)) (.seq (.block 1 (.seq (.run x143_3) (.seq (.seq (.run x143_4) (.cond (.tmp 21) (.seq (.old (.reg [6] c143_5)) .ret) .skip)) (.seq (.run x143_6) (.seq (.run x143_7) (.seq (.run x143_8) (.cond (.tmp 31) (.seq (.old (.reg [6] c143_9)) .ret) .skip))))))) (.run x143_10))))
noncomputable def r143_body : RCode := (.seq (.run x143_0) (.seq (.seq (.run x143_1) (.block 0 (.loop [0, 1, 2, 11, 12, 13] r143_11))) (.seq (.seq (.run x143_12) (.cond (.tmp 38) (.seq (.old (.reg [6] c143_13)) .ret) .skip)) (.seq (.run x143_14) .ret))))
noncomputable def r143 : RFunc ⊕ Nat := .inl ⟨3, 39, r143_body, [.tmp 6]⟩
noncomputable def r144_body : RCode := (.seq (.run x144_0) (.seq (.old (.dreg [4] c144_1 c144_1b)) .ret))
noncomputable def r144 : RFunc ⊕ Nat := .inl ⟨2, 37, r144_body, [.tmp 4]⟩
noncomputable def r145_11 : RCode := (.seq (.run x145_2) (.seq (.cond (.tmp 12) .skip (.exit 0)) (.seq (.block 1 (.seq (.run x145_3) (.seq (.seq (.run x145_4) (.cond (.tmp 19) (.seq (.old (.reg [4] c145_5)) .ret) .skip)) (.seq (.run x145_6) (.seq (.run x145_7) (.seq (.run x145_8) (.cond (.tmp 28) (.seq (.run x145_9) .ret) .skip))))))) (.run x145_10))))
noncomputable def r145_body : RCode := (.seq (.run x145_0) (.seq (.seq (.run x145_1) (.block 0 (.loop [0, 1, 9, 10, 11] r145_11))) (.seq (.seq (.run x145_12) (.cond (.tmp 35) (.seq (.old (.reg [4] c145_13)) .ret) .skip)) (.seq (.run x145_14) .ret))))
noncomputable def r145 : RFunc ⊕ Nat := .inl ⟨2, 36, r145_body, [.tmp 4]⟩
noncomputable def r146_11 : RCode := (.seq (.run x146_2) (.seq (.cond (.tmp 14) .skip (.exit 0)) (.seq (.block 1 (.seq (.run x146_3) (.seq (.seq (.run x146_4) (.cond (.tmp 21) (.seq (.old (.reg [6] c146_5)) .ret) .skip)) (.seq (.run x146_6) (.seq (.run x146_7) (.seq (.run x146_8) (.cond (.tmp 31) (.seq (.run x146_9) .ret) .skip))))))) (.old (.reg [0, 1, 2, 11, 12, 13] c146_10)))))
noncomputable def r146_body : RCode := (.seq (.run x146_0) (.seq (.seq (.run x146_1) (.block 0 (.loop [0, 1, 2, 11, 12, 13] r146_11))) (.seq (.seq (.old (.reg [38] c146_12)) (.cond (.tmp 38) (.seq (.old (.reg [6] c146_13)) .ret) .skip)) (.seq (.old (.reg [6] c146_14)) .ret))))
noncomputable def r146 : RFunc ⊕ Nat := .inl ⟨3, 39, r146_body, [.tmp 6]⟩
noncomputable def r147_7 : RCode := (.seq (.run x147_3) (.seq (.cond (.tmp 10) .skip (.exit 0)) (.seq (.block 1 (.seq (.run x147_4) (.run x147_5))) (.run x147_6))))
noncomputable def r147_body : RCode := (.seq (.run x147_0) (.seq (.run x147_1) (.seq (.seq (.run x147_2) (.block 0 (.loop [3, 7, 8, 9] r147_7))) (.seq (.run x147_8) .ret))))
noncomputable def r147 : RFunc ⊕ Nat := .inl ⟨1, 23, r147_body, [.tmp 2]⟩
noncomputable def r148_body : RCode := (.seq (.old (.reg [0, 1] c148_0)) (.seq (.old (.reg [4] c148_1)) .ret))
noncomputable def r148 : RFunc ⊕ Nat := .inl ⟨2, 8, r148_body, [.tmp 4]⟩
noncomputable def r149_16 : RCode := (.block 1 (.seq (.old (.reg [1, 2, 3, 6, 7, 9, 10] c149_2)) (.seq (.seq (.old (.reg [1, 2, 3, 6, 7, 9, 25] c149_3)) (.cond (.tmp 25) (.seq (.old (.dreg [6, 7, 8] c149_4 c149_4b)) .ret) .skip)) (.seq (.old (.reg [1, 2, 3, 6, 7, 9, 11] c149_5)) (.seq (.seq (.old (.reg [1, 2, 3, 6, 7, 9, 11, 30] c149_6)) (.cond (.tmp 30) (.old (.reg [1, 2, 3, 6, 7, 9, 11] c149_7)) .skip)) (.seq (.old (.reg [1, 2, 3, 6, 7, 11, 12, 13] c149_8)) (.seq (.seq (.old (.reg [1, 2, 3, 6, 7, 11, 12, 41] c149_9)) (.cond (.tmp 41) (.seq (.seq (.old (.reg [1, 2, 3, 6, 7, 11, 12, 44] c149_10)) (.cond (.tmp 44) (.seq (.old (.dreg [6, 7, 8] c149_11 c149_11b)) .ret) .skip)) (.old (.reg [1, 2, 3, 6, 7, 11, 12] c149_12))) .skip)) (.seq (.old (.reg [1, 2, 3, 6, 7, 11, 12] c149_13)) (.seq (.old (.reg [1, 2, 3, 6, 7, 11] c149_14)) (.old (.reg [1, 2, 3, 6, 7] c149_15)))))))))))
noncomputable def r149_body : RCode := (.seq (.old (.reg [1, 2, 3, 6, 7] c149_0)) (.seq (.old (.reg [1, 2, 3, 6, 7] c149_1)) (.block 0 (.loop [1, 2, 3, 6, 7] r149_16))))
noncomputable def r149 : RFunc ⊕ Nat := .inl ⟨3, 63, r149_body, [.tmp 6, .cellN 7 5, .tmp 8]⟩
noncomputable def r150_body : RCode := (.seq (.old (.reg [0] c150_0)) (.seq (.old (.reg [2] c150_1)) .ret))
noncomputable def r150 : RFunc ⊕ Nat := .inl ⟨1, 5, r150_body, [.tmp 2]⟩
noncomputable def r151_body : RCode := (.seq (.old (.reg [0, 2] c151_0)) (.old (.reg [] c151_1)))
noncomputable def r151 : RFunc ⊕ Nat := .inl ⟨1, 11, r151_body, []⟩
noncomputable def r153_body : RCode := (.seq (.run x153_0) (.seq (.run x153_1) .ret))
noncomputable def r153 : RFunc ⊕ Nat := .inl ⟨1, 5, r153_body, [.tmp 2]⟩
def r154 : RFunc ⊕ Nat := .inr 3
noncomputable def r171_7 : RCode := (.seq (.run x171_2) (.seq (.cond (.tmp 9) .skip (.exit 0)) (.seq (.block 1 (.seq (.run x171_3) (.seq (.run x171_4) (.cond (.tmp 16) (.seq (.old (.reg [4] c171_5)) .ret) .skip)))) (.run x171_6))))
noncomputable def r171_body : RCode := (.seq (.run x171_0) (.seq (.seq (.run x171_1) (.block 0 (.loop [0, 1, 7, 8] r171_7))) (.seq (.run x171_8) .ret)))
noncomputable def r171 : RFunc ⊕ Nat := .inl ⟨2, 19, r171_body, [.tmp 4]⟩
noncomputable def r172_body : RCode := (.seq (.old (.reg [1] c172_0)) (.seq (.run x172_1) .ret))
noncomputable def r172 : RFunc ⊕ Nat := .inl ⟨1, 16, r172_body, [.tmp 2]⟩
noncomputable def r173_body : RCode := (.seq (.old (.reg [0] c173_0)) (.seq (.run x173_1) .ret))
noncomputable def r173 : RFunc ⊕ Nat := .inl ⟨1, 9, r173_body, [.tmp 2]⟩
noncomputable def r174_body : RCode := (.seq (.run x174_0) (.seq (.seq (.run x174_1) (.cond (.tmp 12) (.seq (.run x174_2) .ret) .skip)) (.seq (.run x174_3) .ret)))
noncomputable def r174 : RFunc ⊕ Nat := .inl ⟨2, 20, r174_body, [.tmp 4]⟩
noncomputable def r176_body : RCode := (.seq (.run x176_0) (.cond (.tmp 11) (.run x176_1) .skip))
noncomputable def r176 : RFunc ⊕ Nat := .inl ⟨3, 18, r176_body, []⟩
noncomputable def r177_body : RCode := (.seq (.run x177_0) (.seq (.run x177_1) .ret))
noncomputable def r177 : RFunc ⊕ Nat := .inl ⟨1, 9, r177_body, [.tmp 2]⟩
noncomputable def r178_body : RCode := (.seq (.run x178_0) (.seq (.run x178_1) .ret))
noncomputable def r178 : RFunc ⊕ Nat := .inl ⟨1, 9, r178_body, [.tmp 2]⟩
noncomputable def r179_body : RCode := (.seq (.old (.reg [0] c179_0)) (.seq (.run x179_1) .ret))
noncomputable def r179 : RFunc ⊕ Nat := .inl ⟨1, 9, r179_body, [.tmp 2]⟩
noncomputable def r180_10 : RCode := (.seq (.seq (.run x180_8) (.cond (.tmp 37) .skip (.exit 0))) (.block 1 (.old (.dreg [7, 8] c180_9 c180_9b))))
noncomputable def r180_body : RCode := (.seq (.old (.reg [0, 1] c180_0)) (.seq (.seq (.run x180_1) (.cond (.tmp 10) (.old (.reg [0, 1] c180_2)) .skip)) (.seq (.run x180_3) (.seq (.seq (.run x180_4) (.cond (.tmp 26) (.old (.reg [0, 6] c180_5)) .skip)) (.seq (.run x180_6) (.seq (.run x180_7) (.seq (.block 0 (.loop [7, 8] r180_10)) (.seq (.run x180_11) .ret))))))))
noncomputable def r180 : RFunc ⊕ Nat := .inl ⟨2, 48, r180_body, [.tmp 4]⟩
noncomputable def r187_6 : RCode := (.seq (.seq (.old (.dreg [0, 1, 2, 3, 8, 9, 34] c187_3 c187_3b)) (.cond (.tmp 34) .skip (.exit 2))) (.seq (.block 3 (.old (.dreg [0, 1, 2, 3, 8, 9] c187_4 c187_4b))) (.old (.reg [0, 1, 2, 3, 8, 9] c187_5))))
noncomputable def r187_8 : RCode := (.seq (.seq (.run x187_1) (.cond (.tmp 14) .skip (.exit 0))) (.seq (.block 1 (.seq (.old (.reg [0, 1, 2, 3, 8, 9] c187_2)) (.block 2 (.loop [0, 1, 2, 3, 8, 9] r187_6)))) (.old (.reg [0, 1, 2, 3, 8] c187_7))))
noncomputable def r187_body : RCode := (.seq (.old (.reg [0, 1, 2, 3, 8] c187_0)) (.block 0 (.loop [0, 1, 2, 3, 8] r187_8)))
noncomputable def r187 : RFunc ⊕ Nat := .inl ⟨4, 53, r187_body, []⟩
noncomputable def r190_body : RCode := (.seq (.old (.reg [0, 1, 2, 3] c190_0)) (.seq (.old (.reg [0, 1, 3, 10] c190_1)) (.seq (.old (.reg [0, 1, 3, 10, 11] c190_2)) (.seq (.old (.reg [0, 1, 3, 10, 11, 12] c190_3)) (.seq (.old (.reg [0, 1, 3, 10, 11, 12, 13] c190_4)) (.seq (.old (.reg [0, 3, 10, 11, 12, 13, 14] c190_5)) (.seq (.seq (.old (.reg [0, 3, 10, 11, 12, 13, 14, 34] c190_6)) (.cond (.tmp 34) (.seq (.seq (.old (.reg [0, 3, 11, 12, 13, 14, 36] c190_7)) (.cond (.tmp 36) (.seq (.old (.reg [0, 3, 11, 12, 13, 14] c190_8)) (.seq (.old (.reg [0, 3, 11, 12, 13, 14] c190_9)) (.old (.reg [0, 3, 11, 12, 13, 14] c190_10)))) .skip)) (.old (.reg [11, 13] c190_11))) .skip)) (.seq (.old (.reg [13, 55] c190_12)) (.block 0 (.seq (.old (.reg [13, 55, 57] c190_13)) (.cond (.tmp 57) (.seq (.old (.reg [8, 9] c190_14)) .ret) (.seq (.old (.reg [13, 60] c190_15)) (.cond (.tmp 60) (.seq (.old (.reg [8, 9] c190_16)) .ret) (.seq (.old (.reg [8, 9] c190_17)) .ret))))))))))))))
noncomputable def r190 : RFunc ⊕ Nat := .inl ⟨4, 63, r190_body, [.tmp 8, .tmp 9]⟩
noncomputable def r192_6 : RCode := (.seq (.seq (.old (.dreg [0, 1, 2, 3, 9, 10, 36] c192_4 c192_4b)) (.cond (.tmp 36) .skip (.exit 2))) (.block 3 (.run x192_5)))
noncomputable def r192_18 : RCode := (.seq (.seq (.old (.reg [0, 1, 2, 3, 9, 10, 11, 69] c192_14)) (.cond (.tmp 69) .skip (.exit 4))) (.seq (.block 5 (.seq (.seq (.old (.dreg [0, 1, 2, 3, 9, 10, 11, 84] c192_15 c192_15b)) (.cond (.tmp 84) (.exit 4) .skip)) (.old (.dreg [0, 1, 2, 3, 9, 10, 11] c192_16 c192_16b)))) (.old (.reg [0, 1, 2, 3, 9, 10, 11] c192_17))))
noncomputable def r192_25 : RCode := (.seq (.seq (.old (.reg [0, 1, 2, 3, 9, 10, 12, 109] c192_21)) (.cond (.tmp 109) .skip (.exit 6))) (.seq (.block 7 (.seq (.seq (.old (.dreg [0, 1, 2, 3, 9, 10, 12, 124] c192_22 c192_22b)) (.cond (.tmp 124) (.exit 6) .skip)) (.old (.dreg [0, 1, 2, 3, 9, 10, 12] c192_23 c192_23b)))) (.old (.reg [0, 1, 2, 3, 9, 10, 12] c192_24))))
noncomputable def r192_27 : RCode := (.seq (.seq (.old (.reg [0, 1, 2, 3, 9, 10, 16] c192_3)) (.cond (.tmp 16) .skip (.exit 0))) (.seq (.block 1 (.seq (.block 2 (.loop [0, 1, 2, 3, 9, 10] r192_6)) (.seq (.seq (.old (.reg [0, 1, 2, 3, 9, 10, 41] c192_7)) (.cond (.tmp 41) (.seq (.old (.reg [8] c192_8)) .ret) .skip)) (.seq (.seq (.old (.reg [0, 1, 2, 3, 9, 10, 45] c192_9)) (.cond (.tmp 45) (.seq (.old (.reg [8] c192_10)) .ret) .skip)) (.seq (.old (.dreg [0, 1, 2, 3, 9, 10] c192_11 c192_11b)) (.seq (.seq (.old (.reg [0, 1, 2, 3, 9, 10, 65] c192_12)) (.cond (.tmp 65) (.seq (.old (.reg [0, 1, 2, 3, 9, 10, 11] c192_13)) (.block 4 (.loop [0, 1, 2, 3, 9, 10, 11] r192_18))) .skip)) (.seq (.old (.reg [0, 1, 2, 3, 9, 10, 104] c192_19)) (.cond (.tmp 104) (.seq (.old (.reg [0, 1, 2, 3, 9, 10, 12] c192_20)) (.block 6 (.loop [0, 1, 2, 3, 9, 10, 12] r192_25))) .skip)))))))) (.old (.reg [0, 1, 2, 3, 9, 10] c192_26))))
noncomputable def r192_body : RCode := (.seq (.old (.reg [0, 1, 2, 3] c192_0)) (.seq (.old (.reg [0, 1, 2, 3, 9] c192_1)) (.seq (.seq (.old (.reg [0, 1, 2, 3, 9, 10] c192_2)) (.block 0 (.loop [0, 1, 2, 3, 9, 10] r192_27))) (.seq (.old (.reg [8] c192_28)) .ret))))
noncomputable def r192 : RFunc ⊕ Nat := .inl ⟨4, 141, r192_body, [.tmp 8]⟩
noncomputable def r196_body : RCode := (.seq (.old (.reg [0, 2] c196_0)) (.seq (.seq (.old (.reg [0, 2, 4] c196_1)) (.cond (.tmp 4) (.seq (.old (.reg [0] c196_2)) (.old (.reg [0, 2] c196_3))) .skip)) (.seq (.seq (.old (.reg [0, 2, 8] c196_4)) (.cond (.tmp 8) (.seq (.old (.reg [0, 2] c196_5)) (.old (.reg [0, 2] c196_6))) .skip)) (.seq (.seq (.old (.reg [0, 2, 14] c196_7)) (.cond (.tmp 14) (.seq (.old (.reg [0, 2] c196_8)) (.old (.reg [0, 2] c196_9))) .skip)) (.seq (.run x196_10) .ret)))))
noncomputable def r196 : RFunc ⊕ Nat := .inl ⟨1, 25, r196_body, [.tmp 2]⟩
noncomputable def r197_body : RCode := (.seq (.run x197_0) (.seq (.run x197_1) (.seq (.run x197_2) (.seq (.seq (.run x197_3) (.cond (.tmp 11) (.seq (.seq (.old (.reg [12] c197_4)) (.cond (.tmp 12) (.seq (.old (.reg [4] c197_5)) .ret) .skip)) (.seq (.old (.reg [4] c197_6)) .ret)) .skip)) (.seq (.seq (.run x197_7) (.cond (.tmp 13) (.seq (.old (.reg [4] c197_8)) .ret) .skip)) (.seq (.seq (.run x197_9) (.cond (.tmp 16) (.seq (.old (.reg [4] c197_10)) .ret) .skip)) (.seq (.seq (.run x197_11) (.cond (.tmp 19) (.seq (.run x197_12) .ret) .skip)) (.seq (.run x197_13) .ret))))))))
noncomputable def r197 : RFunc ⊕ Nat := .inl ⟨2, 20, r197_body, [.tmp 4]⟩
noncomputable def r198_body : RCode := (.seq (.run x198_0) (.seq (.run x198_1) (.seq (.run x198_2) (.seq (.seq (.run x198_3) (.cond (.tmp 11) (.seq (.seq (.old (.reg [12] c198_4)) (.cond (.tmp 12) (.seq (.old (.reg [4] c198_5)) .ret) .skip)) (.seq (.old (.reg [4] c198_6)) .ret)) .skip)) (.seq (.seq (.run x198_7) (.cond (.tmp 13) (.seq (.old (.reg [4] c198_8)) .ret) .skip)) (.seq (.seq (.run x198_9) (.cond (.tmp 16) (.seq (.old (.reg [4] c198_10)) .ret) .skip)) (.seq (.seq (.run x198_11) (.cond (.tmp 19) (.seq (.old (.reg [4] c198_12)) .ret) .skip)) (.seq (.run x198_13) .ret))))))))
noncomputable def r198 : RFunc ⊕ Nat := .inl ⟨2, 20, r198_body, [.tmp 4]⟩
noncomputable def r199_9 : RCode := (.seq (.old (.reg [0, 1, 12, 13, 14] c199_4)) (.seq (.cond (.tmp 14) .skip (.exit 0)) (.seq (.block 1 (.seq (.old (.reg [0, 1, 5, 12, 13] c199_5)) (.seq (.old (.qreg [0, 1, 12, 13, 24] c199_6)) (.cond (.tmp 24) (.seq (.old (.reg [4] c199_7)) .ret) .skip)))) (.old (.reg [0, 1, 12, 13] c199_8)))))
noncomputable def r199_body : RCode := (.seq (.old (.reg [0, 1] c199_0)) (.seq (.seq (.old (.reg [0, 1, 10] c199_1)) (.cond (.tmp 10) (.seq (.old (.reg [4] c199_2)) .ret) .skip)) (.seq (.seq (.old (.reg [0, 1, 12, 13] c199_3)) (.block 0 (.loop [0, 1, 12, 13] r199_9))) (.seq (.old (.reg [4] c199_10)) .ret))))
noncomputable def r199 : RFunc ⊕ Nat := .inl ⟨2, 26, r199_body, [.tmp 4]⟩
def r200 : RFunc ⊕ Nat := .inr 4
noncomputable def r201_31 : RCode := (.block 1 (.seq (.old (.reg [0, 1, 2, 3, 8, 9, 10] c201_2)) (.seq (.seq (.old (.reg [0, 1, 2, 3, 8, 9, 10, 23] c201_3)) (.cond (.tmp 23) (.seq (.old (.reg [] c201_4)) .ret) .skip)) (.seq (.seq (.old (.reg [0, 1, 2, 3, 8, 9, 10, 29] c201_5)) (.cond (.tmp 29) (.seq (.old (.reg [] c201_6)) .ret) .skip)) (.seq (.seq (.old (.reg [0, 1, 2, 3, 8, 9, 10, 35] c201_7)) (.cond (.tmp 35) (.seq (.old (.reg [0, 1, 2, 3, 8, 9, 10] c201_8)) (.old (.reg [0, 1, 2, 3, 8, 9, 10] c201_9))) .skip)) (.seq (.old (.reg [0, 1, 2, 3, 8, 9, 10, 11, 12] c201_10)) (.seq (.seq (.old (.reg [0, 1, 2, 3, 8, 9, 10, 11, 12, 50] c201_11)) (.cond (.tmp 50) (.seq (.old (.reg [0, 1, 2, 3, 8, 9, 10, 11] c201_12)) (.seq (.old (.reg [0, 1, 2, 3, 8, 9, 10, 11] c201_13)) (.old (.reg [0, 1, 2, 3, 8, 9, 10, 11, 12] c201_14)))) .skip)) (.seq (.seq (.old (.reg [0, 1, 2, 3, 8, 9, 10, 11, 68] c201_15)) (.cond (.tmp 68) (.seq (.old (.reg [0, 1, 2, 3, 8, 9, 10, 11, 72] c201_16)) (.cond (.tmp 72) .ret .skip)) .skip)) (.seq (.seq (.old (.dreg [0, 1, 2, 3, 8, 9, 10, 11, 87] c201_17 c201_17b)) (.cond (.tmp 87) (.seq (.old (.reg [0, 2, 3, 8, 9, 13] c201_18)) (.seq (.old (.reg [0, 1, 2, 3, 8, 9] c201_19)) (.exit 1))) .skip)) (.seq (.old (.reg [0, 1, 2, 3, 10, 14, 15] c201_20)) (.seq (.old (.reg [0, 1, 2, 3, 9, 10, 14] c201_21)) (.seq (.old (.reg [0, 1, 2, 3, 9, 10, 14, 16, 17] c201_22)) (.seq (.old (.reg [0, 1, 2, 3, 9, 14, 16, 17, 18] c201_23)) (.seq (.old (.reg [0, 1, 2, 3, 9, 14, 16, 17, 18, 113] c201_24)) (.cond (.tmp 113) (.seq (.old (.reg [0, 1, 2, 3, 8, 9, 14] c201_25)) (.seq (.old (.reg [0, 2, 3, 8, 9, 14] c201_26)) (.old (.reg [0, 1, 2, 3, 8, 9] c201_27)))) (.seq (.old (.reg [0, 1, 2, 3, 8, 9, 14] c201_28)) (.seq (.old (.reg [0, 1, 3, 8, 9, 14] c201_29)) (.old (.reg [0, 1, 2, 3, 8, 9] c201_30)))))))))))))))))))
noncomputable def r201_body : RCode := (.seq (.old (.reg [0, 1, 2, 3, 8] c201_0)) (.seq (.old (.reg [0, 1, 2, 3, 8, 9] c201_1)) (.block 0 (.loop [0, 1, 2, 3, 8, 9] r201_31))))
noncomputable def r201 : RFunc ⊕ Nat := .inl ⟨4, 134, r201_body, []⟩
noncomputable def r223_body : RCode := (.seq (.run x223_0) (.seq (.cond (.const (.bool false)) (.seq (.old (.reg [6, 7] c223_1)) (.seq (.old (.reg [4, 5] c223_2)) .ret)) .skip) (.seq (.run x223_3) (.seq (.run x223_4) .ret))))
noncomputable def r223 : RFunc ⊕ Nat := .inl ⟨2, 30, r223_body, [.tmp 4, .tmp 5]⟩
noncomputable def r228_body : RCode := (.seq (.old (.reg [0, 1, 2, 3, 4, 5] c228_0)) (.seq (.old (.reg [0, 1, 2, 3, 4, 5] c228_1)) (.seq (.old (.reg [0, 1, 2, 4, 5] c228_2)) (.seq (.old (.reg [2] c228_3)) (.seq (.old (.reg [12] c228_4)) .ret)))))
noncomputable def r228 : RFunc ⊕ Nat := .inl ⟨6, 41, r228_body, [.tmp 12]⟩
noncomputable def r229_body : RCode := (.seq (.run x229_0) (.seq (.run x229_1) .ret))
noncomputable def r229 : RFunc ⊕ Nat := .inl ⟨1, 6, r229_body, [.tmp 2]⟩
noncomputable def r230_body : RCode := (.seq (.run x230_0) (.seq (.run x230_1) .ret))
noncomputable def r230 : RFunc ⊕ Nat := .inl ⟨1, 6, r230_body, [.tmp 2]⟩
noncomputable def r231_6 : RCode := (.seq (.seq (.old (.dreg [0, 1, 2, 6, 7, 30] c231_3 c231_3b)) (.cond (.tmp 30) .skip (.exit 2))) (.seq (.block 3 (.old (.dreg [0, 1, 2, 6, 7] c231_4 c231_4b))) (.old (.reg [0, 1, 2, 6, 7] c231_5))))
noncomputable def r231_8 : RCode := (.seq (.seq (.old (.reg [0, 1, 2, 6, 12] c231_1)) (.cond (.tmp 12) .skip (.exit 0))) (.seq (.block 1 (.seq (.old (.reg [0, 1, 2, 6, 7] c231_2)) (.block 2 (.loop [0, 1, 2, 6, 7] r231_6)))) (.old (.reg [0, 1, 2, 6] c231_7))))
noncomputable def r231_body : RCode := (.seq (.old (.reg [0, 1, 2, 6] c231_0)) (.block 0 (.loop [0, 1, 2, 6] r231_8)))
noncomputable def r231 : RFunc ⊕ Nat := .inl ⟨3, 49, r231_body, []⟩
noncomputable def r250_body : RCode := (.seq (.run x250_0) (.seq (.run x250_1) (.seq (.run x250_2) (.seq (.run x250_3) (.seq (.run x250_4) (.seq (.run x250_5) (.seq (.run x250_6) (.seq (.run x250_7) (.seq (.run x250_8) (.seq (.run x250_9) (.seq (.run x250_10) (.seq (.run x250_11) .ret))))))))))))
noncomputable def r250 : RFunc ⊕ Nat := .inl ⟨2, 51, r250_body, [.tmp 4, .tmp 5]⟩
noncomputable def r251_body : RCode := (.seq (.old (.reg [0, 1, 2, 3, 4] c251_0)) (.seq (.seq (.old (.dreg [1, 2, 3, 22] c251_1 c251_1b)) (.cond (.tmp 22) (.seq (.old (.reg [1, 2] c251_2)) (.seq (.old (.reg [10, 11] c251_3)) .ret)) .skip)) (.seq (.old (.reg [10, 11] c251_4)) .ret)))
noncomputable def r251 : RFunc ⊕ Nat := .inl ⟨5, 32, r251_body, [.tmp 10, .tmp 11]⟩
noncomputable def U_L : List (Nat × (RFunc ⊕ Nat)) := [(17, r17), (22, r22), (23, r23), (30, r30), (31, r31), (33, r33), (36, r36), (37, r37), (38, r38), (39, r39), (40, r40), (41, r41), (52, r52), (53, r53), (56, r56), (57, r57), (58, r58), (59, r59), (60, r60), (61, r61), (62, r62), (63, r63), (64, r64), (65, r65), (66, r66), (67, r67), (68, r68), (69, r69), (70, r70), (78, r78), (79, r79), (80, r80), (81, r81), (82, r82), (83, r83), (84, r84), (85, r85), (86, r86), (87, r87), (98, r98), (100, r100), (101, r101), (102, r102), (103, r103), (104, r104), (105, r105), (106, r106), (107, r107), (108, r108), (109, r109), (110, r110), (111, r111), (112, r112), (113, r113), (114, r114), (115, r115), (116, r116), (117, r117), (118, r118), (119, r119), (120, r120), (121, r121), (122, r122), (123, r123), (124, r124), (140, r140), (141, r141), (142, r142), (143, r143), (144, r144), (145, r145), (146, r146), (147, r147), (148, r148), (149, r149), (150, r150), (151, r151), (153, r153), (154, r154), (171, r171), (172, r172), (173, r173), (174, r174), (176, r176), (177, r177), (178, r178), (179, r179), (180, r180), (187, r187), (190, r190), (192, r192), (196, r196), (197, r197), (198, r198), (199, r199), (200, r200), (201, r201), (223, r223), (228, r228), (229, r229), (230, r230), (231, r231), (250, r250), (251, r251)]
noncomputable def U_T : Tri (RFunc ⊕ Nat) := (.node none (.node none (.node none (.node none (.node none (.node (some r31) (.node (some r63) .leaf .leaf) (.node none .leaf (.node (some r223) .leaf .leaf))) (.node none (.node (some r79) (.node (some r143) .leaf .leaf) .leaf) (.node (some r111) .leaf .leaf))) (.node (some r23) (.node (some r39) (.node none .leaf (.node (some r199) .leaf .leaf)) (.node (some r103) .leaf (.node (some r231) .leaf .leaf))) (.node none (.node (some r87) (.node (some r151) .leaf .leaf) .leaf) (.node (some r119) .leaf .leaf)))) (.node none (.node none (.node none (.node (some r67) .leaf .leaf) .leaf) (.node none (.node (some r83) (.node (some r147) .leaf .leaf) .leaf) (.node (some r115) (.node (some r179) .leaf .leaf) .leaf))) (.node none (.node none .leaf (.node (some r107) (.node (some r171) .leaf .leaf) .leaf)) (.node (some r59) .leaf (.node (some r123) (.node (some r187) .leaf .leaf) (.node (some r251) .leaf .leaf)))))) (.node none (.node none (.node (some r17) (.node (some r33) (.node (some r65) .leaf .leaf) .leaf) (.node none (.node (some r81) (.node (some r145) .leaf .leaf) .leaf) (.node (some r113) (.node (some r177) .leaf .leaf) .leaf))) (.node none (.node (some r41) (.node none .leaf (.node (some r201) .leaf .leaf)) (.node (some r105) .leaf .leaf)) (.node (some r57) (.node none (.node (some r153) .leaf .leaf) .leaf) (.node (some r121) .leaf .leaf)))) (.node none (.node none (.node (some r37) (.node (some r69) .leaf (.node (some r197) .leaf .leaf)) (.node (some r101) .leaf (.node (some r229) .leaf .leaf))) (.node (some r53) (.node (some r85) (.node (some r149) .leaf .leaf) .leaf) (.node (some r117) .leaf .leaf))) (.node none (.node none (.node none (.node (some r141) .leaf .leaf) .leaf) (.node (some r109) (.node (some r173) .leaf .leaf) .leaf)) (.node (some r61) .leaf .leaf))))) (.node none (.node none (.node none (.node none (.node none (.node (some r64) .leaf (.node (some r192) .leaf .leaf)) .leaf) (.node none (.node (some r80) (.node (some r144) .leaf .leaf) .leaf) (.node (some r112) (.node (some r176) .leaf .leaf) .leaf))) (.node none (.node (some r40) (.node none .leaf (.node (some r200) .leaf .leaf)) (.node (some r104) .leaf .leaf)) (.node (some r56) .leaf (.node (some r120) .leaf .leaf)))) (.node none (.node none (.node (some r36) (.node (some r68) .leaf (.node (some r196) .leaf .leaf)) (.node (some r100) .leaf (.node (some r228) .leaf .leaf))) (.node (some r52) (.node (some r84) (.node (some r148) .leaf .leaf) .leaf) (.node (some r116) (.node (some r180) .leaf .leaf) .leaf))) (.node none (.node none (.node none (.node (some r140) .leaf .leaf) .leaf) (.node (some r108) (.node (some r172) .leaf .leaf) .leaf)) (.node (some r60) .leaf (.node (some r124) .leaf .leaf))))) (.node none (.node none (.node none (.node none (.node (some r66) .leaf .leaf) (.node (some r98) .leaf .leaf)) (.node none (.node (some r82) (.node (some r146) .leaf .leaf) .leaf) (.node (some r114) (.node (some r178) .leaf .leaf) .leaf))) (.node none (.node none .leaf (.node (some r106) .leaf .leaf)) (.node (some r58) (.node none (.node (some r154) .leaf .leaf) .leaf) (.node (some r122) .leaf (.node (some r250) .leaf .leaf))))) (.node none (.node (some r22) (.node (some r38) (.node (some r70) .leaf (.node (some r198) .leaf .leaf)) (.node (some r102) .leaf (.node (some r230) .leaf .leaf))) (.node none (.node (some r86) (.node (some r150) .leaf .leaf) .leaf) (.node (some r118) .leaf .leaf))) (.node (some r30) (.node none (.node (some r78) (.node (some r142) .leaf .leaf) .leaf) (.node (some r110) (.node (some r174) .leaf .leaf) .leaf)) (.node (some r62) .leaf (.node none (.node (some r190) .leaf .leaf) .leaf)))))))
end Go.Jq
namespace Go.Jq
def eI (n : Int) : EV := .raw (.int .i64 n)
def iEq : Int → Int → Bool
  | .ofNat a, .ofNat b => Nat.beq a b
  | .negSucc a, .negSucc b => Nat.beq a b
  | _, _ => false
def bEq : Bool → Bool → Bool
  | true, b => b
  | false, true => false
  | false, false => true
def evEq : EV → EV → Bool
  | .raw (.int .i64 a), .raw (.int .i64 b) => iEq a b
  | .raw (.int .u8 a), .raw (.int .u8 b) => iEq a b
  | .raw (.bool a), .raw (.bool b) => bEq a b
  | .ptr a b, .ptr c d => cond (Nat.beq a c) (Nat.beq b d) false
  | .slc a b none l c, .slc a' b' none l' c' => cond (Nat.beq a a') (cond (Nat.beq b b') (cond (Nat.beq l l') (Nat.beq c c') false) false) false
  | .slc a b (some k) l c, .slc a' b' (some k') l' c' => cond (Nat.beq a a') (cond (Nat.beq b b') (cond (Nat.beq k k') (cond (Nat.beq l l') (Nat.beq c c') false) false) false) false
  | _, _ => false
def evsEq : List EV → List EV → Bool
  | [], [] => true
  | a :: l, b :: m => cond (evEq a b) (evsEq l m) false
  | _, _ => false
def frEq : EFr → EFr → Bool
  | [], [] => true
  | (i, a) :: l, (j, b) :: m => cond (Nat.beq i j) (cond (evEq a b) (frEq l m) false) false
  | _, _ => false
def blkEq : EBlk → EBlk → Bool
  | .cells c g r, .cells d g' r' => cond (evsEq c d) (cond (bEq g g') (bEq r r') false) false
  | _, _ => false
structure Pt where
  F : EFr
  N : Nat
  L : List (Nat × EBlk)
def Pt.th (p : Pt) : TH := ⟨p.N, triOf p.L⟩
def allEq (T : TH) : List (Nat × EBlk) → Bool
  | [] => true
  | (i, b) :: l => cond (blkEq (T.get i) b) (allEq T l) false
def runL (call : ECall) (loop : ELoop) : List SCode → EFr → TH → Option (EFr × TH)
  | [], F, T => some (F, T)
  | c :: l, F, T => match codeE call loop c F T with
    | some (.normal, F1, T1) => runL call loop l F1 T1
    | _ => none
def segOk (q : Pt) : Option (EFr × TH) → Bool
  | some (F, T) => cond (frEq F q.F) (cond (Nat.beq T.next q.N) (allEq T q.L) false) false
  | none => false
noncomputable def uRun (l : List SCode) (p : Pt) : Option (EFr × TH) := runL (machR U_T 3000).call (machR U_T 3000).eloop l p.F p.th
def lA : SCode := .reg [0, 3] c17_2
def lB : SCode := .reg [0, 3, 4] c17_3
def lC : SCode := .seq (.reg [0, 3, 4, 5] c17_4) (.block 0 (.loop [0, 3, 4, 5] c17_9))
def lD : SCode := .reg [0, 3, 4, 6, 7] c17_10
def lE : SCode := .reg [0, 3, 4, 6, 7] c17_11
def lF : SCode := .reg [0, 3, 4, 6, 7, 8, 9] c17_12
def lG : SCode := .reg [0, 4, 6, 7, 8, 9, 11] c17_13
def lH : SCode := .reg [2] c17_14
def p1 : Pt := ⟨[(0, eI 1)], 0, []⟩
def p2 : Pt := ⟨[(0, eI 2)], 0, []⟩
def p3 : Pt := ⟨[(0, eI 3)], 0, []⟩
def st (n : Int) : EBlk := .cells [eI 1, eI 0, eI 0, eI (-1), eI n, eI 0, eI 0, eI 0, eI 0] false false
def l3 (t : EV) : List (Nat × EBlk) := [(0, .cells [.raw (.int .u8 120)] false false), (1, .cells [eI 0] false false), (2, .cells [.slc 0 0 none 1 1, .slc 1 0 none 1 1, t] false false),
  (3, st 1), (4, .cells [.slc 3 0 none 1 1] false false), (6, st 2), (7, .cells [.slc 6 0 none 1 1] false false), (9, st 3), (10, .cells [.slc 9 0 none 1 1] false false)]
def p3a : Pt := ⟨[(0, eI 3), (3, .ptr 2 0), (4, eI 6), (6, .slc 362 0 (some 3) 6 6), (7, .raw (.bool true))], 478, (11, .cells [.slc 3 0 none 1 1, .slc 6 0 none 1 1, .slc 9 0 none 1 1] true false) :: l3 (.slc 11 0 (some 1) 3 3)⟩
def p3b : Pt := ⟨[(0, eI 3), (3, .ptr 2 0), (4, eI 6), (6, .slc 362 0 (some 3) 6 6), (7, .raw (.bool true)), (8, .slc 1566 0 (some 3) 24 24), (9, .raw (.bool true))], 2301,
  (478, .cells [eI 2, eI 0, eI 0, eI 0, eI 0, eI 0, eI 0, eI 0, eI 0] false false) :: (479, .cells [.slc 478 0 none 1 1] false false) :: (480, .cells [.slc 3 0 none 1 1, .slc 6 0 none 1 1, .slc 9 0 none 1 1, .slc 478 0 none 1 1] true false) :: l3 (.slc 480 0 (some 1) 4 4)⟩
def p3c : Pt := ⟨[(0, eI 3), (4, eI 6), (6, .slc 362 0 (some 3) 6 6), (7, .raw (.bool true)), (8, .slc 1566 0 (some 3) 24 24), (9, .raw (.bool true)), (11, .raw (.bool false))], 3387, []⟩
def okEnd : Option (EFr × TH) → Bool
  | some ([(2, .raw (.bool b))], _) => b
  | _ => false
end Go.Jq
