/- CheckEntry of letter and of its reference. No condition. -/
import Derived.Test.YtmdgefiojapogaaDoorInMem
namespace Go.Proofs.YtmdgefiojapogaaDoor
open Go.RowKit
attribute [local go_sem high] one8 st8 cm8 b_and8 b_and8r b_and8l b_or8 b_or8r b_or8l b_xor8 b_xor8r b_xor8l b_andNot8 b_andNot8r b_andNot8l b_add8 b_add8r b_add8l b_sub8 b_sub8r b_sub8l b_mul8 b_mul8r b_mul8l b_eql8 b_eql8r b_eql8l b_neq8 b_neq8r b_neq8l b_lss8 b_lss8r b_lss8l b_leq8 b_leq8r b_leq8l b_gtr8 b_gtr8r b_gtr8l b_geq8 b_geq8r b_geq8l b_quo8r b_rem8r b_shl8r b_shr8r b_shl8l b_shr8l u_xor8 g_eql8 g_neq8 g_eql8' g_neq8' one32 st32 cm32 b_and32 b_and32r b_and32l b_or32 b_or32r b_or32l b_xor32 b_xor32r b_xor32l b_andNot32 b_andNot32r b_andNot32l b_add32 b_add32r b_add32l b_sub32 b_sub32r b_sub32l b_mul32 b_mul32r b_mul32l b_eql32 b_eql32r b_eql32l b_neq32 b_neq32r b_neq32l b_lss32 b_lss32r b_lss32l b_leq32 b_leq32r b_leq32l b_gtr32 b_gtr32r b_gtr32l b_geq32 b_geq32r b_geq32l b_quo32r b_rem32r b_shl32r b_shr32r b_shl32l b_shr32l u_xor32 g_eql32 g_neq32 g_eql32' g_neq32' one64 st64 cm64 b_and64 b_and64r b_and64l b_or64 b_or64r b_or64l b_xor64 b_xor64r b_xor64l b_andNot64 b_andNot64r b_andNot64l b_add64 b_add64r b_add64l b_sub64 b_sub64r b_sub64l b_mul64 b_mul64r b_mul64l b_eql64 b_eql64r b_eql64l b_neq64 b_neq64r b_neq64l b_lss64 b_lss64r b_lss64l b_leq64 b_leq64r b_leq64l b_gtr64 b_gtr64r b_gtr64l b_geq64 b_geq64r b_geq64l b_quo64r b_rem64r b_shl64r b_shr64r b_shl64l b_shr64l u_xor64 g_eql64 g_neq64 g_eql64' g_neq64' c_u8_u8 c_u8_u32 c_u8_u64 c_i_u8 c_u32_u8 c_u32_u32 c_u32_u64 c_i_u32 c_u64_u8 c_u64_u32 c_u64_u64 c_i_u64 c_u8_i c_u32_i
attribute [local go_sem ↓] ce8 ce32 ce64
def BuildZ (t : TypeId) (parts : Array (Nat × Value)) : Sem Value := Instr.build t parts
theorem buildZWd (parts : Array (Nat × Value)) : Instr.build 33 parts = BuildZ 33 parts := rfl
theorem buildZAd (parts : Array (Nat × Value)) : Instr.build 30 parts = BuildZ 30 parts := rfl
theorem builtWd : Tryd.prog.built 33 [] = some ((([0, 0, 0, 0] : List UInt64).map V64).toArray) := by kernel_rfl
theorem builtAd : Tryd.prog.built 30 [] = some (((zeros 20).map V8).toArray) := by kernel_rfl
theorem run_buildZ {P : Program} (w : World) (t : TypeId) (parts : Array (Nat × Value)) (cells : Array Value) (h : P.built t parts.toList = some cells) : (BuildZ t parts).run P w = .ok (.agg cells) w := by
  unfold BuildZ
  exact Go.run_build w t parts cells h
attribute [local go_sem ↓] sliced_slp loadOAd storeOAd loadOWd storeOWd buildZWd buildZAd
theorem in_is (n l m : Int) (b : Bool) (h : decide (l ≤ n ∧ n ≤ m) = b) (w : World) : Calls Tryd.prog 68 #[.int .i64 n, .int .i64 l, .int .i64 m] w fun e w' => e = .returned (.bool b) ∧ w' = w := by
  subst h
  by_cases h1 : l ≤ n
  · by_cases h2 : n ≤ m
    · go_enter Tryd.func68, Tryd.ntmps68
      go_wp2_with fail
      go_ret
      exact ⟨by simp [h1, h2], rfl⟩
    · go_enter Tryd.func68, Tryd.ntmps68
      go_wp2_with fail
      go_ret
      exact ⟨by simp [h1, h2], rfl⟩
  · go_enter Tryd.func68, Tryd.ntmps68
    go_wp2_with fail
    go_ret
    exact ⟨by simp only [decide_eq_false (show ¬ l ≤ n from Int.not_le.2 h1), Bool.false_and]; rfl, rfl⟩
theorem chk_10 (x : En) (w : World) (hl : x.Ln) (hk : x.kind = 1) (hT : x.timeOk = false) : Calls Tryd.prog 51 #[.agg x.cells.toArray] w fun e w' => e = .returned (.int .i64 63) ∧ Mod [] w w' := by
  have K := enBox hl (hp_new w (.cells x.cells.toArray 35) _ rfl)
  have c0 : (w.alloc (.cells x.cells.toArray 35)).cell? ⟨w.heap.size, 0, none⟩ = some (.int .i64 x.kind) := K.c0
  rw [hk] at c0
  have c21 : (w.alloc (.cells x.cells.toArray 35)).cell? ⟨w.heap.size, 21, none⟩ = some (.int .i64 x.time) := K.c21
  have HT := Lib.hid (fun (W : World) => in_is x.time 0 4611686018427387904 false hT W)
  have HM := Lib.hid ((Mod.refl [] w).alloc (.cells x.cells.toArray 35))
  obtain ⟨cs, hcs⟩ : ∃ cs, cs = x.cells.toArray := ⟨_, rfl⟩
  rw [← hcs] at c0 c21 HM ⊢
  clear K hcs hl hk hT
  go_enter Tryd.func51, Tryd.ntmps51
  go_wp2_with fail
  refine (HT.out _).mono ?_
  rintro e W ⟨rfl, rfl⟩
  go_wp2_with fail
  go_ret
  exact ⟨rfl, HM.out⟩
theorem chk_11 (x : En) (w : World) (hl : x.Ln) (hk : x.kind = 1) (hT : x.timeOk = true) (hK : x.tokOk = false) : Calls Tryd.prog 51 #[.agg x.cells.toArray] w fun e w' => e = .returned (.int .i64 63) ∧ Mod [] w w' := by
  have K := enBox hl (hp_new w (.cells x.cells.toArray 35) _ rfl)
  have c0 : (w.alloc (.cells x.cells.toArray 35)).cell? ⟨w.heap.size, 0, none⟩ = some (.int .i64 x.kind) := K.c0
  rw [hk] at c0
  have c21 : (w.alloc (.cells x.cells.toArray 35)).cell? ⟨w.heap.size, 21, none⟩ = some (.int .i64 x.time) := K.c21
  have c22 : (w.alloc (.cells x.cells.toArray 35)).cell? ⟨w.heap.size, 22, none⟩ = some (.int .i64 x.tok) := K.c22
  have HT := Lib.hid (fun (W : World) => in_is x.time 0 4611686018427387904 true hT W)
  have HK := Lib.hid (fun (W : World) => in_is x.tok 0 63 false hK W)
  have HM := Lib.hid ((Mod.refl [] w).alloc (.cells x.cells.toArray 35))
  obtain ⟨cs, hcs⟩ : ∃ cs, cs = x.cells.toArray := ⟨_, rfl⟩
  rw [← hcs] at c0 c21 c22 HM ⊢
  clear K hcs hl hk hT hK
  go_enter Tryd.func51, Tryd.ntmps51
  go_wp2_with fail
  refine (HT.out _).mono ?_
  rintro e W ⟨rfl, rfl⟩
  go_wp2_with fail
  refine (HK.out _).mono ?_
  rintro e W ⟨rfl, rfl⟩
  go_wp2_with fail
  go_ret
  exact ⟨rfl, HM.out⟩
theorem chk_12 (x : En) (w : World) (hl : x.Ln) (hk : x.kind = 1) (hT : x.timeOk = true) (hK : x.tokOk = true) (hA : (x.amt == [0, 0, 0, 0]) = true) : Calls Tryd.prog 51 #[.agg x.cells.toArray] w fun e w' => e = .returned (.int .i64 63) ∧ Mod [] w w' := by
  have K := enBox hl (hp_new w (.cells x.cells.toArray 35) _ rfl)
  have c0 : (w.alloc (.cells x.cells.toArray 35)).cell? ⟨w.heap.size, 0, none⟩ = some (.int .i64 x.kind) := K.c0
  rw [hk] at c0
  have c21 : (w.alloc (.cells x.cells.toArray 35)).cell? ⟨w.heap.size, 21, none⟩ = some (.int .i64 x.time) := K.c21
  have c22 : (w.alloc (.cells x.cells.toArray 35)).cell? ⟨w.heap.size, 22, none⟩ = some (.int .i64 x.tok) := K.c22
  have l43 : (LoadO 33 (.pointer (some ⟨w.heap.size, 43, none⟩))).run Tryd.prog (w.alloc (.cells x.cells.toArray 35)) = _ := K.l43
  have b4 : ∀ w, (BuildZ 33 #[]).run Tryd.prog w = .ok (.agg (([0, 0, 0, 0] : List UInt64).map V64).toArray) w := fun w => run_buildZ w 33 #[] _ builtWd
  have e4 : ∀ w, (binOp .neq 33 (.agg (x.amt.map V64).toArray) (.agg (([0, 0, 0, 0] : List UInt64).map V64).toArray)).run Tryd.prog w = .ok (.bool (!(x.amt == [0, 0, 0, 0]))) w := fun w => neqWide w ⟨x.amt, hl.a4⟩ ⟨[0, 0, 0, 0], rfl⟩
  simp only [hA, Bool.not_true, Bool.not_false] at e4
  obtain ⟨z4, hz4⟩ : ∃ z4, z4 = (([0, 0, 0, 0] : List UInt64).map V64).toArray := ⟨_, rfl⟩
  rw [← hz4] at b4 e4
  obtain ⟨x4, hx4⟩ : ∃ x4, x4 = (x.amt.map V64).toArray := ⟨_, rfl⟩
  rw [← hx4] at l43 e4
  clear hz4 hx4
  have HT := Lib.hid (fun (W : World) => in_is x.time 0 4611686018427387904 true hT W)
  have HK := Lib.hid (fun (W : World) => in_is x.tok 0 63 true hK W)
  have HM := Lib.hid ((Mod.refl [] w).alloc (.cells x.cells.toArray 35))
  obtain ⟨cs, hcs⟩ : ∃ cs, cs = x.cells.toArray := ⟨_, rfl⟩
  rw [← hcs] at c0 c21 c22 l43 HM ⊢
  clear K hcs hl hk hT hK hA
  go_enter Tryd.func51, Tryd.ntmps51
  go_wp2_with fail
  refine (HT.out _).mono ?_
  rintro e W ⟨rfl, rfl⟩
  go_wp2_with fail
  refine (HK.out _).mono ?_
  rintro e W ⟨rfl, rfl⟩
  go_wp2_with fail
  go_ret
  exact ⟨rfl, HM.out⟩
theorem chk_13 (x : En) (w : World) (hl : x.Ln) (hk : x.kind = 1) (hT : x.timeOk = true) (hK : x.tokOk = true) (hA : (x.amt == [0, 0, 0, 0]) = false) (hG : x.gasOk = false) : Calls Tryd.prog 51 #[.agg x.cells.toArray] w fun e w' => e = .returned (.int .i64 63) ∧ Mod [] w w' := by
  have K := enBox hl (hp_new w (.cells x.cells.toArray 35) _ rfl)
  have c0 : (w.alloc (.cells x.cells.toArray 35)).cell? ⟨w.heap.size, 0, none⟩ = some (.int .i64 x.kind) := K.c0
  rw [hk] at c0
  have c21 : (w.alloc (.cells x.cells.toArray 35)).cell? ⟨w.heap.size, 21, none⟩ = some (.int .i64 x.time) := K.c21
  have c22 : (w.alloc (.cells x.cells.toArray 35)).cell? ⟨w.heap.size, 22, none⟩ = some (.int .i64 x.tok) := K.c22
  have l43 : (LoadO 33 (.pointer (some ⟨w.heap.size, 43, none⟩))).run Tryd.prog (w.alloc (.cells x.cells.toArray 35)) = _ := K.l43
  have b4 : ∀ w, (BuildZ 33 #[]).run Tryd.prog w = .ok (.agg (([0, 0, 0, 0] : List UInt64).map V64).toArray) w := fun w => run_buildZ w 33 #[] _ builtWd
  have e4 : ∀ w, (binOp .neq 33 (.agg (x.amt.map V64).toArray) (.agg (([0, 0, 0, 0] : List UInt64).map V64).toArray)).run Tryd.prog w = .ok (.bool (!(x.amt == [0, 0, 0, 0]))) w := fun w => neqWide w ⟨x.amt, hl.a4⟩ ⟨[0, 0, 0, 0], rfl⟩
  simp only [hA, Bool.not_true, Bool.not_false] at e4
  obtain ⟨z4, hz4⟩ : ∃ z4, z4 = (([0, 0, 0, 0] : List UInt64).map V64).toArray := ⟨_, rfl⟩
  rw [← hz4] at b4 e4
  obtain ⟨x4, hx4⟩ : ∃ x4, x4 = (x.amt.map V64).toArray := ⟨_, rfl⟩
  rw [← hx4] at l43 e4
  clear hz4 hx4
  have c47 : (w.alloc (.cells x.cells.toArray 35)).cell? ⟨w.heap.size, 47, none⟩ = some (.int .i64 x.gas) := K.c47
  have HT := Lib.hid (fun (W : World) => in_is x.time 0 4611686018427387904 true hT W)
  have HK := Lib.hid (fun (W : World) => in_is x.tok 0 63 true hK W)
  have HG := Lib.hid (fun (W : World) => in_is x.gas 0 1099511627776 false hG W)
  have HM := Lib.hid ((Mod.refl [] w).alloc (.cells x.cells.toArray 35))
  obtain ⟨cs, hcs⟩ : ∃ cs, cs = x.cells.toArray := ⟨_, rfl⟩
  rw [← hcs] at c0 c21 c22 l43 c47 HM ⊢
  clear K hcs hl hk hT hK hA hG
  go_enter Tryd.func51, Tryd.ntmps51
  go_wp2_with fail
  refine (HT.out _).mono ?_
  rintro e W ⟨rfl, rfl⟩
  go_wp2_with fail
  refine (HK.out _).mono ?_
  rintro e W ⟨rfl, rfl⟩
  go_wp2_with fail
  refine (HG.out _).mono ?_
  rintro e W ⟨rfl, rfl⟩
  go_wp2_with fail
  go_ret
  exact ⟨rfl, HM.out⟩
theorem chk_14 (x : En) (w : World) (hl : x.Ln) (hk : x.kind = 1) (hT : x.timeOk = true) (hK : x.tokOk = true) (hA : (x.amt == [0, 0, 0, 0]) = false) (hG : x.gasOk = true) (hB : decide (x.body.d.length = 0) = false) : Calls Tryd.prog 51 #[.agg x.cells.toArray] w fun e w' => e = .returned (.int .i64 63) ∧ Mod [] w w' := by
  have K := enBox hl (hp_new w (.cells x.cells.toArray 35) _ rfl)
  have c0 : (w.alloc (.cells x.cells.toArray 35)).cell? ⟨w.heap.size, 0, none⟩ = some (.int .i64 x.kind) := K.c0
  rw [hk] at c0
  have c21 : (w.alloc (.cells x.cells.toArray 35)).cell? ⟨w.heap.size, 21, none⟩ = some (.int .i64 x.time) := K.c21
  have c22 : (w.alloc (.cells x.cells.toArray 35)).cell? ⟨w.heap.size, 22, none⟩ = some (.int .i64 x.tok) := K.c22
  have l43 : (LoadO 33 (.pointer (some ⟨w.heap.size, 43, none⟩))).run Tryd.prog (w.alloc (.cells x.cells.toArray 35)) = _ := K.l43
  have b4 : ∀ w, (BuildZ 33 #[]).run Tryd.prog w = .ok (.agg (([0, 0, 0, 0] : List UInt64).map V64).toArray) w := fun w => run_buildZ w 33 #[] _ builtWd
  have e4 : ∀ w, (binOp .neq 33 (.agg (x.amt.map V64).toArray) (.agg (([0, 0, 0, 0] : List UInt64).map V64).toArray)).run Tryd.prog w = .ok (.bool (!(x.amt == [0, 0, 0, 0]))) w := fun w => neqWide w ⟨x.amt, hl.a4⟩ ⟨[0, 0, 0, 0], rfl⟩
  simp only [hA, Bool.not_true, Bool.not_false] at e4
  obtain ⟨z4, hz4⟩ : ∃ z4, z4 = (([0, 0, 0, 0] : List UInt64).map V64).toArray := ⟨_, rfl⟩
  rw [← hz4] at b4 e4
  obtain ⟨x4, hx4⟩ : ∃ x4, x4 = (x.amt.map V64).toArray := ⟨_, rfl⟩
  rw [← hx4] at l43 e4
  clear hz4 hx4
  have c47 : (w.alloc (.cells x.cells.toArray 35)).cell? ⟨w.heap.size, 47, none⟩ = some (.int .i64 x.gas) := K.c47
  have c48 : (w.alloc (.cells x.cells.toArray 35)).cell? ⟨w.heap.size, 48, none⟩ = some (.slice x.body.p x.body.d.length x.body.cap) := K.c48
  have HT := Lib.hid (fun (W : World) => in_is x.time 0 4611686018427387904 true hT W)
  have HK := Lib.hid (fun (W : World) => in_is x.tok 0 63 true hK W)
  have HG := Lib.hid (fun (W : World) => in_is x.gas 0 1099511627776 true hG W)
  have hB1 : ¬ x.body.d.length = 0 := by simpa using hB
  have hB2 : ((x.body.d.length : Int) == 0) = false := by simp; simpa using hB1
  obtain ⟨n, hn⟩ : ∃ n, n = x.body.d.length := ⟨_, rfl⟩
  rw [← hn] at c48 hB1 hB2
  clear hn
  have HM := Lib.hid ((Mod.refl [] w).alloc (.cells x.cells.toArray 35))
  obtain ⟨cs, hcs⟩ : ∃ cs, cs = x.cells.toArray := ⟨_, rfl⟩
  rw [← hcs] at c0 c21 c22 l43 c47 c48 HM ⊢
  clear K hcs hl hk hT hK hA hG hB
  go_enter Tryd.func51, Tryd.ntmps51
  go_wp2_with fail
  refine (HT.out _).mono ?_
  rintro e W ⟨rfl, rfl⟩
  go_wp2_with fail
  refine (HK.out _).mono ?_
  rintro e W ⟨rfl, rfl⟩
  go_wp2_with fail
  refine (HG.out _).mono ?_
  rintro e W ⟨rfl, rfl⟩
  go_wp2_with fail
  go_ret
  exact ⟨rfl, HM.out⟩
theorem chk_1ok (x : En) (w : World) (hl : x.Ln) (hk : x.kind = 1) (hT : x.timeOk = true) (hK : x.tokOk = true) (hA : (x.amt == [0, 0, 0, 0]) = false) (hG : x.gasOk = true) (hB : decide (x.body.d.length = 0) = true) : Calls Tryd.prog 51 #[.agg x.cells.toArray] w fun e w' => e = .returned (.int .i64 0) ∧ Mod [] w w' := by
  have K := enBox hl (hp_new w (.cells x.cells.toArray 35) _ rfl)
  have c0 : (w.alloc (.cells x.cells.toArray 35)).cell? ⟨w.heap.size, 0, none⟩ = some (.int .i64 x.kind) := K.c0
  rw [hk] at c0
  have c21 : (w.alloc (.cells x.cells.toArray 35)).cell? ⟨w.heap.size, 21, none⟩ = some (.int .i64 x.time) := K.c21
  have c22 : (w.alloc (.cells x.cells.toArray 35)).cell? ⟨w.heap.size, 22, none⟩ = some (.int .i64 x.tok) := K.c22
  have l43 : (LoadO 33 (.pointer (some ⟨w.heap.size, 43, none⟩))).run Tryd.prog (w.alloc (.cells x.cells.toArray 35)) = _ := K.l43
  have b4 : ∀ w, (BuildZ 33 #[]).run Tryd.prog w = .ok (.agg (([0, 0, 0, 0] : List UInt64).map V64).toArray) w := fun w => run_buildZ w 33 #[] _ builtWd
  have e4 : ∀ w, (binOp .neq 33 (.agg (x.amt.map V64).toArray) (.agg (([0, 0, 0, 0] : List UInt64).map V64).toArray)).run Tryd.prog w = .ok (.bool (!(x.amt == [0, 0, 0, 0]))) w := fun w => neqWide w ⟨x.amt, hl.a4⟩ ⟨[0, 0, 0, 0], rfl⟩
  simp only [hA, Bool.not_true, Bool.not_false] at e4
  obtain ⟨z4, hz4⟩ : ∃ z4, z4 = (([0, 0, 0, 0] : List UInt64).map V64).toArray := ⟨_, rfl⟩
  rw [← hz4] at b4 e4
  obtain ⟨x4, hx4⟩ : ∃ x4, x4 = (x.amt.map V64).toArray := ⟨_, rfl⟩
  rw [← hx4] at l43 e4
  clear hz4 hx4
  have c47 : (w.alloc (.cells x.cells.toArray 35)).cell? ⟨w.heap.size, 47, none⟩ = some (.int .i64 x.gas) := K.c47
  have c48 : (w.alloc (.cells x.cells.toArray 35)).cell? ⟨w.heap.size, 48, none⟩ = some (.slice x.body.p x.body.d.length x.body.cap) := K.c48
  have HT := Lib.hid (fun (W : World) => in_is x.time 0 4611686018427387904 true hT W)
  have HK := Lib.hid (fun (W : World) => in_is x.tok 0 63 true hK W)
  have HG := Lib.hid (fun (W : World) => in_is x.gas 0 1099511627776 true hG W)
  have hB1 : x.body.d.length = 0 := by simpa using hB
  rw [hB1] at c48
  have HM := Lib.hid ((Mod.refl [] w).alloc (.cells x.cells.toArray 35))
  obtain ⟨cs, hcs⟩ : ∃ cs, cs = x.cells.toArray := ⟨_, rfl⟩
  rw [← hcs] at c0 c21 c22 l43 c47 c48 HM ⊢
  clear K hcs hl hk hT hK hA hG hB
  go_enter Tryd.func51, Tryd.ntmps51
  go_wp2_with fail
  refine (HT.out _).mono ?_
  rintro e W ⟨rfl, rfl⟩
  go_wp2_with fail
  refine (HK.out _).mono ?_
  rintro e W ⟨rfl, rfl⟩
  go_wp2_with fail
  refine (HG.out _).mono ?_
  rintro e W ⟨rfl, rfl⟩
  go_wp2_with fail
  go_ret
  exact ⟨rfl, HM.out⟩
theorem chk_20 (x : En) (w : World) (hl : x.Ln) (hk : x.kind = 2) (hT : x.timeOk = false) : Calls Tryd.prog 51 #[.agg x.cells.toArray] w fun e w' => e = .returned (.int .i64 63) ∧ Mod [] w w' := by
  have K := enBox hl (hp_new w (.cells x.cells.toArray 35) _ rfl)
  have c0 : (w.alloc (.cells x.cells.toArray 35)).cell? ⟨w.heap.size, 0, none⟩ = some (.int .i64 x.kind) := K.c0
  rw [hk] at c0
  have c21 : (w.alloc (.cells x.cells.toArray 35)).cell? ⟨w.heap.size, 21, none⟩ = some (.int .i64 x.time) := K.c21
  have HT := Lib.hid (fun (W : World) => in_is x.time 0 4611686018427387904 false hT W)
  have HM := Lib.hid ((Mod.refl [] w).alloc (.cells x.cells.toArray 35))
  obtain ⟨cs, hcs⟩ : ∃ cs, cs = x.cells.toArray := ⟨_, rfl⟩
  rw [← hcs] at c0 c21 HM ⊢
  clear K hcs hl hk hT
  go_enter Tryd.func51, Tryd.ntmps51
  go_wp2_with fail
  refine (HT.out _).mono ?_
  rintro e W ⟨rfl, rfl⟩
  go_wp2_with fail
  go_ret
  exact ⟨rfl, HM.out⟩
theorem chk_21 (x : En) (w : World) (hl : x.Ln) (hk : x.kind = 2) (hT : x.timeOk = true) (hK : decide (x.tok = 0) = false) : Calls Tryd.prog 51 #[.agg x.cells.toArray] w fun e w' => e = .returned (.int .i64 63) ∧ Mod [] w w' := by
  have K := enBox hl (hp_new w (.cells x.cells.toArray 35) _ rfl)
  have c0 : (w.alloc (.cells x.cells.toArray 35)).cell? ⟨w.heap.size, 0, none⟩ = some (.int .i64 x.kind) := K.c0
  rw [hk] at c0
  have c21 : (w.alloc (.cells x.cells.toArray 35)).cell? ⟨w.heap.size, 21, none⟩ = some (.int .i64 x.time) := K.c21
  have c22 : (w.alloc (.cells x.cells.toArray 35)).cell? ⟨w.heap.size, 22, none⟩ = some (.int .i64 x.tok) := K.c22
  have HT := Lib.hid (fun (W : World) => in_is x.time 0 4611686018427387904 true hT W)
  have hK1 : ¬ x.tok = 0 := by simpa using hK
  have hK2 : (x.tok == 0) = false := by simpa using hK1
  have HM := Lib.hid ((Mod.refl [] w).alloc (.cells x.cells.toArray 35))
  obtain ⟨cs, hcs⟩ : ∃ cs, cs = x.cells.toArray := ⟨_, rfl⟩
  rw [← hcs] at c0 c21 c22 HM ⊢
  clear K hcs hl hk hT hK
  go_enter Tryd.func51, Tryd.ntmps51
  go_wp2_with fail
  refine (HT.out _).mono ?_
  rintro e W ⟨rfl, rfl⟩
  go_wp2_with fail
  go_ret
  exact ⟨rfl, HM.out⟩
theorem chk_22 (x : En) (w : World) (hl : x.Ln) (hk : x.kind = 2) (hT : x.timeOk = true) (hK : decide (x.tok = 0) = true) (hD : (x.to == zeros 20) = false) : Calls Tryd.prog 51 #[.agg x.cells.toArray] w fun e w' => e = .returned (.int .i64 63) ∧ Mod [] w w' := by
  have K := enBox hl (hp_new w (.cells x.cells.toArray 35) _ rfl)
  have c0 : (w.alloc (.cells x.cells.toArray 35)).cell? ⟨w.heap.size, 0, none⟩ = some (.int .i64 x.kind) := K.c0
  rw [hk] at c0
  have c21 : (w.alloc (.cells x.cells.toArray 35)).cell? ⟨w.heap.size, 21, none⟩ = some (.int .i64 x.time) := K.c21
  have c22 : (w.alloc (.cells x.cells.toArray 35)).cell? ⟨w.heap.size, 22, none⟩ = some (.int .i64 x.tok) := K.c22
  have l23 : (LoadO 30 (.pointer (some ⟨w.heap.size, 23, none⟩))).run Tryd.prog (w.alloc (.cells x.cells.toArray 35)) = _ := K.l23
  have b20 : ∀ w, (BuildZ 30 #[]).run Tryd.prog w = .ok (.agg ((zeros 20).map V8).toArray) w := fun w => run_buildZ w 30 #[] _ builtAd
  have e20 := fun w => eqAd w x.to (zeros 20) hl.t20 (zeros_length 20)
  simp only [hD] at e20
  obtain ⟨z20, hz20⟩ : ∃ z20, z20 = ((zeros 20).map V8).toArray := ⟨_, rfl⟩
  rw [← hz20] at b20 e20
  obtain ⟨x20, hx20⟩ : ∃ x20, x20 = (x.to.map V8).toArray := ⟨_, rfl⟩
  rw [← hx20] at l23 e20
  clear hz20 hx20
  have HT := Lib.hid (fun (W : World) => in_is x.time 0 4611686018427387904 true hT W)
  have hK1 : x.tok = 0 := by simpa using hK
  rw [hK1] at c22
  have HM := Lib.hid ((Mod.refl [] w).alloc (.cells x.cells.toArray 35))
  obtain ⟨cs, hcs⟩ : ∃ cs, cs = x.cells.toArray := ⟨_, rfl⟩
  rw [← hcs] at c0 c21 c22 l23 HM ⊢
  clear K hcs hl hk hT hK hD
  go_enter Tryd.func51, Tryd.ntmps51
  go_wp2_with fail
  refine (HT.out _).mono ?_
  rintro e W ⟨rfl, rfl⟩
  go_wp2_with fail
  go_ret
  exact ⟨rfl, HM.out⟩
theorem chk_23 (x : En) (w : World) (hl : x.Ln) (hk : x.kind = 2) (hT : x.timeOk = true) (hK : decide (x.tok = 0) = true) (hD : (x.to == zeros 20) = true) (hA : (x.amt == [0, 0, 0, 0]) = false) : Calls Tryd.prog 51 #[.agg x.cells.toArray] w fun e w' => e = .returned (.int .i64 63) ∧ Mod [] w w' := by
  have K := enBox hl (hp_new w (.cells x.cells.toArray 35) _ rfl)
  have c0 : (w.alloc (.cells x.cells.toArray 35)).cell? ⟨w.heap.size, 0, none⟩ = some (.int .i64 x.kind) := K.c0
  rw [hk] at c0
  have c21 : (w.alloc (.cells x.cells.toArray 35)).cell? ⟨w.heap.size, 21, none⟩ = some (.int .i64 x.time) := K.c21
  have c22 : (w.alloc (.cells x.cells.toArray 35)).cell? ⟨w.heap.size, 22, none⟩ = some (.int .i64 x.tok) := K.c22
  have l23 : (LoadO 30 (.pointer (some ⟨w.heap.size, 23, none⟩))).run Tryd.prog (w.alloc (.cells x.cells.toArray 35)) = _ := K.l23
  have b20 : ∀ w, (BuildZ 30 #[]).run Tryd.prog w = .ok (.agg ((zeros 20).map V8).toArray) w := fun w => run_buildZ w 30 #[] _ builtAd
  have e20 := fun w => eqAd w x.to (zeros 20) hl.t20 (zeros_length 20)
  simp only [hD] at e20
  obtain ⟨z20, hz20⟩ : ∃ z20, z20 = ((zeros 20).map V8).toArray := ⟨_, rfl⟩
  rw [← hz20] at b20 e20
  obtain ⟨x20, hx20⟩ : ∃ x20, x20 = (x.to.map V8).toArray := ⟨_, rfl⟩
  rw [← hx20] at l23 e20
  clear hz20 hx20
  have l43 : (LoadO 33 (.pointer (some ⟨w.heap.size, 43, none⟩))).run Tryd.prog (w.alloc (.cells x.cells.toArray 35)) = _ := K.l43
  have b4 : ∀ w, (BuildZ 33 #[]).run Tryd.prog w = .ok (.agg (([0, 0, 0, 0] : List UInt64).map V64).toArray) w := fun w => run_buildZ w 33 #[] _ builtWd
  have e4 : ∀ w, (binOp .eql 33 (.agg (x.amt.map V64).toArray) (.agg (([0, 0, 0, 0] : List UInt64).map V64).toArray)).run Tryd.prog w = .ok (.bool ((x.amt == [0, 0, 0, 0]))) w := fun w => eqWide w ⟨x.amt, hl.a4⟩ ⟨[0, 0, 0, 0], rfl⟩
  simp only [hA, Bool.not_true, Bool.not_false] at e4
  obtain ⟨z4, hz4⟩ : ∃ z4, z4 = (([0, 0, 0, 0] : List UInt64).map V64).toArray := ⟨_, rfl⟩
  rw [← hz4] at b4 e4
  obtain ⟨x4, hx4⟩ : ∃ x4, x4 = (x.amt.map V64).toArray := ⟨_, rfl⟩
  rw [← hx4] at l43 e4
  clear hz4 hx4
  have HT := Lib.hid (fun (W : World) => in_is x.time 0 4611686018427387904 true hT W)
  have hK1 : x.tok = 0 := by simpa using hK
  rw [hK1] at c22
  have HM := Lib.hid ((Mod.refl [] w).alloc (.cells x.cells.toArray 35))
  obtain ⟨cs, hcs⟩ : ∃ cs, cs = x.cells.toArray := ⟨_, rfl⟩
  rw [← hcs] at c0 c21 c22 l23 l43 HM ⊢
  clear K hcs hl hk hT hK hD hA
  go_enter Tryd.func51, Tryd.ntmps51
  go_wp2_with fail
  refine (HT.out _).mono ?_
  rintro e W ⟨rfl, rfl⟩
  go_wp2_with fail
  go_ret
  exact ⟨rfl, HM.out⟩
theorem chk_24 (x : En) (w : World) (hl : x.Ln) (hk : x.kind = 2) (hT : x.timeOk = true) (hK : decide (x.tok = 0) = true) (hD : (x.to == zeros 20) = true) (hA : (x.amt == [0, 0, 0, 0]) = true) (hG : decide (x.gas = 0) = false) : Calls Tryd.prog 51 #[.agg x.cells.toArray] w fun e w' => e = .returned (.int .i64 63) ∧ Mod [] w w' := by
  have K := enBox hl (hp_new w (.cells x.cells.toArray 35) _ rfl)
  have c0 : (w.alloc (.cells x.cells.toArray 35)).cell? ⟨w.heap.size, 0, none⟩ = some (.int .i64 x.kind) := K.c0
  rw [hk] at c0
  have c21 : (w.alloc (.cells x.cells.toArray 35)).cell? ⟨w.heap.size, 21, none⟩ = some (.int .i64 x.time) := K.c21
  have c22 : (w.alloc (.cells x.cells.toArray 35)).cell? ⟨w.heap.size, 22, none⟩ = some (.int .i64 x.tok) := K.c22
  have l23 : (LoadO 30 (.pointer (some ⟨w.heap.size, 23, none⟩))).run Tryd.prog (w.alloc (.cells x.cells.toArray 35)) = _ := K.l23
  have b20 : ∀ w, (BuildZ 30 #[]).run Tryd.prog w = .ok (.agg ((zeros 20).map V8).toArray) w := fun w => run_buildZ w 30 #[] _ builtAd
  have e20 := fun w => eqAd w x.to (zeros 20) hl.t20 (zeros_length 20)
  simp only [hD] at e20
  obtain ⟨z20, hz20⟩ : ∃ z20, z20 = ((zeros 20).map V8).toArray := ⟨_, rfl⟩
  rw [← hz20] at b20 e20
  obtain ⟨x20, hx20⟩ : ∃ x20, x20 = (x.to.map V8).toArray := ⟨_, rfl⟩
  rw [← hx20] at l23 e20
  clear hz20 hx20
  have l43 : (LoadO 33 (.pointer (some ⟨w.heap.size, 43, none⟩))).run Tryd.prog (w.alloc (.cells x.cells.toArray 35)) = _ := K.l43
  have b4 : ∀ w, (BuildZ 33 #[]).run Tryd.prog w = .ok (.agg (([0, 0, 0, 0] : List UInt64).map V64).toArray) w := fun w => run_buildZ w 33 #[] _ builtWd
  have e4 : ∀ w, (binOp .eql 33 (.agg (x.amt.map V64).toArray) (.agg (([0, 0, 0, 0] : List UInt64).map V64).toArray)).run Tryd.prog w = .ok (.bool ((x.amt == [0, 0, 0, 0]))) w := fun w => eqWide w ⟨x.amt, hl.a4⟩ ⟨[0, 0, 0, 0], rfl⟩
  simp only [hA, Bool.not_true, Bool.not_false] at e4
  obtain ⟨z4, hz4⟩ : ∃ z4, z4 = (([0, 0, 0, 0] : List UInt64).map V64).toArray := ⟨_, rfl⟩
  rw [← hz4] at b4 e4
  obtain ⟨x4, hx4⟩ : ∃ x4, x4 = (x.amt.map V64).toArray := ⟨_, rfl⟩
  rw [← hx4] at l43 e4
  clear hz4 hx4
  have c47 : (w.alloc (.cells x.cells.toArray 35)).cell? ⟨w.heap.size, 47, none⟩ = some (.int .i64 x.gas) := K.c47
  have HT := Lib.hid (fun (W : World) => in_is x.time 0 4611686018427387904 true hT W)
  have hK1 : x.tok = 0 := by simpa using hK
  rw [hK1] at c22
  have hG1 : ¬ x.gas = 0 := by simpa using hG
  have hG2 : (x.gas == 0) = false := by simpa using hG1
  have HM := Lib.hid ((Mod.refl [] w).alloc (.cells x.cells.toArray 35))
  obtain ⟨cs, hcs⟩ : ∃ cs, cs = x.cells.toArray := ⟨_, rfl⟩
  rw [← hcs] at c0 c21 c22 l23 l43 c47 HM ⊢
  clear K hcs hl hk hT hK hD hA hG
  go_enter Tryd.func51, Tryd.ntmps51
  go_wp2_with fail
  refine (HT.out _).mono ?_
  rintro e W ⟨rfl, rfl⟩
  go_wp2_with fail
  go_ret
  exact ⟨rfl, HM.out⟩
theorem chk_25 (x : En) (w : World) (hl : x.Ln) (hk : x.kind = 2) (hT : x.timeOk = true) (hK : decide (x.tok = 0) = true) (hD : (x.to == zeros 20) = true) (hA : (x.amt == [0, 0, 0, 0]) = true) (hG : decide (x.gas = 0) = true) (hB : decide (x.body.d.length ≤ 4096) = false) : Calls Tryd.prog 51 #[.agg x.cells.toArray] w fun e w' => e = .returned (.int .i64 63) ∧ Mod [] w w' := by
  have K := enBox hl (hp_new w (.cells x.cells.toArray 35) _ rfl)
  have c0 : (w.alloc (.cells x.cells.toArray 35)).cell? ⟨w.heap.size, 0, none⟩ = some (.int .i64 x.kind) := K.c0
  rw [hk] at c0
  have c21 : (w.alloc (.cells x.cells.toArray 35)).cell? ⟨w.heap.size, 21, none⟩ = some (.int .i64 x.time) := K.c21
  have c22 : (w.alloc (.cells x.cells.toArray 35)).cell? ⟨w.heap.size, 22, none⟩ = some (.int .i64 x.tok) := K.c22
  have l23 : (LoadO 30 (.pointer (some ⟨w.heap.size, 23, none⟩))).run Tryd.prog (w.alloc (.cells x.cells.toArray 35)) = _ := K.l23
  have b20 : ∀ w, (BuildZ 30 #[]).run Tryd.prog w = .ok (.agg ((zeros 20).map V8).toArray) w := fun w => run_buildZ w 30 #[] _ builtAd
  have e20 := fun w => eqAd w x.to (zeros 20) hl.t20 (zeros_length 20)
  simp only [hD] at e20
  obtain ⟨z20, hz20⟩ : ∃ z20, z20 = ((zeros 20).map V8).toArray := ⟨_, rfl⟩
  rw [← hz20] at b20 e20
  obtain ⟨x20, hx20⟩ : ∃ x20, x20 = (x.to.map V8).toArray := ⟨_, rfl⟩
  rw [← hx20] at l23 e20
  clear hz20 hx20
  have l43 : (LoadO 33 (.pointer (some ⟨w.heap.size, 43, none⟩))).run Tryd.prog (w.alloc (.cells x.cells.toArray 35)) = _ := K.l43
  have b4 : ∀ w, (BuildZ 33 #[]).run Tryd.prog w = .ok (.agg (([0, 0, 0, 0] : List UInt64).map V64).toArray) w := fun w => run_buildZ w 33 #[] _ builtWd
  have e4 : ∀ w, (binOp .eql 33 (.agg (x.amt.map V64).toArray) (.agg (([0, 0, 0, 0] : List UInt64).map V64).toArray)).run Tryd.prog w = .ok (.bool ((x.amt == [0, 0, 0, 0]))) w := fun w => eqWide w ⟨x.amt, hl.a4⟩ ⟨[0, 0, 0, 0], rfl⟩
  simp only [hA, Bool.not_true, Bool.not_false] at e4
  obtain ⟨z4, hz4⟩ : ∃ z4, z4 = (([0, 0, 0, 0] : List UInt64).map V64).toArray := ⟨_, rfl⟩
  rw [← hz4] at b4 e4
  obtain ⟨x4, hx4⟩ : ∃ x4, x4 = (x.amt.map V64).toArray := ⟨_, rfl⟩
  rw [← hx4] at l43 e4
  clear hz4 hx4
  have c47 : (w.alloc (.cells x.cells.toArray 35)).cell? ⟨w.heap.size, 47, none⟩ = some (.int .i64 x.gas) := K.c47
  have c48 : (w.alloc (.cells x.cells.toArray 35)).cell? ⟨w.heap.size, 48, none⟩ = some (.slice x.body.p x.body.d.length x.body.cap) := K.c48
  have HT := Lib.hid (fun (W : World) => in_is x.time 0 4611686018427387904 true hT W)
  have hK1 : x.tok = 0 := by simpa using hK
  rw [hK1] at c22
  have hG1 : x.gas = 0 := by simpa using hG
  rw [hG1] at c47
  have hB1 : ¬ x.body.d.length ≤ 4096 := by simpa using hB
  obtain ⟨n, hn⟩ : ∃ n, n = x.body.d.length := ⟨_, rfl⟩
  rw [← hn] at c48 hB1
  clear hn
  have hB2 : decide ((n : Int) ≤ 4096) = false := by simp; omega
  clear hB1
  have HM := Lib.hid ((Mod.refl [] w).alloc (.cells x.cells.toArray 35))
  obtain ⟨cs, hcs⟩ : ∃ cs, cs = x.cells.toArray := ⟨_, rfl⟩
  rw [← hcs] at c0 c21 c22 l23 l43 c47 c48 HM ⊢
  clear K hcs hl hk hT hK hD hA hG hB
  go_enter Tryd.func51, Tryd.ntmps51
  go_wp2_with fail
  refine (HT.out _).mono ?_
  rintro e W ⟨rfl, rfl⟩
  go_wp2_with fail
  go_ret
  exact ⟨rfl, HM.out⟩
theorem chk_2ok (x : En) (w : World) (hl : x.Ln) (hk : x.kind = 2) (hT : x.timeOk = true) (hK : decide (x.tok = 0) = true) (hD : (x.to == zeros 20) = true) (hA : (x.amt == [0, 0, 0, 0]) = true) (hG : decide (x.gas = 0) = true) (hB : decide (x.body.d.length ≤ 4096) = true) : Calls Tryd.prog 51 #[.agg x.cells.toArray] w fun e w' => e = .returned (.int .i64 0) ∧ Mod [] w w' := by
  have K := enBox hl (hp_new w (.cells x.cells.toArray 35) _ rfl)
  have c0 : (w.alloc (.cells x.cells.toArray 35)).cell? ⟨w.heap.size, 0, none⟩ = some (.int .i64 x.kind) := K.c0
  rw [hk] at c0
  have c21 : (w.alloc (.cells x.cells.toArray 35)).cell? ⟨w.heap.size, 21, none⟩ = some (.int .i64 x.time) := K.c21
  have c22 : (w.alloc (.cells x.cells.toArray 35)).cell? ⟨w.heap.size, 22, none⟩ = some (.int .i64 x.tok) := K.c22
  have l23 : (LoadO 30 (.pointer (some ⟨w.heap.size, 23, none⟩))).run Tryd.prog (w.alloc (.cells x.cells.toArray 35)) = _ := K.l23
  have b20 : ∀ w, (BuildZ 30 #[]).run Tryd.prog w = .ok (.agg ((zeros 20).map V8).toArray) w := fun w => run_buildZ w 30 #[] _ builtAd
  have e20 := fun w => eqAd w x.to (zeros 20) hl.t20 (zeros_length 20)
  simp only [hD] at e20
  obtain ⟨z20, hz20⟩ : ∃ z20, z20 = ((zeros 20).map V8).toArray := ⟨_, rfl⟩
  rw [← hz20] at b20 e20
  obtain ⟨x20, hx20⟩ : ∃ x20, x20 = (x.to.map V8).toArray := ⟨_, rfl⟩
  rw [← hx20] at l23 e20
  clear hz20 hx20
  have l43 : (LoadO 33 (.pointer (some ⟨w.heap.size, 43, none⟩))).run Tryd.prog (w.alloc (.cells x.cells.toArray 35)) = _ := K.l43
  have b4 : ∀ w, (BuildZ 33 #[]).run Tryd.prog w = .ok (.agg (([0, 0, 0, 0] : List UInt64).map V64).toArray) w := fun w => run_buildZ w 33 #[] _ builtWd
  have e4 : ∀ w, (binOp .eql 33 (.agg (x.amt.map V64).toArray) (.agg (([0, 0, 0, 0] : List UInt64).map V64).toArray)).run Tryd.prog w = .ok (.bool ((x.amt == [0, 0, 0, 0]))) w := fun w => eqWide w ⟨x.amt, hl.a4⟩ ⟨[0, 0, 0, 0], rfl⟩
  simp only [hA, Bool.not_true, Bool.not_false] at e4
  obtain ⟨z4, hz4⟩ : ∃ z4, z4 = (([0, 0, 0, 0] : List UInt64).map V64).toArray := ⟨_, rfl⟩
  rw [← hz4] at b4 e4
  obtain ⟨x4, hx4⟩ : ∃ x4, x4 = (x.amt.map V64).toArray := ⟨_, rfl⟩
  rw [← hx4] at l43 e4
  clear hz4 hx4
  have c47 : (w.alloc (.cells x.cells.toArray 35)).cell? ⟨w.heap.size, 47, none⟩ = some (.int .i64 x.gas) := K.c47
  have c48 : (w.alloc (.cells x.cells.toArray 35)).cell? ⟨w.heap.size, 48, none⟩ = some (.slice x.body.p x.body.d.length x.body.cap) := K.c48
  have HT := Lib.hid (fun (W : World) => in_is x.time 0 4611686018427387904 true hT W)
  have hK1 : x.tok = 0 := by simpa using hK
  rw [hK1] at c22
  have hG1 : x.gas = 0 := by simpa using hG
  rw [hG1] at c47
  have hB1 : x.body.d.length ≤ 4096 := by simpa using hB
  obtain ⟨n, hn⟩ : ∃ n, n = x.body.d.length := ⟨_, rfl⟩
  rw [← hn] at c48 hB1
  clear hn
  have hB2 : (n : Int) ≤ 4096 := by omega
  have HM := Lib.hid ((Mod.refl [] w).alloc (.cells x.cells.toArray 35))
  obtain ⟨cs, hcs⟩ : ∃ cs, cs = x.cells.toArray := ⟨_, rfl⟩
  rw [← hcs] at c0 c21 c22 l23 l43 c47 c48 HM ⊢
  clear K hcs hl hk hT hK hD hA hG hB
  go_enter Tryd.func51, Tryd.ntmps51
  go_wp2_with fail
  refine (HT.out _).mono ?_
  rintro e W ⟨rfl, rfl⟩
  go_wp2_with fail
  go_ret
  exact ⟨rfl, HM.out⟩
theorem chk_0 (x : En) (w : World) (hl : x.Ln) (h1 : ¬ x.kind = 1) (h2 : ¬ x.kind = 2) : Calls Tryd.prog 51 #[.agg x.cells.toArray] w fun e w' => e = .returned (.int .i64 63) ∧ Mod [] w w' := by
  have K := enBox hl (hp_new w (.cells x.cells.toArray 35) _ rfl)
  have c0 : (w.alloc (.cells x.cells.toArray 35)).cell? ⟨w.heap.size, 0, none⟩ = some (.int .i64 x.kind) := K.c0
  have c21 : (w.alloc (.cells x.cells.toArray 35)).cell? ⟨w.heap.size, 21, none⟩ = some (.int .i64 x.time) := K.c21
  have HT := Lib.hid (fun (W : World) => in_is x.time 0 4611686018427387904 _ rfl W)
  have HM := Lib.hid ((Mod.refl [] w).alloc (.cells x.cells.toArray 35))
  obtain ⟨cs, hcs⟩ : ∃ cs, cs = x.cells.toArray := ⟨_, rfl⟩
  rw [← hcs] at c0 c21 HM ⊢
  have q1 : (x.kind == 1) = false := by simpa using h1
  have q2 : (x.kind == 2) = false := by simpa using h2
  clear K hcs hl
  obtain ⟨t, ht⟩ : ∃ t, t = decide (0 ≤ x.time ∧ x.time ≤ 4611686018427387904) := ⟨_, rfl⟩
  rw [← ht] at HT
  clear ht
  go_enter Tryd.func51, Tryd.ntmps51
  go_wp2_with fail
  refine (HT.out _).mono ?_
  rintro e W ⟨rfl, rfl⟩
  go_wp2_with fail
  go_ret
  exact ⟨rfl, HM.out⟩
theorem check_any (x : En) (w : World) (hl : x.Ln) : Calls Tryd.prog 51 #[.agg x.cells.toArray] w fun e w' => e = .returned (.int .i64 x.chk) ∧ Mod [] w w' := by
  by_cases hk1 : x.kind = 1
  · cases qT : x.timeOk
    · have hc : x.chk = 63 := by unfold En.chk En.fine; rw [if_pos hk1, qT]; rfl
      rw [hc]; exact chk_10 x w hl hk1 qT
    · cases qK : x.tokOk
      · have hc : x.chk = 63 := by unfold En.chk En.fine; rw [if_pos hk1, qT, qK]; rfl
        rw [hc]; exact chk_11 x w hl hk1 qT qK
      · cases qA : (x.amt == [0, 0, 0, 0])
        · cases qG : x.gasOk
          · have hc : x.chk = 63 := by unfold En.chk En.fine; rw [if_pos hk1, qT, qK, qA, qG]; rfl
            rw [hc]; exact chk_13 x w hl hk1 qT qK qA qG
          · cases qB : decide (x.body.d.length = 0)
            · have hc : x.chk = 63 := by unfold En.chk En.fine; rw [if_pos hk1, qT, qK, qA, qG, qB]; rfl
              rw [hc]; exact chk_14 x w hl hk1 qT qK qA qG qB
            · have hc : x.chk = 0 := by unfold En.chk En.fine; rw [if_pos hk1, qT, qK, qA, qG, qB]; rfl
              rw [hc]; exact chk_1ok x w hl hk1 qT qK qA qG qB
        · have hc : x.chk = 63 := by unfold En.chk En.fine; rw [if_pos hk1, qT, qK, qA]; rfl
          rw [hc]; exact chk_12 x w hl hk1 qT qK qA
  · by_cases hk2 : x.kind = 2
    · cases qT : x.timeOk
      · have hc : x.chk = 63 := by unfold En.chk En.fine; rw [if_neg hk1, if_pos hk2, qT]; rfl
        rw [hc]; exact chk_20 x w hl hk2 qT
      · cases qK : decide (x.tok = 0)
        · have hc : x.chk = 63 := by unfold En.chk En.fine; rw [if_neg hk1, if_pos hk2, qT, qK]; rfl
          rw [hc]; exact chk_21 x w hl hk2 qT qK
        · cases qD : (x.to == zeros 20)
          · have hc : x.chk = 63 := by unfold En.chk En.fine; rw [if_neg hk1, if_pos hk2, qT, qK, qD]; rfl
            rw [hc]; exact chk_22 x w hl hk2 qT qK qD
          · cases qA : (x.amt == [0, 0, 0, 0])
            · have hc : x.chk = 63 := by unfold En.chk En.fine; rw [if_neg hk1, if_pos hk2, qT, qK, qD, qA]; rfl
              rw [hc]; exact chk_23 x w hl hk2 qT qK qD qA
            · cases qG : decide (x.gas = 0)
              · have hc : x.chk = 63 := by unfold En.chk En.fine; rw [if_neg hk1, if_pos hk2, qT, qK, qD, qA, qG]; rfl
                rw [hc]; exact chk_24 x w hl hk2 qT qK qD qA qG
              · cases qB : decide (x.body.d.length ≤ 4096)
                · have hc : x.chk = 63 := by unfold En.chk En.fine; rw [if_neg hk1, if_pos hk2, qT, qK, qD, qA, qG, qB]; rfl
                  rw [hc]; exact chk_25 x w hl hk2 qT qK qD qA qG qB
                · have hc : x.chk = 0 := by unfold En.chk En.fine; rw [if_neg hk1, if_pos hk2, qT, qK, qD, qA, qG, qB]; rfl
                  rw [hc]; exact chk_2ok x w hl hk2 qT qK qD qA qG qB
    · have hc : x.chk = 63 := by simp [En.chk, En.fine, hk1, hk2]
      rw [hc]; exact chk_0 x w hl hk1 hk2
theorem rin_is (n l m : Int) (b : Bool) (h : decide (l ≤ n ∧ n ≤ m) = b) (w : World) : Calls Tryd.prog 39 #[.int .i64 n, .int .i64 l, .int .i64 m] w fun e w' => e = .returned (.bool b) ∧ w' = w := by
  subst h
  by_cases h1 : l ≤ n
  · by_cases h2 : n ≤ m
    · go_enter Tryd.func39, Tryd.ntmps39
      go_wp2_with fail
      go_ret
      exact ⟨by simp [h1, h2], rfl⟩
    · go_enter Tryd.func39, Tryd.ntmps39
      go_wp2_with fail
      go_ret
      exact ⟨by simp [h1, h2], rfl⟩
  · go_enter Tryd.func39, Tryd.ntmps39
    go_wp2_with fail
    go_ret
    exact ⟨by simp only [decide_eq_false (show ¬ l ≤ n from Int.not_le.2 h1), Bool.false_and]; rfl, rfl⟩
theorem rchk_10 (x : En) (w : World) (hl : x.Ln) (hk : x.kind = 1) (hT : x.timeOk = false) : Calls Tryd.prog 21 #[.agg x.cells.toArray] w fun e w' => e = .returned (.int .i64 63) ∧ Mod [] w w' := by
  have K := enBox hl (hp_new w (.cells x.cells.toArray 35) _ rfl)
  have c0 : (w.alloc (.cells x.cells.toArray 35)).cell? ⟨w.heap.size, 0, none⟩ = some (.int .i64 x.kind) := K.c0
  rw [hk] at c0
  have c21 : (w.alloc (.cells x.cells.toArray 35)).cell? ⟨w.heap.size, 21, none⟩ = some (.int .i64 x.time) := K.c21
  have HT := Lib.hid (fun (W : World) => rin_is x.time 0 4611686018427387904 false hT W)
  have HM := Lib.hid ((Mod.refl [] w).alloc (.cells x.cells.toArray 35))
  obtain ⟨cs, hcs⟩ : ∃ cs, cs = x.cells.toArray := ⟨_, rfl⟩
  rw [← hcs] at c0 c21 HM ⊢
  clear K hcs hl hk hT
  go_enter Tryd.func21, Tryd.ntmps21
  go_wp2_with fail
  refine (HT.out _).mono ?_
  rintro e W ⟨rfl, rfl⟩
  go_wp2_with fail
  go_ret
  exact ⟨rfl, HM.out⟩
theorem rchk_11 (x : En) (w : World) (hl : x.Ln) (hk : x.kind = 1) (hT : x.timeOk = true) (hK : x.tokOk = false) : Calls Tryd.prog 21 #[.agg x.cells.toArray] w fun e w' => e = .returned (.int .i64 63) ∧ Mod [] w w' := by
  have K := enBox hl (hp_new w (.cells x.cells.toArray 35) _ rfl)
  have c0 : (w.alloc (.cells x.cells.toArray 35)).cell? ⟨w.heap.size, 0, none⟩ = some (.int .i64 x.kind) := K.c0
  rw [hk] at c0
  have c21 : (w.alloc (.cells x.cells.toArray 35)).cell? ⟨w.heap.size, 21, none⟩ = some (.int .i64 x.time) := K.c21
  have c22 : (w.alloc (.cells x.cells.toArray 35)).cell? ⟨w.heap.size, 22, none⟩ = some (.int .i64 x.tok) := K.c22
  have HT := Lib.hid (fun (W : World) => rin_is x.time 0 4611686018427387904 true hT W)
  have HK := Lib.hid (fun (W : World) => rin_is x.tok 0 63 false hK W)
  have HM := Lib.hid ((Mod.refl [] w).alloc (.cells x.cells.toArray 35))
  obtain ⟨cs, hcs⟩ : ∃ cs, cs = x.cells.toArray := ⟨_, rfl⟩
  rw [← hcs] at c0 c21 c22 HM ⊢
  clear K hcs hl hk hT hK
  go_enter Tryd.func21, Tryd.ntmps21
  go_wp2_with fail
  refine (HT.out _).mono ?_
  rintro e W ⟨rfl, rfl⟩
  go_wp2_with fail
  refine (HK.out _).mono ?_
  rintro e W ⟨rfl, rfl⟩
  go_wp2_with fail
  go_ret
  exact ⟨rfl, HM.out⟩
theorem rchk_12 (x : En) (w : World) (hl : x.Ln) (hk : x.kind = 1) (hT : x.timeOk = true) (hK : x.tokOk = true) (hA : (x.amt == [0, 0, 0, 0]) = true) : Calls Tryd.prog 21 #[.agg x.cells.toArray] w fun e w' => e = .returned (.int .i64 63) ∧ Mod [] w w' := by
  have K := enBox hl (hp_new w (.cells x.cells.toArray 35) _ rfl)
  have c0 : (w.alloc (.cells x.cells.toArray 35)).cell? ⟨w.heap.size, 0, none⟩ = some (.int .i64 x.kind) := K.c0
  rw [hk] at c0
  have c21 : (w.alloc (.cells x.cells.toArray 35)).cell? ⟨w.heap.size, 21, none⟩ = some (.int .i64 x.time) := K.c21
  have c22 : (w.alloc (.cells x.cells.toArray 35)).cell? ⟨w.heap.size, 22, none⟩ = some (.int .i64 x.tok) := K.c22
  have l43 : (LoadO 33 (.pointer (some ⟨w.heap.size, 43, none⟩))).run Tryd.prog (w.alloc (.cells x.cells.toArray 35)) = _ := K.l43
  have b4 : ∀ w, (BuildZ 33 #[]).run Tryd.prog w = .ok (.agg (([0, 0, 0, 0] : List UInt64).map V64).toArray) w := fun w => run_buildZ w 33 #[] _ builtWd
  have e4 : ∀ w, (binOp .neq 33 (.agg (x.amt.map V64).toArray) (.agg (([0, 0, 0, 0] : List UInt64).map V64).toArray)).run Tryd.prog w = .ok (.bool (!(x.amt == [0, 0, 0, 0]))) w := fun w => neqWide w ⟨x.amt, hl.a4⟩ ⟨[0, 0, 0, 0], rfl⟩
  simp only [hA, Bool.not_true, Bool.not_false] at e4
  obtain ⟨z4, hz4⟩ : ∃ z4, z4 = (([0, 0, 0, 0] : List UInt64).map V64).toArray := ⟨_, rfl⟩
  rw [← hz4] at b4 e4
  obtain ⟨x4, hx4⟩ : ∃ x4, x4 = (x.amt.map V64).toArray := ⟨_, rfl⟩
  rw [← hx4] at l43 e4
  clear hz4 hx4
  have HT := Lib.hid (fun (W : World) => rin_is x.time 0 4611686018427387904 true hT W)
  have HK := Lib.hid (fun (W : World) => rin_is x.tok 0 63 true hK W)
  have HM := Lib.hid ((Mod.refl [] w).alloc (.cells x.cells.toArray 35))
  obtain ⟨cs, hcs⟩ : ∃ cs, cs = x.cells.toArray := ⟨_, rfl⟩
  rw [← hcs] at c0 c21 c22 l43 HM ⊢
  clear K hcs hl hk hT hK hA
  go_enter Tryd.func21, Tryd.ntmps21
  go_wp2_with fail
  refine (HT.out _).mono ?_
  rintro e W ⟨rfl, rfl⟩
  go_wp2_with fail
  refine (HK.out _).mono ?_
  rintro e W ⟨rfl, rfl⟩
  go_wp2_with fail
  go_ret
  exact ⟨rfl, HM.out⟩
theorem rchk_13 (x : En) (w : World) (hl : x.Ln) (hk : x.kind = 1) (hT : x.timeOk = true) (hK : x.tokOk = true) (hA : (x.amt == [0, 0, 0, 0]) = false) (hG : x.gasOk = false) : Calls Tryd.prog 21 #[.agg x.cells.toArray] w fun e w' => e = .returned (.int .i64 63) ∧ Mod [] w w' := by
  have K := enBox hl (hp_new w (.cells x.cells.toArray 35) _ rfl)
  have c0 : (w.alloc (.cells x.cells.toArray 35)).cell? ⟨w.heap.size, 0, none⟩ = some (.int .i64 x.kind) := K.c0
  rw [hk] at c0
  have c21 : (w.alloc (.cells x.cells.toArray 35)).cell? ⟨w.heap.size, 21, none⟩ = some (.int .i64 x.time) := K.c21
  have c22 : (w.alloc (.cells x.cells.toArray 35)).cell? ⟨w.heap.size, 22, none⟩ = some (.int .i64 x.tok) := K.c22
  have l43 : (LoadO 33 (.pointer (some ⟨w.heap.size, 43, none⟩))).run Tryd.prog (w.alloc (.cells x.cells.toArray 35)) = _ := K.l43
  have b4 : ∀ w, (BuildZ 33 #[]).run Tryd.prog w = .ok (.agg (([0, 0, 0, 0] : List UInt64).map V64).toArray) w := fun w => run_buildZ w 33 #[] _ builtWd
  have e4 : ∀ w, (binOp .neq 33 (.agg (x.amt.map V64).toArray) (.agg (([0, 0, 0, 0] : List UInt64).map V64).toArray)).run Tryd.prog w = .ok (.bool (!(x.amt == [0, 0, 0, 0]))) w := fun w => neqWide w ⟨x.amt, hl.a4⟩ ⟨[0, 0, 0, 0], rfl⟩
  simp only [hA, Bool.not_true, Bool.not_false] at e4
  obtain ⟨z4, hz4⟩ : ∃ z4, z4 = (([0, 0, 0, 0] : List UInt64).map V64).toArray := ⟨_, rfl⟩
  rw [← hz4] at b4 e4
  obtain ⟨x4, hx4⟩ : ∃ x4, x4 = (x.amt.map V64).toArray := ⟨_, rfl⟩
  rw [← hx4] at l43 e4
  clear hz4 hx4
  have c47 : (w.alloc (.cells x.cells.toArray 35)).cell? ⟨w.heap.size, 47, none⟩ = some (.int .i64 x.gas) := K.c47
  have HT := Lib.hid (fun (W : World) => rin_is x.time 0 4611686018427387904 true hT W)
  have HK := Lib.hid (fun (W : World) => rin_is x.tok 0 63 true hK W)
  have HG := Lib.hid (fun (W : World) => rin_is x.gas 0 1099511627776 false hG W)
  have HM := Lib.hid ((Mod.refl [] w).alloc (.cells x.cells.toArray 35))
  obtain ⟨cs, hcs⟩ : ∃ cs, cs = x.cells.toArray := ⟨_, rfl⟩
  rw [← hcs] at c0 c21 c22 l43 c47 HM ⊢
  clear K hcs hl hk hT hK hA hG
  go_enter Tryd.func21, Tryd.ntmps21
  go_wp2_with fail
  refine (HT.out _).mono ?_
  rintro e W ⟨rfl, rfl⟩
  go_wp2_with fail
  refine (HK.out _).mono ?_
  rintro e W ⟨rfl, rfl⟩
  go_wp2_with fail
  refine (HG.out _).mono ?_
  rintro e W ⟨rfl, rfl⟩
  go_wp2_with fail
  go_ret
  exact ⟨rfl, HM.out⟩
theorem rchk_14 (x : En) (w : World) (hl : x.Ln) (hk : x.kind = 1) (hT : x.timeOk = true) (hK : x.tokOk = true) (hA : (x.amt == [0, 0, 0, 0]) = false) (hG : x.gasOk = true) (hB : decide (x.body.d.length = 0) = false) : Calls Tryd.prog 21 #[.agg x.cells.toArray] w fun e w' => e = .returned (.int .i64 63) ∧ Mod [] w w' := by
  have K := enBox hl (hp_new w (.cells x.cells.toArray 35) _ rfl)
  have c0 : (w.alloc (.cells x.cells.toArray 35)).cell? ⟨w.heap.size, 0, none⟩ = some (.int .i64 x.kind) := K.c0
  rw [hk] at c0
  have c21 : (w.alloc (.cells x.cells.toArray 35)).cell? ⟨w.heap.size, 21, none⟩ = some (.int .i64 x.time) := K.c21
  have c22 : (w.alloc (.cells x.cells.toArray 35)).cell? ⟨w.heap.size, 22, none⟩ = some (.int .i64 x.tok) := K.c22
  have l43 : (LoadO 33 (.pointer (some ⟨w.heap.size, 43, none⟩))).run Tryd.prog (w.alloc (.cells x.cells.toArray 35)) = _ := K.l43
  have b4 : ∀ w, (BuildZ 33 #[]).run Tryd.prog w = .ok (.agg (([0, 0, 0, 0] : List UInt64).map V64).toArray) w := fun w => run_buildZ w 33 #[] _ builtWd
  have e4 : ∀ w, (binOp .neq 33 (.agg (x.amt.map V64).toArray) (.agg (([0, 0, 0, 0] : List UInt64).map V64).toArray)).run Tryd.prog w = .ok (.bool (!(x.amt == [0, 0, 0, 0]))) w := fun w => neqWide w ⟨x.amt, hl.a4⟩ ⟨[0, 0, 0, 0], rfl⟩
  simp only [hA, Bool.not_true, Bool.not_false] at e4
  obtain ⟨z4, hz4⟩ : ∃ z4, z4 = (([0, 0, 0, 0] : List UInt64).map V64).toArray := ⟨_, rfl⟩
  rw [← hz4] at b4 e4
  obtain ⟨x4, hx4⟩ : ∃ x4, x4 = (x.amt.map V64).toArray := ⟨_, rfl⟩
  rw [← hx4] at l43 e4
  clear hz4 hx4
  have c47 : (w.alloc (.cells x.cells.toArray 35)).cell? ⟨w.heap.size, 47, none⟩ = some (.int .i64 x.gas) := K.c47
  have c48 : (w.alloc (.cells x.cells.toArray 35)).cell? ⟨w.heap.size, 48, none⟩ = some (.slice x.body.p x.body.d.length x.body.cap) := K.c48
  have HT := Lib.hid (fun (W : World) => rin_is x.time 0 4611686018427387904 true hT W)
  have HK := Lib.hid (fun (W : World) => rin_is x.tok 0 63 true hK W)
  have HG := Lib.hid (fun (W : World) => rin_is x.gas 0 1099511627776 true hG W)
  have hB1 : ¬ x.body.d.length = 0 := by simpa using hB
  have hB2 : ((x.body.d.length : Int) == 0) = false := by simp; simpa using hB1
  obtain ⟨n, hn⟩ : ∃ n, n = x.body.d.length := ⟨_, rfl⟩
  rw [← hn] at c48 hB1 hB2
  clear hn
  have HM := Lib.hid ((Mod.refl [] w).alloc (.cells x.cells.toArray 35))
  obtain ⟨cs, hcs⟩ : ∃ cs, cs = x.cells.toArray := ⟨_, rfl⟩
  rw [← hcs] at c0 c21 c22 l43 c47 c48 HM ⊢
  clear K hcs hl hk hT hK hA hG hB
  go_enter Tryd.func21, Tryd.ntmps21
  go_wp2_with fail
  refine (HT.out _).mono ?_
  rintro e W ⟨rfl, rfl⟩
  go_wp2_with fail
  refine (HK.out _).mono ?_
  rintro e W ⟨rfl, rfl⟩
  go_wp2_with fail
  refine (HG.out _).mono ?_
  rintro e W ⟨rfl, rfl⟩
  go_wp2_with fail
  go_ret
  exact ⟨rfl, HM.out⟩
theorem rchk_1ok (x : En) (w : World) (hl : x.Ln) (hk : x.kind = 1) (hT : x.timeOk = true) (hK : x.tokOk = true) (hA : (x.amt == [0, 0, 0, 0]) = false) (hG : x.gasOk = true) (hB : decide (x.body.d.length = 0) = true) : Calls Tryd.prog 21 #[.agg x.cells.toArray] w fun e w' => e = .returned (.int .i64 0) ∧ Mod [] w w' := by
  have K := enBox hl (hp_new w (.cells x.cells.toArray 35) _ rfl)
  have c0 : (w.alloc (.cells x.cells.toArray 35)).cell? ⟨w.heap.size, 0, none⟩ = some (.int .i64 x.kind) := K.c0
  rw [hk] at c0
  have c21 : (w.alloc (.cells x.cells.toArray 35)).cell? ⟨w.heap.size, 21, none⟩ = some (.int .i64 x.time) := K.c21
  have c22 : (w.alloc (.cells x.cells.toArray 35)).cell? ⟨w.heap.size, 22, none⟩ = some (.int .i64 x.tok) := K.c22
  have l43 : (LoadO 33 (.pointer (some ⟨w.heap.size, 43, none⟩))).run Tryd.prog (w.alloc (.cells x.cells.toArray 35)) = _ := K.l43
  have b4 : ∀ w, (BuildZ 33 #[]).run Tryd.prog w = .ok (.agg (([0, 0, 0, 0] : List UInt64).map V64).toArray) w := fun w => run_buildZ w 33 #[] _ builtWd
  have e4 : ∀ w, (binOp .neq 33 (.agg (x.amt.map V64).toArray) (.agg (([0, 0, 0, 0] : List UInt64).map V64).toArray)).run Tryd.prog w = .ok (.bool (!(x.amt == [0, 0, 0, 0]))) w := fun w => neqWide w ⟨x.amt, hl.a4⟩ ⟨[0, 0, 0, 0], rfl⟩
  simp only [hA, Bool.not_true, Bool.not_false] at e4
  obtain ⟨z4, hz4⟩ : ∃ z4, z4 = (([0, 0, 0, 0] : List UInt64).map V64).toArray := ⟨_, rfl⟩
  rw [← hz4] at b4 e4
  obtain ⟨x4, hx4⟩ : ∃ x4, x4 = (x.amt.map V64).toArray := ⟨_, rfl⟩
  rw [← hx4] at l43 e4
  clear hz4 hx4
  have c47 : (w.alloc (.cells x.cells.toArray 35)).cell? ⟨w.heap.size, 47, none⟩ = some (.int .i64 x.gas) := K.c47
  have c48 : (w.alloc (.cells x.cells.toArray 35)).cell? ⟨w.heap.size, 48, none⟩ = some (.slice x.body.p x.body.d.length x.body.cap) := K.c48
  have HT := Lib.hid (fun (W : World) => rin_is x.time 0 4611686018427387904 true hT W)
  have HK := Lib.hid (fun (W : World) => rin_is x.tok 0 63 true hK W)
  have HG := Lib.hid (fun (W : World) => rin_is x.gas 0 1099511627776 true hG W)
  have hB1 : x.body.d.length = 0 := by simpa using hB
  rw [hB1] at c48
  have HM := Lib.hid ((Mod.refl [] w).alloc (.cells x.cells.toArray 35))
  obtain ⟨cs, hcs⟩ : ∃ cs, cs = x.cells.toArray := ⟨_, rfl⟩
  rw [← hcs] at c0 c21 c22 l43 c47 c48 HM ⊢
  clear K hcs hl hk hT hK hA hG hB
  go_enter Tryd.func21, Tryd.ntmps21
  go_wp2_with fail
  refine (HT.out _).mono ?_
  rintro e W ⟨rfl, rfl⟩
  go_wp2_with fail
  refine (HK.out _).mono ?_
  rintro e W ⟨rfl, rfl⟩
  go_wp2_with fail
  refine (HG.out _).mono ?_
  rintro e W ⟨rfl, rfl⟩
  go_wp2_with fail
  go_ret
  exact ⟨rfl, HM.out⟩
theorem rchk_20 (x : En) (w : World) (hl : x.Ln) (hk : x.kind = 2) (hT : x.timeOk = false) : Calls Tryd.prog 21 #[.agg x.cells.toArray] w fun e w' => e = .returned (.int .i64 63) ∧ Mod [] w w' := by
  have K := enBox hl (hp_new w (.cells x.cells.toArray 35) _ rfl)
  have c0 : (w.alloc (.cells x.cells.toArray 35)).cell? ⟨w.heap.size, 0, none⟩ = some (.int .i64 x.kind) := K.c0
  rw [hk] at c0
  have c21 : (w.alloc (.cells x.cells.toArray 35)).cell? ⟨w.heap.size, 21, none⟩ = some (.int .i64 x.time) := K.c21
  have HT := Lib.hid (fun (W : World) => rin_is x.time 0 4611686018427387904 false hT W)
  have HM := Lib.hid ((Mod.refl [] w).alloc (.cells x.cells.toArray 35))
  obtain ⟨cs, hcs⟩ : ∃ cs, cs = x.cells.toArray := ⟨_, rfl⟩
  rw [← hcs] at c0 c21 HM ⊢
  clear K hcs hl hk hT
  go_enter Tryd.func21, Tryd.ntmps21
  go_wp2_with fail
  refine (HT.out _).mono ?_
  rintro e W ⟨rfl, rfl⟩
  go_wp2_with fail
  go_ret
  exact ⟨rfl, HM.out⟩
theorem rchk_21 (x : En) (w : World) (hl : x.Ln) (hk : x.kind = 2) (hT : x.timeOk = true) (hK : decide (x.tok = 0) = false) : Calls Tryd.prog 21 #[.agg x.cells.toArray] w fun e w' => e = .returned (.int .i64 63) ∧ Mod [] w w' := by
  have K := enBox hl (hp_new w (.cells x.cells.toArray 35) _ rfl)
  have c0 : (w.alloc (.cells x.cells.toArray 35)).cell? ⟨w.heap.size, 0, none⟩ = some (.int .i64 x.kind) := K.c0
  rw [hk] at c0
  have c21 : (w.alloc (.cells x.cells.toArray 35)).cell? ⟨w.heap.size, 21, none⟩ = some (.int .i64 x.time) := K.c21
  have c22 : (w.alloc (.cells x.cells.toArray 35)).cell? ⟨w.heap.size, 22, none⟩ = some (.int .i64 x.tok) := K.c22
  have HT := Lib.hid (fun (W : World) => rin_is x.time 0 4611686018427387904 true hT W)
  have hK1 : ¬ x.tok = 0 := by simpa using hK
  have hK2 : (x.tok == 0) = false := by simpa using hK1
  have HM := Lib.hid ((Mod.refl [] w).alloc (.cells x.cells.toArray 35))
  obtain ⟨cs, hcs⟩ : ∃ cs, cs = x.cells.toArray := ⟨_, rfl⟩
  rw [← hcs] at c0 c21 c22 HM ⊢
  clear K hcs hl hk hT hK
  go_enter Tryd.func21, Tryd.ntmps21
  go_wp2_with fail
  refine (HT.out _).mono ?_
  rintro e W ⟨rfl, rfl⟩
  go_wp2_with fail
  go_ret
  exact ⟨rfl, HM.out⟩
theorem rchk_22 (x : En) (w : World) (hl : x.Ln) (hk : x.kind = 2) (hT : x.timeOk = true) (hK : decide (x.tok = 0) = true) (hD : (x.to == zeros 20) = false) : Calls Tryd.prog 21 #[.agg x.cells.toArray] w fun e w' => e = .returned (.int .i64 63) ∧ Mod [] w w' := by
  have K := enBox hl (hp_new w (.cells x.cells.toArray 35) _ rfl)
  have c0 : (w.alloc (.cells x.cells.toArray 35)).cell? ⟨w.heap.size, 0, none⟩ = some (.int .i64 x.kind) := K.c0
  rw [hk] at c0
  have c21 : (w.alloc (.cells x.cells.toArray 35)).cell? ⟨w.heap.size, 21, none⟩ = some (.int .i64 x.time) := K.c21
  have c22 : (w.alloc (.cells x.cells.toArray 35)).cell? ⟨w.heap.size, 22, none⟩ = some (.int .i64 x.tok) := K.c22
  have l23 : (LoadO 30 (.pointer (some ⟨w.heap.size, 23, none⟩))).run Tryd.prog (w.alloc (.cells x.cells.toArray 35)) = _ := K.l23
  have b20 : ∀ w, (BuildZ 30 #[]).run Tryd.prog w = .ok (.agg ((zeros 20).map V8).toArray) w := fun w => run_buildZ w 30 #[] _ builtAd
  have e20 := fun w => eqAd w x.to (zeros 20) hl.t20 (zeros_length 20)
  simp only [hD] at e20
  obtain ⟨z20, hz20⟩ : ∃ z20, z20 = ((zeros 20).map V8).toArray := ⟨_, rfl⟩
  rw [← hz20] at b20 e20
  obtain ⟨x20, hx20⟩ : ∃ x20, x20 = (x.to.map V8).toArray := ⟨_, rfl⟩
  rw [← hx20] at l23 e20
  clear hz20 hx20
  have HT := Lib.hid (fun (W : World) => rin_is x.time 0 4611686018427387904 true hT W)
  have hK1 : x.tok = 0 := by simpa using hK
  rw [hK1] at c22
  have HM := Lib.hid ((Mod.refl [] w).alloc (.cells x.cells.toArray 35))
  obtain ⟨cs, hcs⟩ : ∃ cs, cs = x.cells.toArray := ⟨_, rfl⟩
  rw [← hcs] at c0 c21 c22 l23 HM ⊢
  clear K hcs hl hk hT hK hD
  go_enter Tryd.func21, Tryd.ntmps21
  go_wp2_with fail
  refine (HT.out _).mono ?_
  rintro e W ⟨rfl, rfl⟩
  go_wp2_with fail
  go_ret
  exact ⟨rfl, HM.out⟩
theorem rchk_23 (x : En) (w : World) (hl : x.Ln) (hk : x.kind = 2) (hT : x.timeOk = true) (hK : decide (x.tok = 0) = true) (hD : (x.to == zeros 20) = true) (hA : (x.amt == [0, 0, 0, 0]) = false) : Calls Tryd.prog 21 #[.agg x.cells.toArray] w fun e w' => e = .returned (.int .i64 63) ∧ Mod [] w w' := by
  have K := enBox hl (hp_new w (.cells x.cells.toArray 35) _ rfl)
  have c0 : (w.alloc (.cells x.cells.toArray 35)).cell? ⟨w.heap.size, 0, none⟩ = some (.int .i64 x.kind) := K.c0
  rw [hk] at c0
  have c21 : (w.alloc (.cells x.cells.toArray 35)).cell? ⟨w.heap.size, 21, none⟩ = some (.int .i64 x.time) := K.c21
  have c22 : (w.alloc (.cells x.cells.toArray 35)).cell? ⟨w.heap.size, 22, none⟩ = some (.int .i64 x.tok) := K.c22
  have l23 : (LoadO 30 (.pointer (some ⟨w.heap.size, 23, none⟩))).run Tryd.prog (w.alloc (.cells x.cells.toArray 35)) = _ := K.l23
  have b20 : ∀ w, (BuildZ 30 #[]).run Tryd.prog w = .ok (.agg ((zeros 20).map V8).toArray) w := fun w => run_buildZ w 30 #[] _ builtAd
  have e20 := fun w => eqAd w x.to (zeros 20) hl.t20 (zeros_length 20)
  simp only [hD] at e20
  obtain ⟨z20, hz20⟩ : ∃ z20, z20 = ((zeros 20).map V8).toArray := ⟨_, rfl⟩
  rw [← hz20] at b20 e20
  obtain ⟨x20, hx20⟩ : ∃ x20, x20 = (x.to.map V8).toArray := ⟨_, rfl⟩
  rw [← hx20] at l23 e20
  clear hz20 hx20
  have l43 : (LoadO 33 (.pointer (some ⟨w.heap.size, 43, none⟩))).run Tryd.prog (w.alloc (.cells x.cells.toArray 35)) = _ := K.l43
  have b4 : ∀ w, (BuildZ 33 #[]).run Tryd.prog w = .ok (.agg (([0, 0, 0, 0] : List UInt64).map V64).toArray) w := fun w => run_buildZ w 33 #[] _ builtWd
  have e4 : ∀ w, (binOp .eql 33 (.agg (x.amt.map V64).toArray) (.agg (([0, 0, 0, 0] : List UInt64).map V64).toArray)).run Tryd.prog w = .ok (.bool ((x.amt == [0, 0, 0, 0]))) w := fun w => eqWide w ⟨x.amt, hl.a4⟩ ⟨[0, 0, 0, 0], rfl⟩
  simp only [hA, Bool.not_true, Bool.not_false] at e4
  obtain ⟨z4, hz4⟩ : ∃ z4, z4 = (([0, 0, 0, 0] : List UInt64).map V64).toArray := ⟨_, rfl⟩
  rw [← hz4] at b4 e4
  obtain ⟨x4, hx4⟩ : ∃ x4, x4 = (x.amt.map V64).toArray := ⟨_, rfl⟩
  rw [← hx4] at l43 e4
  clear hz4 hx4
  have HT := Lib.hid (fun (W : World) => rin_is x.time 0 4611686018427387904 true hT W)
  have hK1 : x.tok = 0 := by simpa using hK
  rw [hK1] at c22
  have HM := Lib.hid ((Mod.refl [] w).alloc (.cells x.cells.toArray 35))
  obtain ⟨cs, hcs⟩ : ∃ cs, cs = x.cells.toArray := ⟨_, rfl⟩
  rw [← hcs] at c0 c21 c22 l23 l43 HM ⊢
  clear K hcs hl hk hT hK hD hA
  go_enter Tryd.func21, Tryd.ntmps21
  go_wp2_with fail
  refine (HT.out _).mono ?_
  rintro e W ⟨rfl, rfl⟩
  go_wp2_with fail
  go_ret
  exact ⟨rfl, HM.out⟩
theorem rchk_24 (x : En) (w : World) (hl : x.Ln) (hk : x.kind = 2) (hT : x.timeOk = true) (hK : decide (x.tok = 0) = true) (hD : (x.to == zeros 20) = true) (hA : (x.amt == [0, 0, 0, 0]) = true) (hG : decide (x.gas = 0) = false) : Calls Tryd.prog 21 #[.agg x.cells.toArray] w fun e w' => e = .returned (.int .i64 63) ∧ Mod [] w w' := by
  have K := enBox hl (hp_new w (.cells x.cells.toArray 35) _ rfl)
  have c0 : (w.alloc (.cells x.cells.toArray 35)).cell? ⟨w.heap.size, 0, none⟩ = some (.int .i64 x.kind) := K.c0
  rw [hk] at c0
  have c21 : (w.alloc (.cells x.cells.toArray 35)).cell? ⟨w.heap.size, 21, none⟩ = some (.int .i64 x.time) := K.c21
  have c22 : (w.alloc (.cells x.cells.toArray 35)).cell? ⟨w.heap.size, 22, none⟩ = some (.int .i64 x.tok) := K.c22
  have l23 : (LoadO 30 (.pointer (some ⟨w.heap.size, 23, none⟩))).run Tryd.prog (w.alloc (.cells x.cells.toArray 35)) = _ := K.l23
  have b20 : ∀ w, (BuildZ 30 #[]).run Tryd.prog w = .ok (.agg ((zeros 20).map V8).toArray) w := fun w => run_buildZ w 30 #[] _ builtAd
  have e20 := fun w => eqAd w x.to (zeros 20) hl.t20 (zeros_length 20)
  simp only [hD] at e20
  obtain ⟨z20, hz20⟩ : ∃ z20, z20 = ((zeros 20).map V8).toArray := ⟨_, rfl⟩
  rw [← hz20] at b20 e20
  obtain ⟨x20, hx20⟩ : ∃ x20, x20 = (x.to.map V8).toArray := ⟨_, rfl⟩
  rw [← hx20] at l23 e20
  clear hz20 hx20
  have l43 : (LoadO 33 (.pointer (some ⟨w.heap.size, 43, none⟩))).run Tryd.prog (w.alloc (.cells x.cells.toArray 35)) = _ := K.l43
  have b4 : ∀ w, (BuildZ 33 #[]).run Tryd.prog w = .ok (.agg (([0, 0, 0, 0] : List UInt64).map V64).toArray) w := fun w => run_buildZ w 33 #[] _ builtWd
  have e4 : ∀ w, (binOp .eql 33 (.agg (x.amt.map V64).toArray) (.agg (([0, 0, 0, 0] : List UInt64).map V64).toArray)).run Tryd.prog w = .ok (.bool ((x.amt == [0, 0, 0, 0]))) w := fun w => eqWide w ⟨x.amt, hl.a4⟩ ⟨[0, 0, 0, 0], rfl⟩
  simp only [hA, Bool.not_true, Bool.not_false] at e4
  obtain ⟨z4, hz4⟩ : ∃ z4, z4 = (([0, 0, 0, 0] : List UInt64).map V64).toArray := ⟨_, rfl⟩
  rw [← hz4] at b4 e4
  obtain ⟨x4, hx4⟩ : ∃ x4, x4 = (x.amt.map V64).toArray := ⟨_, rfl⟩
  rw [← hx4] at l43 e4
  clear hz4 hx4
  have c47 : (w.alloc (.cells x.cells.toArray 35)).cell? ⟨w.heap.size, 47, none⟩ = some (.int .i64 x.gas) := K.c47
  have HT := Lib.hid (fun (W : World) => rin_is x.time 0 4611686018427387904 true hT W)
  have hK1 : x.tok = 0 := by simpa using hK
  rw [hK1] at c22
  have hG1 : ¬ x.gas = 0 := by simpa using hG
  have hG2 : (x.gas == 0) = false := by simpa using hG1
  have HM := Lib.hid ((Mod.refl [] w).alloc (.cells x.cells.toArray 35))
  obtain ⟨cs, hcs⟩ : ∃ cs, cs = x.cells.toArray := ⟨_, rfl⟩
  rw [← hcs] at c0 c21 c22 l23 l43 c47 HM ⊢
  clear K hcs hl hk hT hK hD hA hG
  go_enter Tryd.func21, Tryd.ntmps21
  go_wp2_with fail
  refine (HT.out _).mono ?_
  rintro e W ⟨rfl, rfl⟩
  go_wp2_with fail
  go_ret
  exact ⟨rfl, HM.out⟩
theorem rchk_25 (x : En) (w : World) (hl : x.Ln) (hk : x.kind = 2) (hT : x.timeOk = true) (hK : decide (x.tok = 0) = true) (hD : (x.to == zeros 20) = true) (hA : (x.amt == [0, 0, 0, 0]) = true) (hG : decide (x.gas = 0) = true) (hB : decide (x.body.d.length ≤ 4096) = false) : Calls Tryd.prog 21 #[.agg x.cells.toArray] w fun e w' => e = .returned (.int .i64 63) ∧ Mod [] w w' := by
  have K := enBox hl (hp_new w (.cells x.cells.toArray 35) _ rfl)
  have c0 : (w.alloc (.cells x.cells.toArray 35)).cell? ⟨w.heap.size, 0, none⟩ = some (.int .i64 x.kind) := K.c0
  rw [hk] at c0
  have c21 : (w.alloc (.cells x.cells.toArray 35)).cell? ⟨w.heap.size, 21, none⟩ = some (.int .i64 x.time) := K.c21
  have c22 : (w.alloc (.cells x.cells.toArray 35)).cell? ⟨w.heap.size, 22, none⟩ = some (.int .i64 x.tok) := K.c22
  have l23 : (LoadO 30 (.pointer (some ⟨w.heap.size, 23, none⟩))).run Tryd.prog (w.alloc (.cells x.cells.toArray 35)) = _ := K.l23
  have b20 : ∀ w, (BuildZ 30 #[]).run Tryd.prog w = .ok (.agg ((zeros 20).map V8).toArray) w := fun w => run_buildZ w 30 #[] _ builtAd
  have e20 := fun w => eqAd w x.to (zeros 20) hl.t20 (zeros_length 20)
  simp only [hD] at e20
  obtain ⟨z20, hz20⟩ : ∃ z20, z20 = ((zeros 20).map V8).toArray := ⟨_, rfl⟩
  rw [← hz20] at b20 e20
  obtain ⟨x20, hx20⟩ : ∃ x20, x20 = (x.to.map V8).toArray := ⟨_, rfl⟩
  rw [← hx20] at l23 e20
  clear hz20 hx20
  have l43 : (LoadO 33 (.pointer (some ⟨w.heap.size, 43, none⟩))).run Tryd.prog (w.alloc (.cells x.cells.toArray 35)) = _ := K.l43
  have b4 : ∀ w, (BuildZ 33 #[]).run Tryd.prog w = .ok (.agg (([0, 0, 0, 0] : List UInt64).map V64).toArray) w := fun w => run_buildZ w 33 #[] _ builtWd
  have e4 : ∀ w, (binOp .eql 33 (.agg (x.amt.map V64).toArray) (.agg (([0, 0, 0, 0] : List UInt64).map V64).toArray)).run Tryd.prog w = .ok (.bool ((x.amt == [0, 0, 0, 0]))) w := fun w => eqWide w ⟨x.amt, hl.a4⟩ ⟨[0, 0, 0, 0], rfl⟩
  simp only [hA, Bool.not_true, Bool.not_false] at e4
  obtain ⟨z4, hz4⟩ : ∃ z4, z4 = (([0, 0, 0, 0] : List UInt64).map V64).toArray := ⟨_, rfl⟩
  rw [← hz4] at b4 e4
  obtain ⟨x4, hx4⟩ : ∃ x4, x4 = (x.amt.map V64).toArray := ⟨_, rfl⟩
  rw [← hx4] at l43 e4
  clear hz4 hx4
  have c47 : (w.alloc (.cells x.cells.toArray 35)).cell? ⟨w.heap.size, 47, none⟩ = some (.int .i64 x.gas) := K.c47
  have c48 : (w.alloc (.cells x.cells.toArray 35)).cell? ⟨w.heap.size, 48, none⟩ = some (.slice x.body.p x.body.d.length x.body.cap) := K.c48
  have HT := Lib.hid (fun (W : World) => rin_is x.time 0 4611686018427387904 true hT W)
  have hK1 : x.tok = 0 := by simpa using hK
  rw [hK1] at c22
  have hG1 : x.gas = 0 := by simpa using hG
  rw [hG1] at c47
  have hB1 : ¬ x.body.d.length ≤ 4096 := by simpa using hB
  obtain ⟨n, hn⟩ : ∃ n, n = x.body.d.length := ⟨_, rfl⟩
  rw [← hn] at c48 hB1
  clear hn
  have hB2 : decide ((n : Int) ≤ 4096) = false := by simp; omega
  clear hB1
  have HM := Lib.hid ((Mod.refl [] w).alloc (.cells x.cells.toArray 35))
  obtain ⟨cs, hcs⟩ : ∃ cs, cs = x.cells.toArray := ⟨_, rfl⟩
  rw [← hcs] at c0 c21 c22 l23 l43 c47 c48 HM ⊢
  clear K hcs hl hk hT hK hD hA hG hB
  go_enter Tryd.func21, Tryd.ntmps21
  go_wp2_with fail
  refine (HT.out _).mono ?_
  rintro e W ⟨rfl, rfl⟩
  go_wp2_with fail
  go_ret
  exact ⟨rfl, HM.out⟩
theorem rchk_2ok (x : En) (w : World) (hl : x.Ln) (hk : x.kind = 2) (hT : x.timeOk = true) (hK : decide (x.tok = 0) = true) (hD : (x.to == zeros 20) = true) (hA : (x.amt == [0, 0, 0, 0]) = true) (hG : decide (x.gas = 0) = true) (hB : decide (x.body.d.length ≤ 4096) = true) : Calls Tryd.prog 21 #[.agg x.cells.toArray] w fun e w' => e = .returned (.int .i64 0) ∧ Mod [] w w' := by
  have K := enBox hl (hp_new w (.cells x.cells.toArray 35) _ rfl)
  have c0 : (w.alloc (.cells x.cells.toArray 35)).cell? ⟨w.heap.size, 0, none⟩ = some (.int .i64 x.kind) := K.c0
  rw [hk] at c0
  have c21 : (w.alloc (.cells x.cells.toArray 35)).cell? ⟨w.heap.size, 21, none⟩ = some (.int .i64 x.time) := K.c21
  have c22 : (w.alloc (.cells x.cells.toArray 35)).cell? ⟨w.heap.size, 22, none⟩ = some (.int .i64 x.tok) := K.c22
  have l23 : (LoadO 30 (.pointer (some ⟨w.heap.size, 23, none⟩))).run Tryd.prog (w.alloc (.cells x.cells.toArray 35)) = _ := K.l23
  have b20 : ∀ w, (BuildZ 30 #[]).run Tryd.prog w = .ok (.agg ((zeros 20).map V8).toArray) w := fun w => run_buildZ w 30 #[] _ builtAd
  have e20 := fun w => eqAd w x.to (zeros 20) hl.t20 (zeros_length 20)
  simp only [hD] at e20
  obtain ⟨z20, hz20⟩ : ∃ z20, z20 = ((zeros 20).map V8).toArray := ⟨_, rfl⟩
  rw [← hz20] at b20 e20
  obtain ⟨x20, hx20⟩ : ∃ x20, x20 = (x.to.map V8).toArray := ⟨_, rfl⟩
  rw [← hx20] at l23 e20
  clear hz20 hx20
  have l43 : (LoadO 33 (.pointer (some ⟨w.heap.size, 43, none⟩))).run Tryd.prog (w.alloc (.cells x.cells.toArray 35)) = _ := K.l43
  have b4 : ∀ w, (BuildZ 33 #[]).run Tryd.prog w = .ok (.agg (([0, 0, 0, 0] : List UInt64).map V64).toArray) w := fun w => run_buildZ w 33 #[] _ builtWd
  have e4 : ∀ w, (binOp .eql 33 (.agg (x.amt.map V64).toArray) (.agg (([0, 0, 0, 0] : List UInt64).map V64).toArray)).run Tryd.prog w = .ok (.bool ((x.amt == [0, 0, 0, 0]))) w := fun w => eqWide w ⟨x.amt, hl.a4⟩ ⟨[0, 0, 0, 0], rfl⟩
  simp only [hA, Bool.not_true, Bool.not_false] at e4
  obtain ⟨z4, hz4⟩ : ∃ z4, z4 = (([0, 0, 0, 0] : List UInt64).map V64).toArray := ⟨_, rfl⟩
  rw [← hz4] at b4 e4
  obtain ⟨x4, hx4⟩ : ∃ x4, x4 = (x.amt.map V64).toArray := ⟨_, rfl⟩
  rw [← hx4] at l43 e4
  clear hz4 hx4
  have c47 : (w.alloc (.cells x.cells.toArray 35)).cell? ⟨w.heap.size, 47, none⟩ = some (.int .i64 x.gas) := K.c47
  have c48 : (w.alloc (.cells x.cells.toArray 35)).cell? ⟨w.heap.size, 48, none⟩ = some (.slice x.body.p x.body.d.length x.body.cap) := K.c48
  have HT := Lib.hid (fun (W : World) => rin_is x.time 0 4611686018427387904 true hT W)
  have hK1 : x.tok = 0 := by simpa using hK
  rw [hK1] at c22
  have hG1 : x.gas = 0 := by simpa using hG
  rw [hG1] at c47
  have hB1 : x.body.d.length ≤ 4096 := by simpa using hB
  obtain ⟨n, hn⟩ : ∃ n, n = x.body.d.length := ⟨_, rfl⟩
  rw [← hn] at c48 hB1
  clear hn
  have hB2 : (n : Int) ≤ 4096 := by omega
  have HM := Lib.hid ((Mod.refl [] w).alloc (.cells x.cells.toArray 35))
  obtain ⟨cs, hcs⟩ : ∃ cs, cs = x.cells.toArray := ⟨_, rfl⟩
  rw [← hcs] at c0 c21 c22 l23 l43 c47 c48 HM ⊢
  clear K hcs hl hk hT hK hD hA hG hB
  go_enter Tryd.func21, Tryd.ntmps21
  go_wp2_with fail
  refine (HT.out _).mono ?_
  rintro e W ⟨rfl, rfl⟩
  go_wp2_with fail
  go_ret
  exact ⟨rfl, HM.out⟩
theorem rchk_0 (x : En) (w : World) (hl : x.Ln) (h1 : ¬ x.kind = 1) (h2 : ¬ x.kind = 2) : Calls Tryd.prog 21 #[.agg x.cells.toArray] w fun e w' => e = .returned (.int .i64 63) ∧ Mod [] w w' := by
  have K := enBox hl (hp_new w (.cells x.cells.toArray 35) _ rfl)
  have c0 : (w.alloc (.cells x.cells.toArray 35)).cell? ⟨w.heap.size, 0, none⟩ = some (.int .i64 x.kind) := K.c0
  have c21 : (w.alloc (.cells x.cells.toArray 35)).cell? ⟨w.heap.size, 21, none⟩ = some (.int .i64 x.time) := K.c21
  have HT := Lib.hid (fun (W : World) => rin_is x.time 0 4611686018427387904 _ rfl W)
  have HM := Lib.hid ((Mod.refl [] w).alloc (.cells x.cells.toArray 35))
  obtain ⟨cs, hcs⟩ : ∃ cs, cs = x.cells.toArray := ⟨_, rfl⟩
  rw [← hcs] at c0 c21 HM ⊢
  have q1 : (x.kind == 1) = false := by simpa using h1
  have q2 : (x.kind == 2) = false := by simpa using h2
  clear K hcs hl
  obtain ⟨t, ht⟩ : ∃ t, t = decide (0 ≤ x.time ∧ x.time ≤ 4611686018427387904) := ⟨_, rfl⟩
  rw [← ht] at HT
  clear ht
  go_enter Tryd.func21, Tryd.ntmps21
  go_wp2_with fail
  refine (HT.out _).mono ?_
  rintro e W ⟨rfl, rfl⟩
  go_wp2_with fail
  go_ret
  exact ⟨rfl, HM.out⟩
theorem rcheck_any (x : En) (w : World) (hl : x.Ln) : Calls Tryd.prog 21 #[.agg x.cells.toArray] w fun e w' => e = .returned (.int .i64 x.chk) ∧ Mod [] w w' := by
  by_cases hk1 : x.kind = 1
  · cases qT : x.timeOk
    · have hc : x.chk = 63 := by unfold En.chk En.fine; rw [if_pos hk1, qT]; rfl
      rw [hc]; exact rchk_10 x w hl hk1 qT
    · cases qK : x.tokOk
      · have hc : x.chk = 63 := by unfold En.chk En.fine; rw [if_pos hk1, qT, qK]; rfl
        rw [hc]; exact rchk_11 x w hl hk1 qT qK
      · cases qA : (x.amt == [0, 0, 0, 0])
        · cases qG : x.gasOk
          · have hc : x.chk = 63 := by unfold En.chk En.fine; rw [if_pos hk1, qT, qK, qA, qG]; rfl
            rw [hc]; exact rchk_13 x w hl hk1 qT qK qA qG
          · cases qB : decide (x.body.d.length = 0)
            · have hc : x.chk = 63 := by unfold En.chk En.fine; rw [if_pos hk1, qT, qK, qA, qG, qB]; rfl
              rw [hc]; exact rchk_14 x w hl hk1 qT qK qA qG qB
            · have hc : x.chk = 0 := by unfold En.chk En.fine; rw [if_pos hk1, qT, qK, qA, qG, qB]; rfl
              rw [hc]; exact rchk_1ok x w hl hk1 qT qK qA qG qB
        · have hc : x.chk = 63 := by unfold En.chk En.fine; rw [if_pos hk1, qT, qK, qA]; rfl
          rw [hc]; exact rchk_12 x w hl hk1 qT qK qA
  · by_cases hk2 : x.kind = 2
    · cases qT : x.timeOk
      · have hc : x.chk = 63 := by unfold En.chk En.fine; rw [if_neg hk1, if_pos hk2, qT]; rfl
        rw [hc]; exact rchk_20 x w hl hk2 qT
      · cases qK : decide (x.tok = 0)
        · have hc : x.chk = 63 := by unfold En.chk En.fine; rw [if_neg hk1, if_pos hk2, qT, qK]; rfl
          rw [hc]; exact rchk_21 x w hl hk2 qT qK
        · cases qD : (x.to == zeros 20)
          · have hc : x.chk = 63 := by unfold En.chk En.fine; rw [if_neg hk1, if_pos hk2, qT, qK, qD]; rfl
            rw [hc]; exact rchk_22 x w hl hk2 qT qK qD
          · cases qA : (x.amt == [0, 0, 0, 0])
            · have hc : x.chk = 63 := by unfold En.chk En.fine; rw [if_neg hk1, if_pos hk2, qT, qK, qD, qA]; rfl
              rw [hc]; exact rchk_23 x w hl hk2 qT qK qD qA
            · cases qG : decide (x.gas = 0)
              · have hc : x.chk = 63 := by unfold En.chk En.fine; rw [if_neg hk1, if_pos hk2, qT, qK, qD, qA, qG]; rfl
                rw [hc]; exact rchk_24 x w hl hk2 qT qK qD qA qG
              · cases qB : decide (x.body.d.length ≤ 4096)
                · have hc : x.chk = 63 := by unfold En.chk En.fine; rw [if_neg hk1, if_pos hk2, qT, qK, qD, qA, qG, qB]; rfl
                  rw [hc]; exact rchk_25 x w hl hk2 qT qK qD qA qG qB
                · have hc : x.chk = 0 := by unfold En.chk En.fine; rw [if_neg hk1, if_pos hk2, qT, qK, qD, qA, qG, qB]; rfl
                  rw [hc]; exact rchk_2ok x w hl hk2 qT qK qD qA qG qB
    · have hc : x.chk = 63 := by simp [En.chk, En.fine, hk1, hk2]
      rw [hc]; exact rchk_0 x w hl hk1 hk2
end Go.Proofs.YtmdgefiojapogaaDoor
