/- Opaque values of Go's unsigned kinds, and what each operation makes of them; small facts on worlds. No condition. -/
import Derived.WalkKit
import Derived.WalkSpells
import Derived.WalkLawsBesides
import Derived.StillTailTactics
import Derived.Deep.MidRow
import Derived.Deep.WholeRow
import Derived.Deep.QuietTactic
import Derived.BigQuiet
import Derived.BigRegion
import Derived.Deep.RegionHeld3
import Derived.Lib.Hide
import Derived.Deep.DeepFit
import Derived.Laws.CopyOwn
namespace Go.Proofs.YtmdgefiojapogaaDoor
open Go.RowKit
/-! ## unsigned kinds as Lean's own -/
theorem wr8 (n : Int) : IntKind.u8.wrap n = n % 256 := by simp [IntKind.wrap, IntKind.bits, IntKind.signed]
theorem wr32 (n : Int) : IntKind.u32.wrap n = n % 4294967296 := by simp [IntKind.wrap, IntKind.bits, IntKind.signed]
theorem wr64 (n : Int) : IntKind.u64.wrap n = n % 18446744073709551616 := by simp [IntKind.wrap, IntKind.bits, IntKind.signed]
theorem wrI (n : Int) (h0 : -9223372036854775808 ≤ n) (h1 : n < 9223372036854775808) : IntKind.i64.wrap n = n := IntWalk.i64_in _ (by omega)
theorem u8_lt (x : UInt8) : x.toNat < 256 := x.toNat_lt
theorem ib_and8 (a b : UInt8) : Op.intBits .and .u8 (a.toNat : Int) (b.toNat : Int) = pure (.int .u8 ((a &&& b).toNat : Int)) := by
  rw [intBits_and, u8_and_nat a.toNat b.toNat (u8_lt a) (u8_lt b)]; rfl
theorem ib_or8 (a b : UInt8) : Op.intBits .or .u8 (a.toNat : Int) (b.toNat : Int) = pure (.int .u8 ((a ||| b).toNat : Int)) := by
  rw [intBits_or, u8_or_nat a.toNat b.toNat (u8_lt a) (u8_lt b)]; rfl
theorem ib_xor8 (a b : UInt8) : Op.intBits .xor .u8 (a.toNat : Int) (b.toNat : Int) = pure (.int .u8 ((a ^^^ b).toNat : Int)) := by
  rw [intBits_xor, u8_xor_nat a.toNat b.toNat (u8_lt a) (u8_lt b)]; rfl
theorem ib_andNot8 (a b : UInt8) : Op.intBits .andNot .u8 (a.toNat : Int) (b.toNat : Int) = pure (.int .u8 ((a &&& ~~~b).toNat : Int)) := by
  rw [intBits_andNot, u8_andNot_nat a.toNat b.toNat (u8_lt a) (u8_lt b)]
  refine congrArg (fun z : Nat => (pure (Value.int .u8 (z : Int)) : Sem Value)) ?_
  rw [UInt8.toNat_and, UInt8.toNat_not]; rfl
theorem ia_add8 (a b : UInt8) : Op.intArith .add .u8 (a.toNat : Int) (b.toNat : Int) = pure (.int .u8 ((a + b).toNat : Int)) := by
  refine congrArg (fun z => (pure (Value.int .u8 z) : Sem Value)) ?_; rw [UInt8.toNat_add, wr8]; rfl
theorem ia_sub8 (a b : UInt8) : Op.intArith .sub .u8 (a.toNat : Int) (b.toNat : Int) = pure (.int .u8 ((a - b).toNat : Int)) := by
  refine congrArg (fun z => (pure (Value.int .u8 z) : Sem Value)) ?_; rw [UInt8.toNat_sub, wr8]; have := u8_lt a; have := u8_lt b; omega
theorem ia_mul8 (a b : UInt8) : Op.intArith .mul .u8 (a.toNat : Int) (b.toNat : Int) = pure (.int .u8 ((a * b).toNat : Int)) := by
  refine congrArg (fun z => (pure (Value.int .u8 z) : Sem Value)) ?_; rw [UInt8.toNat_mul, wr8]; rfl
theorem sh_shl8 (a : UInt8) (yk : IntKind) (y : Int) (h0 : 0 ≤ y) (h1 : y < 8) : Op.shift .shl .u8 (a.toNat : Int) yk y = pure (.int .u8 ((a <<< UInt8.ofNat y.toNat).toNat : Int)) := by
  obtain ⟨n, rfl⟩ := Int.eq_ofNat_of_zero_le h0
  have hn : n < 8 := by omega
  rw [shift_shl_any _ _ _ _ h0]; refine congrArg (fun z => (pure (Value.int .u8 z) : Sem Value)) ?_
  rw [UInt8.toNat_shiftLeft, wr8, UInt8.toNat_ofNat', Int.toNat_natCast]
  have e1 : min n (IntKind.bits .u8) = n := by show min n 8 = n; omega
  have e2 : n % 2 ^ 8 % 8 = n := by rw [Nat.mod_eq_of_lt (show n < 2 ^ 8 by omega), Nat.mod_eq_of_lt hn]
  rw [e1, e2, Nat.shiftLeft_eq, Int.natCast_emod, Int.natCast_mul, Int.natCast_pow]; rfl
theorem sh_shr8 (a : UInt8) (yk : IntKind) (y : Int) (h0 : 0 ≤ y) (h1 : y < 8) : Op.shift .shr .u8 (a.toNat : Int) yk y = pure (.int .u8 ((a >>> UInt8.ofNat y.toNat).toNat : Int)) := by
  obtain ⟨n, rfl⟩ := Int.eq_ofNat_of_zero_le h0
  have hn : n < 8 := by omega
  rw [shift_shr_any _ _ _ _ h0]; refine congrArg (fun z => (pure (Value.int .u8 z) : Sem Value)) ?_
  rw [UInt8.toNat_shiftRight, UInt8.toNat_ofNat', Int.toNat_natCast]
  have e1 : min n (IntKind.bits .u8) = n := by show min n 8 = n; omega
  have e2 : n % 2 ^ 8 % 8 = n := by rw [Nat.mod_eq_of_lt (show n < 2 ^ 8 by omega), Nat.mod_eq_of_lt hn]
  rw [e1, e2, Nat.shiftRight_eq_div_pow, Int.natCast_ediv, Int.natCast_pow]; rfl
theorem un_xor8 (a : UInt8) : Op.unary .xor (.int .u8 (a.toNat : Int)) = pure (.int .u8 ((~~~a).toNat : Int)) := by
  have e : Op.unary .xor (.int .u8 (a.toNat : Int)) = Op.intBits .xor .u8 ((UInt8.ofNat 255).toNat : Int) (a.toNat : Int) := by rfl
  have e3 : UInt8.ofNat 255 ^^^ a = ~~~a := by
    apply UInt8.toBitVec_inj.1
    rw [UInt8.toBitVec_xor, UInt8.toBitVec_not]
    exact BitVec.allOnes_xor
  rw [e, ib_xor8, e3]
theorem u32_lt (x : UInt32) : x.toNat < 4294967296 := x.toNat_lt
theorem ib_and32 (a b : UInt32) : Op.intBits .and .u32 (a.toNat : Int) (b.toNat : Int) = pure (.int .u32 ((a &&& b).toNat : Int)) := by
  rw [intBits_and, u32_and_nat a.toNat b.toNat (u32_lt a) (u32_lt b)]; rfl
theorem ib_or32 (a b : UInt32) : Op.intBits .or .u32 (a.toNat : Int) (b.toNat : Int) = pure (.int .u32 ((a ||| b).toNat : Int)) := by
  rw [intBits_or, u32_or_nat a.toNat b.toNat (u32_lt a) (u32_lt b)]; rfl
theorem ib_xor32 (a b : UInt32) : Op.intBits .xor .u32 (a.toNat : Int) (b.toNat : Int) = pure (.int .u32 ((a ^^^ b).toNat : Int)) := by
  rw [intBits_xor, u32_xor_nat a.toNat b.toNat (u32_lt a) (u32_lt b)]; rfl
theorem ib_andNot32 (a b : UInt32) : Op.intBits .andNot .u32 (a.toNat : Int) (b.toNat : Int) = pure (.int .u32 ((a &&& ~~~b).toNat : Int)) := by
  rw [intBits_andNot, u32_andNot_nat a.toNat b.toNat (u32_lt a) (u32_lt b)]
  refine congrArg (fun z : Nat => (pure (Value.int .u32 (z : Int)) : Sem Value)) ?_
  rw [UInt32.toNat_and, UInt32.toNat_not]; rfl
theorem ia_add32 (a b : UInt32) : Op.intArith .add .u32 (a.toNat : Int) (b.toNat : Int) = pure (.int .u32 ((a + b).toNat : Int)) := by
  refine congrArg (fun z => (pure (Value.int .u32 z) : Sem Value)) ?_; rw [UInt32.toNat_add, wr32]; rfl
theorem ia_sub32 (a b : UInt32) : Op.intArith .sub .u32 (a.toNat : Int) (b.toNat : Int) = pure (.int .u32 ((a - b).toNat : Int)) := by
  refine congrArg (fun z => (pure (Value.int .u32 z) : Sem Value)) ?_; rw [UInt32.toNat_sub, wr32]; have := u32_lt a; have := u32_lt b; omega
theorem ia_mul32 (a b : UInt32) : Op.intArith .mul .u32 (a.toNat : Int) (b.toNat : Int) = pure (.int .u32 ((a * b).toNat : Int)) := by
  refine congrArg (fun z => (pure (Value.int .u32 z) : Sem Value)) ?_; rw [UInt32.toNat_mul, wr32]; rfl
theorem sh_shl32 (a : UInt32) (yk : IntKind) (y : Int) (h0 : 0 ≤ y) (h1 : y < 32) : Op.shift .shl .u32 (a.toNat : Int) yk y = pure (.int .u32 ((a <<< UInt32.ofNat y.toNat).toNat : Int)) := by
  obtain ⟨n, rfl⟩ := Int.eq_ofNat_of_zero_le h0
  have hn : n < 32 := by omega
  rw [shift_shl_any _ _ _ _ h0]; refine congrArg (fun z => (pure (Value.int .u32 z) : Sem Value)) ?_
  rw [UInt32.toNat_shiftLeft, wr32, UInt32.toNat_ofNat', Int.toNat_natCast]
  have e1 : min n (IntKind.bits .u32) = n := by show min n 32 = n; omega
  have e2 : n % 2 ^ 32 % 32 = n := by rw [Nat.mod_eq_of_lt (show n < 2 ^ 32 by omega), Nat.mod_eq_of_lt hn]
  rw [e1, e2, Nat.shiftLeft_eq, Int.natCast_emod, Int.natCast_mul, Int.natCast_pow]; rfl
theorem sh_shr32 (a : UInt32) (yk : IntKind) (y : Int) (h0 : 0 ≤ y) (h1 : y < 32) : Op.shift .shr .u32 (a.toNat : Int) yk y = pure (.int .u32 ((a >>> UInt32.ofNat y.toNat).toNat : Int)) := by
  obtain ⟨n, rfl⟩ := Int.eq_ofNat_of_zero_le h0
  have hn : n < 32 := by omega
  rw [shift_shr_any _ _ _ _ h0]; refine congrArg (fun z => (pure (Value.int .u32 z) : Sem Value)) ?_
  rw [UInt32.toNat_shiftRight, UInt32.toNat_ofNat', Int.toNat_natCast]
  have e1 : min n (IntKind.bits .u32) = n := by show min n 32 = n; omega
  have e2 : n % 2 ^ 32 % 32 = n := by rw [Nat.mod_eq_of_lt (show n < 2 ^ 32 by omega), Nat.mod_eq_of_lt hn]
  rw [e1, e2, Nat.shiftRight_eq_div_pow, Int.natCast_ediv, Int.natCast_pow]; rfl
theorem un_xor32 (a : UInt32) : Op.unary .xor (.int .u32 (a.toNat : Int)) = pure (.int .u32 ((~~~a).toNat : Int)) := by
  have e : Op.unary .xor (.int .u32 (a.toNat : Int)) = Op.intBits .xor .u32 ((UInt32.ofNat 4294967295).toNat : Int) (a.toNat : Int) := by rfl
  have e3 : UInt32.ofNat 4294967295 ^^^ a = ~~~a := by
    apply UInt32.toBitVec_inj.1
    rw [UInt32.toBitVec_xor, UInt32.toBitVec_not]
    exact BitVec.allOnes_xor
  rw [e, ib_xor32, e3]
theorem u64_lt (x : UInt64) : x.toNat < 18446744073709551616 := x.toNat_lt
theorem ib_and64 (a b : UInt64) : Op.intBits .and .u64 (a.toNat : Int) (b.toNat : Int) = pure (.int .u64 ((a &&& b).toNat : Int)) := by
  rw [intBits_and, u64_and_nat a.toNat b.toNat (u64_lt a) (u64_lt b)]; rfl
theorem ib_or64 (a b : UInt64) : Op.intBits .or .u64 (a.toNat : Int) (b.toNat : Int) = pure (.int .u64 ((a ||| b).toNat : Int)) := by
  rw [intBits_or, u64_or_nat a.toNat b.toNat (u64_lt a) (u64_lt b)]; rfl
theorem ib_xor64 (a b : UInt64) : Op.intBits .xor .u64 (a.toNat : Int) (b.toNat : Int) = pure (.int .u64 ((a ^^^ b).toNat : Int)) := by
  rw [intBits_xor, u64_xor_nat a.toNat b.toNat (u64_lt a) (u64_lt b)]; rfl
theorem ib_andNot64 (a b : UInt64) : Op.intBits .andNot .u64 (a.toNat : Int) (b.toNat : Int) = pure (.int .u64 ((a &&& ~~~b).toNat : Int)) := by
  rw [intBits_andNot, u64_andNot_nat a.toNat b.toNat (u64_lt a) (u64_lt b)]
  refine congrArg (fun z : Nat => (pure (Value.int .u64 (z : Int)) : Sem Value)) ?_
  rw [UInt64.toNat_and, UInt64.toNat_not]; rfl
theorem ia_add64 (a b : UInt64) : Op.intArith .add .u64 (a.toNat : Int) (b.toNat : Int) = pure (.int .u64 ((a + b).toNat : Int)) := by
  refine congrArg (fun z => (pure (Value.int .u64 z) : Sem Value)) ?_; rw [UInt64.toNat_add, wr64]; rfl
theorem ia_sub64 (a b : UInt64) : Op.intArith .sub .u64 (a.toNat : Int) (b.toNat : Int) = pure (.int .u64 ((a - b).toNat : Int)) := by
  refine congrArg (fun z => (pure (Value.int .u64 z) : Sem Value)) ?_; rw [UInt64.toNat_sub, wr64]; have := u64_lt a; have := u64_lt b; omega
theorem ia_mul64 (a b : UInt64) : Op.intArith .mul .u64 (a.toNat : Int) (b.toNat : Int) = pure (.int .u64 ((a * b).toNat : Int)) := by
  refine congrArg (fun z => (pure (Value.int .u64 z) : Sem Value)) ?_; rw [UInt64.toNat_mul, wr64]; rfl
theorem sh_shl64 (a : UInt64) (yk : IntKind) (y : Int) (h0 : 0 ≤ y) (h1 : y < 64) : Op.shift .shl .u64 (a.toNat : Int) yk y = pure (.int .u64 ((a <<< UInt64.ofNat y.toNat).toNat : Int)) := by
  obtain ⟨n, rfl⟩ := Int.eq_ofNat_of_zero_le h0
  have hn : n < 64 := by omega
  rw [shift_shl_any _ _ _ _ h0]; refine congrArg (fun z => (pure (Value.int .u64 z) : Sem Value)) ?_
  rw [UInt64.toNat_shiftLeft, wr64, UInt64.toNat_ofNat', Int.toNat_natCast]
  have e1 : min n (IntKind.bits .u64) = n := by show min n 64 = n; omega
  have e2 : n % 2 ^ 64 % 64 = n := by rw [Nat.mod_eq_of_lt (show n < 2 ^ 64 by omega), Nat.mod_eq_of_lt hn]
  rw [e1, e2, Nat.shiftLeft_eq, Int.natCast_emod, Int.natCast_mul, Int.natCast_pow]; rfl
theorem sh_shr64 (a : UInt64) (yk : IntKind) (y : Int) (h0 : 0 ≤ y) (h1 : y < 64) : Op.shift .shr .u64 (a.toNat : Int) yk y = pure (.int .u64 ((a >>> UInt64.ofNat y.toNat).toNat : Int)) := by
  obtain ⟨n, rfl⟩ := Int.eq_ofNat_of_zero_le h0
  have hn : n < 64 := by omega
  rw [shift_shr_any _ _ _ _ h0]; refine congrArg (fun z => (pure (Value.int .u64 z) : Sem Value)) ?_
  rw [UInt64.toNat_shiftRight, UInt64.toNat_ofNat', Int.toNat_natCast]
  have e1 : min n (IntKind.bits .u64) = n := by show min n 64 = n; omega
  have e2 : n % 2 ^ 64 % 64 = n := by rw [Nat.mod_eq_of_lt (show n < 2 ^ 64 by omega), Nat.mod_eq_of_lt hn]
  rw [e1, e2, Nat.shiftRight_eq_div_pow, Int.natCast_ediv, Int.natCast_pow]; rfl
theorem un_xor64 (a : UInt64) : Op.unary .xor (.int .u64 (a.toNat : Int)) = pure (.int .u64 ((~~~a).toNat : Int)) := by
  have e : Op.unary .xor (.int .u64 (a.toNat : Int)) = Op.intBits .xor .u64 ((UInt64.ofNat 18446744073709551615).toNat : Int) (a.toNat : Int) := by rfl
  have e3 : UInt64.ofNat 18446744073709551615 ^^^ a = ~~~a := by
    apply UInt64.toBitVec_inj.1
    rw [UInt64.toBitVec_xor, UInt64.toBitVec_not]
    exact BitVec.allOnes_xor
  rw [e, ib_xor64, e3]
theorem cv_u8_u32 (a : UInt8) : Conv.intToInt .u32 (a.toNat : Int) = pure (.int .u32 ((a.toUInt32).toNat : Int)) := by
  refine congrArg (fun z => (pure (Value.int .u32 z) : Sem Value)) ?_; rw [wr32]; have := u8_lt a; simp; try omega
theorem cv_u8_u64 (a : UInt8) : Conv.intToInt .u64 (a.toNat : Int) = pure (.int .u64 ((a.toUInt64).toNat : Int)) := by
  refine congrArg (fun z => (pure (Value.int .u64 z) : Sem Value)) ?_; rw [wr64]; have := u8_lt a; simp; try omega
theorem cv_i_u8 (n : Int) (h0 : 0 ≤ n) : Conv.intToInt .u8 n = pure (.int .u8 ((UInt8.ofNat n.toNat).toNat : Int)) := by
  refine congrArg (fun z => (pure (Value.int .u8 z) : Sem Value)) ?_; rw [wr8, UInt8.toNat_ofNat']; omega
theorem cv_u32_u8 (a : UInt32) : Conv.intToInt .u8 (a.toNat : Int) = pure (.int .u8 ((a.toUInt8).toNat : Int)) := by
  refine congrArg (fun z => (pure (Value.int .u8 z) : Sem Value)) ?_; rw [wr8]; have := u32_lt a; simp; try omega
theorem cv_u32_u64 (a : UInt32) : Conv.intToInt .u64 (a.toNat : Int) = pure (.int .u64 ((a.toUInt64).toNat : Int)) := by
  refine congrArg (fun z => (pure (Value.int .u64 z) : Sem Value)) ?_; rw [wr64]; have := u32_lt a; simp; try omega
theorem cv_i_u32 (n : Int) (h0 : 0 ≤ n) : Conv.intToInt .u32 n = pure (.int .u32 ((UInt32.ofNat n.toNat).toNat : Int)) := by
  refine congrArg (fun z => (pure (Value.int .u32 z) : Sem Value)) ?_; rw [wr32, UInt32.toNat_ofNat']; omega
theorem cv_u64_u8 (a : UInt64) : Conv.intToInt .u8 (a.toNat : Int) = pure (.int .u8 ((a.toUInt8).toNat : Int)) := by
  refine congrArg (fun z => (pure (Value.int .u8 z) : Sem Value)) ?_; rw [wr8]; have := u64_lt a; simp; try omega
theorem cv_u64_u32 (a : UInt64) : Conv.intToInt .u32 (a.toNat : Int) = pure (.int .u32 ((a.toUInt32).toNat : Int)) := by
  refine congrArg (fun z => (pure (Value.int .u32 z) : Sem Value)) ?_; rw [wr32]; have := u64_lt a; simp; try omega
theorem cv_i_u64 (n : Int) (h0 : 0 ≤ n) : Conv.intToInt .u64 n = pure (.int .u64 ((UInt64.ofNat n.toNat).toNat : Int)) := by
  refine congrArg (fun z => (pure (Value.int .u64 z) : Sem Value)) ?_; rw [wr64, UInt64.toNat_ofNat']; omega
theorem cv_u8_i (a : UInt8) : Conv.intToInt .i64 (a.toNat : Int) = pure (.int .i64 (a.toNat : Int)) := by
  refine congrArg (fun z => (pure (Value.int .i64 z) : Sem Value)) ?_; have := u8_lt a; exact wrI _ (by omega) (by omega)
theorem cv_u32_i (a : UInt32) : Conv.intToInt .i64 (a.toNat : Int) = pure (.int .i64 (a.toNat : Int)) := by
  refine congrArg (fun z => (pure (Value.int .i64 z) : Sem Value)) ?_; have := u32_lt a; exact wrI _ (by omega) (by omega)
/-! ## opaque values of the unsigned kinds: the walk's simp does not look behind these names -/
def V8 (x : UInt8) : Value := .int .u8 (x.toNat : Int)
def V32 (x : UInt32) : Value := .int .u32 (x.toNat : Int)
def V64 (x : UInt64) : Value := .int .u64 (x.toNat : Int)
theorem lit8 (n : Int) (h0 : 0 ≤ n) (h1 : n < 256) : Value.int .u8 n = V8 (UInt8.ofNat n.toNat) := by
  unfold V8; rw [UInt8.toNat_ofNat']; congr 1; omega
theorem one8 (x : UInt8) : (V8 x).oneCell' = true := rfl
@[simp] theorem V8_inj (a b : UInt8) : V8 a = V8 b ↔ a = b := by
  unfold V8; constructor
  · intro h; injection h with _ h; exact UInt8.toNat_inj.1 (by omega)
  · rintro rfl; rfl
theorem st8 (P : Program) (w : World) (a : Addr) (m : Mode) (x : UInt8) : (store a (V8 x) m).run P w = stored P w a (V8 x) m := run_store P w a _ m rfl
theorem ce8 (x : UInt8) : (V8 x).cells = #[V8 x] := rfl
theorem cm8 (x : UInt8) : Value.cells.match_1 (fun _ => Array Value) (V8 x) (fun cs => cs) (fun v => #[v]) = #[V8 x] := rfl
theorem b_and8 (t : TypeId) (a b : UInt8) : binOp .and t (V8 a) (V8 b) = pure (V8 (a &&& b)) := ib_and8 a b
theorem b_and8r (t : TypeId) (a : UInt8) (n : Int) (h0 : 0 ≤ n) (h1 : n < 256) : binOp .and t (V8 a) (.int .u8 n) = pure (V8 (a &&& (UInt8.ofNat n.toNat))) := by rw [lit8 n h0 h1]; exact b_and8 t _ _
theorem b_and8l (t : TypeId) (n : Int) (b : UInt8) (h0 : 0 ≤ n) (h1 : n < 256) : binOp .and t (.int .u8 n) (V8 b) = pure (V8 ((UInt8.ofNat n.toNat) &&& b)) := by rw [lit8 n h0 h1]; exact b_and8 t _ _
theorem b_or8 (t : TypeId) (a b : UInt8) : binOp .or t (V8 a) (V8 b) = pure (V8 (a ||| b)) := ib_or8 a b
theorem b_or8r (t : TypeId) (a : UInt8) (n : Int) (h0 : 0 ≤ n) (h1 : n < 256) : binOp .or t (V8 a) (.int .u8 n) = pure (V8 (a ||| (UInt8.ofNat n.toNat))) := by rw [lit8 n h0 h1]; exact b_or8 t _ _
theorem b_or8l (t : TypeId) (n : Int) (b : UInt8) (h0 : 0 ≤ n) (h1 : n < 256) : binOp .or t (.int .u8 n) (V8 b) = pure (V8 ((UInt8.ofNat n.toNat) ||| b)) := by rw [lit8 n h0 h1]; exact b_or8 t _ _
theorem b_xor8 (t : TypeId) (a b : UInt8) : binOp .xor t (V8 a) (V8 b) = pure (V8 (a ^^^ b)) := ib_xor8 a b
theorem b_xor8r (t : TypeId) (a : UInt8) (n : Int) (h0 : 0 ≤ n) (h1 : n < 256) : binOp .xor t (V8 a) (.int .u8 n) = pure (V8 (a ^^^ (UInt8.ofNat n.toNat))) := by rw [lit8 n h0 h1]; exact b_xor8 t _ _
theorem b_xor8l (t : TypeId) (n : Int) (b : UInt8) (h0 : 0 ≤ n) (h1 : n < 256) : binOp .xor t (.int .u8 n) (V8 b) = pure (V8 ((UInt8.ofNat n.toNat) ^^^ b)) := by rw [lit8 n h0 h1]; exact b_xor8 t _ _
theorem b_andNot8 (t : TypeId) (a b : UInt8) : binOp .andNot t (V8 a) (V8 b) = pure (V8 (a &&& ~~~b)) := ib_andNot8 a b
theorem b_andNot8r (t : TypeId) (a : UInt8) (n : Int) (h0 : 0 ≤ n) (h1 : n < 256) : binOp .andNot t (V8 a) (.int .u8 n) = pure (V8 (a &&& ~~~(UInt8.ofNat n.toNat))) := by rw [lit8 n h0 h1]; exact b_andNot8 t _ _
theorem b_andNot8l (t : TypeId) (n : Int) (b : UInt8) (h0 : 0 ≤ n) (h1 : n < 256) : binOp .andNot t (.int .u8 n) (V8 b) = pure (V8 ((UInt8.ofNat n.toNat) &&& ~~~b)) := by rw [lit8 n h0 h1]; exact b_andNot8 t _ _
theorem b_add8 (t : TypeId) (a b : UInt8) : binOp .add t (V8 a) (V8 b) = pure (V8 (a + b)) := ia_add8 a b
theorem b_add8r (t : TypeId) (a : UInt8) (n : Int) (h0 : 0 ≤ n) (h1 : n < 256) : binOp .add t (V8 a) (.int .u8 n) = pure (V8 (a + (UInt8.ofNat n.toNat))) := by rw [lit8 n h0 h1]; exact b_add8 t _ _
theorem b_add8l (t : TypeId) (n : Int) (b : UInt8) (h0 : 0 ≤ n) (h1 : n < 256) : binOp .add t (.int .u8 n) (V8 b) = pure (V8 ((UInt8.ofNat n.toNat) + b)) := by rw [lit8 n h0 h1]; exact b_add8 t _ _
theorem b_sub8 (t : TypeId) (a b : UInt8) : binOp .sub t (V8 a) (V8 b) = pure (V8 (a - b)) := ia_sub8 a b
theorem b_sub8r (t : TypeId) (a : UInt8) (n : Int) (h0 : 0 ≤ n) (h1 : n < 256) : binOp .sub t (V8 a) (.int .u8 n) = pure (V8 (a - (UInt8.ofNat n.toNat))) := by rw [lit8 n h0 h1]; exact b_sub8 t _ _
theorem b_sub8l (t : TypeId) (n : Int) (b : UInt8) (h0 : 0 ≤ n) (h1 : n < 256) : binOp .sub t (.int .u8 n) (V8 b) = pure (V8 ((UInt8.ofNat n.toNat) - b)) := by rw [lit8 n h0 h1]; exact b_sub8 t _ _
theorem b_mul8 (t : TypeId) (a b : UInt8) : binOp .mul t (V8 a) (V8 b) = pure (V8 (a * b)) := ia_mul8 a b
theorem b_mul8r (t : TypeId) (a : UInt8) (n : Int) (h0 : 0 ≤ n) (h1 : n < 256) : binOp .mul t (V8 a) (.int .u8 n) = pure (V8 (a * (UInt8.ofNat n.toNat))) := by rw [lit8 n h0 h1]; exact b_mul8 t _ _
theorem b_mul8l (t : TypeId) (n : Int) (b : UInt8) (h0 : 0 ≤ n) (h1 : n < 256) : binOp .mul t (.int .u8 n) (V8 b) = pure (V8 ((UInt8.ofNat n.toNat) * b)) := by rw [lit8 n h0 h1]; exact b_mul8 t _ _
theorem b_eql8 (t : TypeId) (a b : UInt8) : binOp .eql t (V8 a) (V8 b) = pure (.bool (a == b)) := by
  show (pure (.bool ((a.toNat : Int) == (b.toNat : Int))) : Sem Value) = _
  refine congrArg (fun z => (pure (Value.bool z) : Sem Value)) ?_
  rw [Bool.eq_iff_iff]; simp only [beq_iff_eq]; exact ⟨fun h => UInt8.toNat_inj.1 (by omega), fun h => by rw [h]⟩
theorem b_eql8r (t : TypeId) (a : UInt8) (n : Int) (h0 : 0 ≤ n) (h1 : n < 256) : binOp .eql t (V8 a) (.int .u8 n) = pure (.bool (a == (UInt8.ofNat n.toNat))) := by rw [lit8 n h0 h1]; exact b_eql8 t _ _
theorem b_eql8l (t : TypeId) (n : Int) (b : UInt8) (h0 : 0 ≤ n) (h1 : n < 256) : binOp .eql t (.int .u8 n) (V8 b) = pure (.bool ((UInt8.ofNat n.toNat) == b)) := by rw [lit8 n h0 h1]; exact b_eql8 t _ _
theorem b_neq8 (t : TypeId) (a b : UInt8) : binOp .neq t (V8 a) (V8 b) = pure (.bool (a != b)) := by
  show (pure (.bool ((a.toNat : Int) != (b.toNat : Int))) : Sem Value) = _
  refine congrArg (fun z => (pure (Value.bool z) : Sem Value)) ?_
  rw [Bool.eq_iff_iff]; simp only [bne_iff_ne, ne_eq]; exact ⟨fun h e => h (by rw [e]), fun h e => h (UInt8.toNat_inj.1 (by omega))⟩
theorem b_neq8r (t : TypeId) (a : UInt8) (n : Int) (h0 : 0 ≤ n) (h1 : n < 256) : binOp .neq t (V8 a) (.int .u8 n) = pure (.bool (a != (UInt8.ofNat n.toNat))) := by rw [lit8 n h0 h1]; exact b_neq8 t _ _
theorem b_neq8l (t : TypeId) (n : Int) (b : UInt8) (h0 : 0 ≤ n) (h1 : n < 256) : binOp .neq t (.int .u8 n) (V8 b) = pure (.bool ((UInt8.ofNat n.toNat) != b)) := by rw [lit8 n h0 h1]; exact b_neq8 t _ _
theorem b_lss8 (t : TypeId) (a b : UInt8) : binOp .lss t (V8 a) (V8 b) = pure (.bool (decide (a < b))) := by
  show (pure (.bool (decide ((a.toNat : Int) < (b.toNat : Int)))) : Sem Value) = _
  refine congrArg (fun z => (pure (Value.bool z) : Sem Value)) ?_
  rw [Bool.eq_iff_iff]; simp [UInt8.lt_iff_toNat_lt, UInt8.le_iff_toNat_le]
theorem b_lss8r (t : TypeId) (a : UInt8) (n : Int) (h0 : 0 ≤ n) (h1 : n < 256) : binOp .lss t (V8 a) (.int .u8 n) = pure (.bool (decide (a < (UInt8.ofNat n.toNat)))) := by rw [lit8 n h0 h1]; exact b_lss8 t _ _
theorem b_lss8l (t : TypeId) (n : Int) (b : UInt8) (h0 : 0 ≤ n) (h1 : n < 256) : binOp .lss t (.int .u8 n) (V8 b) = pure (.bool (decide ((UInt8.ofNat n.toNat) < b))) := by rw [lit8 n h0 h1]; exact b_lss8 t _ _
theorem b_leq8 (t : TypeId) (a b : UInt8) : binOp .leq t (V8 a) (V8 b) = pure (.bool (decide (a ≤ b))) := by
  show (pure (.bool (decide ((a.toNat : Int) ≤ (b.toNat : Int)))) : Sem Value) = _
  refine congrArg (fun z => (pure (Value.bool z) : Sem Value)) ?_
  rw [Bool.eq_iff_iff]; simp [UInt8.lt_iff_toNat_lt, UInt8.le_iff_toNat_le]
theorem b_leq8r (t : TypeId) (a : UInt8) (n : Int) (h0 : 0 ≤ n) (h1 : n < 256) : binOp .leq t (V8 a) (.int .u8 n) = pure (.bool (decide (a ≤ (UInt8.ofNat n.toNat)))) := by rw [lit8 n h0 h1]; exact b_leq8 t _ _
theorem b_leq8l (t : TypeId) (n : Int) (b : UInt8) (h0 : 0 ≤ n) (h1 : n < 256) : binOp .leq t (.int .u8 n) (V8 b) = pure (.bool (decide ((UInt8.ofNat n.toNat) ≤ b))) := by rw [lit8 n h0 h1]; exact b_leq8 t _ _
theorem b_gtr8 (t : TypeId) (a b : UInt8) : binOp .gtr t (V8 a) (V8 b) = pure (.bool (decide (b < a))) := by
  show (pure (.bool (decide ((a.toNat : Int) > (b.toNat : Int)))) : Sem Value) = _
  refine congrArg (fun z => (pure (Value.bool z) : Sem Value)) ?_
  rw [Bool.eq_iff_iff]; simp [UInt8.lt_iff_toNat_lt, UInt8.le_iff_toNat_le]
theorem b_gtr8r (t : TypeId) (a : UInt8) (n : Int) (h0 : 0 ≤ n) (h1 : n < 256) : binOp .gtr t (V8 a) (.int .u8 n) = pure (.bool (decide ((UInt8.ofNat n.toNat) < a))) := by rw [lit8 n h0 h1]; exact b_gtr8 t _ _
theorem b_gtr8l (t : TypeId) (n : Int) (b : UInt8) (h0 : 0 ≤ n) (h1 : n < 256) : binOp .gtr t (.int .u8 n) (V8 b) = pure (.bool (decide (b < (UInt8.ofNat n.toNat)))) := by rw [lit8 n h0 h1]; exact b_gtr8 t _ _
theorem b_geq8 (t : TypeId) (a b : UInt8) : binOp .geq t (V8 a) (V8 b) = pure (.bool (decide (b ≤ a))) := by
  show (pure (.bool (decide ((a.toNat : Int) ≥ (b.toNat : Int)))) : Sem Value) = _
  refine congrArg (fun z => (pure (Value.bool z) : Sem Value)) ?_
  rw [Bool.eq_iff_iff]; simp [UInt8.lt_iff_toNat_lt, UInt8.le_iff_toNat_le]
theorem b_geq8r (t : TypeId) (a : UInt8) (n : Int) (h0 : 0 ≤ n) (h1 : n < 256) : binOp .geq t (V8 a) (.int .u8 n) = pure (.bool (decide ((UInt8.ofNat n.toNat) ≤ a))) := by rw [lit8 n h0 h1]; exact b_geq8 t _ _
theorem b_geq8l (t : TypeId) (n : Int) (b : UInt8) (h0 : 0 ≤ n) (h1 : n < 256) : binOp .geq t (.int .u8 n) (V8 b) = pure (.bool (decide (b ≤ (UInt8.ofNat n.toNat)))) := by rw [lit8 n h0 h1]; exact b_geq8 t _ _
theorem b_quo8r (t : TypeId) (a : UInt8) (n : Int) (h0 : 0 < n) (h1 : n < 256) : binOp .quo t (V8 a) (.int .u8 n) = pure (V8 (a / UInt8.ofNat n.toNat)) := by
  obtain ⟨m, rfl⟩ := Int.eq_ofNat_of_zero_le (show 0 ≤ n by omega)
  show Op.intDiv .quo .u8 (a.toNat : Int) (m : Int) = _
  unfold Op.intDiv
  rw [if_neg (by omega)]
  refine congrArg (fun z => (pure (Value.int .u8 z) : Sem Value)) ?_
  rw [wr8, UInt8.toNat_div, UInt8.toNat_ofNat', Int.toNat_natCast, Nat.mod_eq_of_lt (show m < 2 ^ 8 by omega)]
  have h2 := u8_lt a
  have h3 : a.toNat / m ≤ a.toNat := Nat.div_le_self _ _
  rw [Int.tdiv_eq_ediv_of_nonneg (by omega), ← Int.natCast_ediv]
  generalize a.toNat / m = q at *
  omega
theorem b_rem8r (t : TypeId) (a : UInt8) (n : Int) (h0 : 0 < n) (h1 : n < 256) : binOp .rem t (V8 a) (.int .u8 n) = pure (V8 (a % UInt8.ofNat n.toNat)) := by
  obtain ⟨m, rfl⟩ := Int.eq_ofNat_of_zero_le (show 0 ≤ n by omega)
  show Op.intDiv .rem .u8 (a.toNat : Int) (m : Int) = _
  unfold Op.intDiv
  rw [if_neg (by omega)]
  refine congrArg (fun z => (pure (Value.int .u8 z) : Sem Value)) ?_
  rw [UInt8.toNat_mod, UInt8.toNat_ofNat', Int.toNat_natCast, Nat.mod_eq_of_lt (show m < 2 ^ 8 by omega), Int.tmod_eq_emod_of_nonneg (by omega), ← Int.natCast_emod]
theorem b_shl8r (t : TypeId) (a : UInt8) (yk : IntKind) (y : Int) (h0 : 0 ≤ y) (h1 : y < 8) : binOp .shl t (V8 a) (.int yk y) = pure (V8 (a <<< UInt8.ofNat y.toNat)) := sh_shl8 a yk y h0 h1
theorem b_shr8r (t : TypeId) (a : UInt8) (yk : IntKind) (y : Int) (h0 : 0 ≤ y) (h1 : y < 8) : binOp .shr t (V8 a) (.int yk y) = pure (V8 (a >>> UInt8.ofNat y.toNat)) := sh_shr8 a yk y h0 h1
theorem b_shl8l (t : TypeId) (n : Int) (yk : IntKind) (y : Int) (hn0 : 0 ≤ n) (hn1 : n < 256) (h0 : 0 ≤ y) (h1 : y < 8) : binOp .shl t (.int .u8 n) (.int yk y) = pure (V8 (UInt8.ofNat n.toNat <<< UInt8.ofNat y.toNat)) := by rw [lit8 n hn0 hn1]; exact b_shl8r t _ yk y h0 h1
theorem b_shr8l (t : TypeId) (n : Int) (yk : IntKind) (y : Int) (hn0 : 0 ≤ n) (hn1 : n < 256) (h0 : 0 ≤ y) (h1 : y < 8) : binOp .shr t (.int .u8 n) (.int yk y) = pure (V8 (UInt8.ofNat n.toNat >>> UInt8.ofNat y.toNat)) := by rw [lit8 n hn0 hn1]; exact b_shr8r t _ yk y h0 h1
theorem u_xor8 (a : UInt8) : Op.unary .xor (V8 a) = pure (V8 (~~~a)) := un_xor8 a
theorem g_eql8 (t : TypeId) (x y : Operand) (a : UInt8) (v : Value) : eqGuard .eql t x y (V8 a) v = pure () := by cases v <;> rfl
theorem g_neq8 (t : TypeId) (x y : Operand) (a : UInt8) (v : Value) : eqGuard .neq t x y (V8 a) v = pure () := by cases v <;> rfl
theorem g_eql8' (t : TypeId) (x y : Operand) (a : UInt8) (v : Value) : eqGuard .eql t x y v (V8 a) = pure () := by cases v <;> rfl
theorem g_neq8' (t : TypeId) (x y : Operand) (a : UInt8) (v : Value) : eqGuard .neq t x y v (V8 a) = pure () := by cases v <;> rfl
theorem lit32 (n : Int) (h0 : 0 ≤ n) (h1 : n < 4294967296) : Value.int .u32 n = V32 (UInt32.ofNat n.toNat) := by
  unfold V32; rw [UInt32.toNat_ofNat']; congr 1; omega
theorem one32 (x : UInt32) : (V32 x).oneCell' = true := rfl
@[simp] theorem V32_inj (a b : UInt32) : V32 a = V32 b ↔ a = b := by
  unfold V32; constructor
  · intro h; injection h with _ h; exact UInt32.toNat_inj.1 (by omega)
  · rintro rfl; rfl
theorem st32 (P : Program) (w : World) (a : Addr) (m : Mode) (x : UInt32) : (store a (V32 x) m).run P w = stored P w a (V32 x) m := run_store P w a _ m rfl
theorem ce32 (x : UInt32) : (V32 x).cells = #[V32 x] := rfl
theorem cm32 (x : UInt32) : Value.cells.match_1 (fun _ => Array Value) (V32 x) (fun cs => cs) (fun v => #[v]) = #[V32 x] := rfl
theorem b_and32 (t : TypeId) (a b : UInt32) : binOp .and t (V32 a) (V32 b) = pure (V32 (a &&& b)) := ib_and32 a b
theorem b_and32r (t : TypeId) (a : UInt32) (n : Int) (h0 : 0 ≤ n) (h1 : n < 4294967296) : binOp .and t (V32 a) (.int .u32 n) = pure (V32 (a &&& (UInt32.ofNat n.toNat))) := by rw [lit32 n h0 h1]; exact b_and32 t _ _
theorem b_and32l (t : TypeId) (n : Int) (b : UInt32) (h0 : 0 ≤ n) (h1 : n < 4294967296) : binOp .and t (.int .u32 n) (V32 b) = pure (V32 ((UInt32.ofNat n.toNat) &&& b)) := by rw [lit32 n h0 h1]; exact b_and32 t _ _
theorem b_or32 (t : TypeId) (a b : UInt32) : binOp .or t (V32 a) (V32 b) = pure (V32 (a ||| b)) := ib_or32 a b
theorem b_or32r (t : TypeId) (a : UInt32) (n : Int) (h0 : 0 ≤ n) (h1 : n < 4294967296) : binOp .or t (V32 a) (.int .u32 n) = pure (V32 (a ||| (UInt32.ofNat n.toNat))) := by rw [lit32 n h0 h1]; exact b_or32 t _ _
theorem b_or32l (t : TypeId) (n : Int) (b : UInt32) (h0 : 0 ≤ n) (h1 : n < 4294967296) : binOp .or t (.int .u32 n) (V32 b) = pure (V32 ((UInt32.ofNat n.toNat) ||| b)) := by rw [lit32 n h0 h1]; exact b_or32 t _ _
theorem b_xor32 (t : TypeId) (a b : UInt32) : binOp .xor t (V32 a) (V32 b) = pure (V32 (a ^^^ b)) := ib_xor32 a b
theorem b_xor32r (t : TypeId) (a : UInt32) (n : Int) (h0 : 0 ≤ n) (h1 : n < 4294967296) : binOp .xor t (V32 a) (.int .u32 n) = pure (V32 (a ^^^ (UInt32.ofNat n.toNat))) := by rw [lit32 n h0 h1]; exact b_xor32 t _ _
theorem b_xor32l (t : TypeId) (n : Int) (b : UInt32) (h0 : 0 ≤ n) (h1 : n < 4294967296) : binOp .xor t (.int .u32 n) (V32 b) = pure (V32 ((UInt32.ofNat n.toNat) ^^^ b)) := by rw [lit32 n h0 h1]; exact b_xor32 t _ _
theorem b_andNot32 (t : TypeId) (a b : UInt32) : binOp .andNot t (V32 a) (V32 b) = pure (V32 (a &&& ~~~b)) := ib_andNot32 a b
theorem b_andNot32r (t : TypeId) (a : UInt32) (n : Int) (h0 : 0 ≤ n) (h1 : n < 4294967296) : binOp .andNot t (V32 a) (.int .u32 n) = pure (V32 (a &&& ~~~(UInt32.ofNat n.toNat))) := by rw [lit32 n h0 h1]; exact b_andNot32 t _ _
theorem b_andNot32l (t : TypeId) (n : Int) (b : UInt32) (h0 : 0 ≤ n) (h1 : n < 4294967296) : binOp .andNot t (.int .u32 n) (V32 b) = pure (V32 ((UInt32.ofNat n.toNat) &&& ~~~b)) := by rw [lit32 n h0 h1]; exact b_andNot32 t _ _
theorem b_add32 (t : TypeId) (a b : UInt32) : binOp .add t (V32 a) (V32 b) = pure (V32 (a + b)) := ia_add32 a b
theorem b_add32r (t : TypeId) (a : UInt32) (n : Int) (h0 : 0 ≤ n) (h1 : n < 4294967296) : binOp .add t (V32 a) (.int .u32 n) = pure (V32 (a + (UInt32.ofNat n.toNat))) := by rw [lit32 n h0 h1]; exact b_add32 t _ _
theorem b_add32l (t : TypeId) (n : Int) (b : UInt32) (h0 : 0 ≤ n) (h1 : n < 4294967296) : binOp .add t (.int .u32 n) (V32 b) = pure (V32 ((UInt32.ofNat n.toNat) + b)) := by rw [lit32 n h0 h1]; exact b_add32 t _ _
theorem b_sub32 (t : TypeId) (a b : UInt32) : binOp .sub t (V32 a) (V32 b) = pure (V32 (a - b)) := ia_sub32 a b
theorem b_sub32r (t : TypeId) (a : UInt32) (n : Int) (h0 : 0 ≤ n) (h1 : n < 4294967296) : binOp .sub t (V32 a) (.int .u32 n) = pure (V32 (a - (UInt32.ofNat n.toNat))) := by rw [lit32 n h0 h1]; exact b_sub32 t _ _
theorem b_sub32l (t : TypeId) (n : Int) (b : UInt32) (h0 : 0 ≤ n) (h1 : n < 4294967296) : binOp .sub t (.int .u32 n) (V32 b) = pure (V32 ((UInt32.ofNat n.toNat) - b)) := by rw [lit32 n h0 h1]; exact b_sub32 t _ _
theorem b_mul32 (t : TypeId) (a b : UInt32) : binOp .mul t (V32 a) (V32 b) = pure (V32 (a * b)) := ia_mul32 a b
theorem b_mul32r (t : TypeId) (a : UInt32) (n : Int) (h0 : 0 ≤ n) (h1 : n < 4294967296) : binOp .mul t (V32 a) (.int .u32 n) = pure (V32 (a * (UInt32.ofNat n.toNat))) := by rw [lit32 n h0 h1]; exact b_mul32 t _ _
theorem b_mul32l (t : TypeId) (n : Int) (b : UInt32) (h0 : 0 ≤ n) (h1 : n < 4294967296) : binOp .mul t (.int .u32 n) (V32 b) = pure (V32 ((UInt32.ofNat n.toNat) * b)) := by rw [lit32 n h0 h1]; exact b_mul32 t _ _
theorem b_eql32 (t : TypeId) (a b : UInt32) : binOp .eql t (V32 a) (V32 b) = pure (.bool (a == b)) := by
  show (pure (.bool ((a.toNat : Int) == (b.toNat : Int))) : Sem Value) = _
  refine congrArg (fun z => (pure (Value.bool z) : Sem Value)) ?_
  rw [Bool.eq_iff_iff]; simp only [beq_iff_eq]; exact ⟨fun h => UInt32.toNat_inj.1 (by omega), fun h => by rw [h]⟩
theorem b_eql32r (t : TypeId) (a : UInt32) (n : Int) (h0 : 0 ≤ n) (h1 : n < 4294967296) : binOp .eql t (V32 a) (.int .u32 n) = pure (.bool (a == (UInt32.ofNat n.toNat))) := by rw [lit32 n h0 h1]; exact b_eql32 t _ _
theorem b_eql32l (t : TypeId) (n : Int) (b : UInt32) (h0 : 0 ≤ n) (h1 : n < 4294967296) : binOp .eql t (.int .u32 n) (V32 b) = pure (.bool ((UInt32.ofNat n.toNat) == b)) := by rw [lit32 n h0 h1]; exact b_eql32 t _ _
theorem b_neq32 (t : TypeId) (a b : UInt32) : binOp .neq t (V32 a) (V32 b) = pure (.bool (a != b)) := by
  show (pure (.bool ((a.toNat : Int) != (b.toNat : Int))) : Sem Value) = _
  refine congrArg (fun z => (pure (Value.bool z) : Sem Value)) ?_
  rw [Bool.eq_iff_iff]; simp only [bne_iff_ne, ne_eq]; exact ⟨fun h e => h (by rw [e]), fun h e => h (UInt32.toNat_inj.1 (by omega))⟩
theorem b_neq32r (t : TypeId) (a : UInt32) (n : Int) (h0 : 0 ≤ n) (h1 : n < 4294967296) : binOp .neq t (V32 a) (.int .u32 n) = pure (.bool (a != (UInt32.ofNat n.toNat))) := by rw [lit32 n h0 h1]; exact b_neq32 t _ _
theorem b_neq32l (t : TypeId) (n : Int) (b : UInt32) (h0 : 0 ≤ n) (h1 : n < 4294967296) : binOp .neq t (.int .u32 n) (V32 b) = pure (.bool ((UInt32.ofNat n.toNat) != b)) := by rw [lit32 n h0 h1]; exact b_neq32 t _ _
theorem b_lss32 (t : TypeId) (a b : UInt32) : binOp .lss t (V32 a) (V32 b) = pure (.bool (decide (a < b))) := by
  show (pure (.bool (decide ((a.toNat : Int) < (b.toNat : Int)))) : Sem Value) = _
  refine congrArg (fun z => (pure (Value.bool z) : Sem Value)) ?_
  rw [Bool.eq_iff_iff]; simp [UInt32.lt_iff_toNat_lt, UInt32.le_iff_toNat_le]
theorem b_lss32r (t : TypeId) (a : UInt32) (n : Int) (h0 : 0 ≤ n) (h1 : n < 4294967296) : binOp .lss t (V32 a) (.int .u32 n) = pure (.bool (decide (a < (UInt32.ofNat n.toNat)))) := by rw [lit32 n h0 h1]; exact b_lss32 t _ _
theorem b_lss32l (t : TypeId) (n : Int) (b : UInt32) (h0 : 0 ≤ n) (h1 : n < 4294967296) : binOp .lss t (.int .u32 n) (V32 b) = pure (.bool (decide ((UInt32.ofNat n.toNat) < b))) := by rw [lit32 n h0 h1]; exact b_lss32 t _ _
theorem b_leq32 (t : TypeId) (a b : UInt32) : binOp .leq t (V32 a) (V32 b) = pure (.bool (decide (a ≤ b))) := by
  show (pure (.bool (decide ((a.toNat : Int) ≤ (b.toNat : Int)))) : Sem Value) = _
  refine congrArg (fun z => (pure (Value.bool z) : Sem Value)) ?_
  rw [Bool.eq_iff_iff]; simp [UInt32.lt_iff_toNat_lt, UInt32.le_iff_toNat_le]
theorem b_leq32r (t : TypeId) (a : UInt32) (n : Int) (h0 : 0 ≤ n) (h1 : n < 4294967296) : binOp .leq t (V32 a) (.int .u32 n) = pure (.bool (decide (a ≤ (UInt32.ofNat n.toNat)))) := by rw [lit32 n h0 h1]; exact b_leq32 t _ _
theorem b_leq32l (t : TypeId) (n : Int) (b : UInt32) (h0 : 0 ≤ n) (h1 : n < 4294967296) : binOp .leq t (.int .u32 n) (V32 b) = pure (.bool (decide ((UInt32.ofNat n.toNat) ≤ b))) := by rw [lit32 n h0 h1]; exact b_leq32 t _ _
theorem b_gtr32 (t : TypeId) (a b : UInt32) : binOp .gtr t (V32 a) (V32 b) = pure (.bool (decide (b < a))) := by
  show (pure (.bool (decide ((a.toNat : Int) > (b.toNat : Int)))) : Sem Value) = _
  refine congrArg (fun z => (pure (Value.bool z) : Sem Value)) ?_
  rw [Bool.eq_iff_iff]; simp [UInt32.lt_iff_toNat_lt, UInt32.le_iff_toNat_le]
theorem b_gtr32r (t : TypeId) (a : UInt32) (n : Int) (h0 : 0 ≤ n) (h1 : n < 4294967296) : binOp .gtr t (V32 a) (.int .u32 n) = pure (.bool (decide ((UInt32.ofNat n.toNat) < a))) := by rw [lit32 n h0 h1]; exact b_gtr32 t _ _
theorem b_gtr32l (t : TypeId) (n : Int) (b : UInt32) (h0 : 0 ≤ n) (h1 : n < 4294967296) : binOp .gtr t (.int .u32 n) (V32 b) = pure (.bool (decide (b < (UInt32.ofNat n.toNat)))) := by rw [lit32 n h0 h1]; exact b_gtr32 t _ _
theorem b_geq32 (t : TypeId) (a b : UInt32) : binOp .geq t (V32 a) (V32 b) = pure (.bool (decide (b ≤ a))) := by
  show (pure (.bool (decide ((a.toNat : Int) ≥ (b.toNat : Int)))) : Sem Value) = _
  refine congrArg (fun z => (pure (Value.bool z) : Sem Value)) ?_
  rw [Bool.eq_iff_iff]; simp [UInt32.lt_iff_toNat_lt, UInt32.le_iff_toNat_le]
theorem b_geq32r (t : TypeId) (a : UInt32) (n : Int) (h0 : 0 ≤ n) (h1 : n < 4294967296) : binOp .geq t (V32 a) (.int .u32 n) = pure (.bool (decide ((UInt32.ofNat n.toNat) ≤ a))) := by rw [lit32 n h0 h1]; exact b_geq32 t _ _
theorem b_geq32l (t : TypeId) (n : Int) (b : UInt32) (h0 : 0 ≤ n) (h1 : n < 4294967296) : binOp .geq t (.int .u32 n) (V32 b) = pure (.bool (decide (b ≤ (UInt32.ofNat n.toNat)))) := by rw [lit32 n h0 h1]; exact b_geq32 t _ _
theorem b_quo32r (t : TypeId) (a : UInt32) (n : Int) (h0 : 0 < n) (h1 : n < 4294967296) : binOp .quo t (V32 a) (.int .u32 n) = pure (V32 (a / UInt32.ofNat n.toNat)) := by
  obtain ⟨m, rfl⟩ := Int.eq_ofNat_of_zero_le (show 0 ≤ n by omega)
  show Op.intDiv .quo .u32 (a.toNat : Int) (m : Int) = _
  unfold Op.intDiv
  rw [if_neg (by omega)]
  refine congrArg (fun z => (pure (Value.int .u32 z) : Sem Value)) ?_
  rw [wr32, UInt32.toNat_div, UInt32.toNat_ofNat', Int.toNat_natCast, Nat.mod_eq_of_lt (show m < 2 ^ 32 by omega)]
  have h2 := u32_lt a
  have h3 : a.toNat / m ≤ a.toNat := Nat.div_le_self _ _
  rw [Int.tdiv_eq_ediv_of_nonneg (by omega), ← Int.natCast_ediv]
  generalize a.toNat / m = q at *
  omega
theorem b_rem32r (t : TypeId) (a : UInt32) (n : Int) (h0 : 0 < n) (h1 : n < 4294967296) : binOp .rem t (V32 a) (.int .u32 n) = pure (V32 (a % UInt32.ofNat n.toNat)) := by
  obtain ⟨m, rfl⟩ := Int.eq_ofNat_of_zero_le (show 0 ≤ n by omega)
  show Op.intDiv .rem .u32 (a.toNat : Int) (m : Int) = _
  unfold Op.intDiv
  rw [if_neg (by omega)]
  refine congrArg (fun z => (pure (Value.int .u32 z) : Sem Value)) ?_
  rw [UInt32.toNat_mod, UInt32.toNat_ofNat', Int.toNat_natCast, Nat.mod_eq_of_lt (show m < 2 ^ 32 by omega), Int.tmod_eq_emod_of_nonneg (by omega), ← Int.natCast_emod]
theorem b_shl32r (t : TypeId) (a : UInt32) (yk : IntKind) (y : Int) (h0 : 0 ≤ y) (h1 : y < 32) : binOp .shl t (V32 a) (.int yk y) = pure (V32 (a <<< UInt32.ofNat y.toNat)) := sh_shl32 a yk y h0 h1
theorem b_shr32r (t : TypeId) (a : UInt32) (yk : IntKind) (y : Int) (h0 : 0 ≤ y) (h1 : y < 32) : binOp .shr t (V32 a) (.int yk y) = pure (V32 (a >>> UInt32.ofNat y.toNat)) := sh_shr32 a yk y h0 h1
theorem b_shl32l (t : TypeId) (n : Int) (yk : IntKind) (y : Int) (hn0 : 0 ≤ n) (hn1 : n < 4294967296) (h0 : 0 ≤ y) (h1 : y < 32) : binOp .shl t (.int .u32 n) (.int yk y) = pure (V32 (UInt32.ofNat n.toNat <<< UInt32.ofNat y.toNat)) := by rw [lit32 n hn0 hn1]; exact b_shl32r t _ yk y h0 h1
theorem b_shr32l (t : TypeId) (n : Int) (yk : IntKind) (y : Int) (hn0 : 0 ≤ n) (hn1 : n < 4294967296) (h0 : 0 ≤ y) (h1 : y < 32) : binOp .shr t (.int .u32 n) (.int yk y) = pure (V32 (UInt32.ofNat n.toNat >>> UInt32.ofNat y.toNat)) := by rw [lit32 n hn0 hn1]; exact b_shr32r t _ yk y h0 h1
theorem u_xor32 (a : UInt32) : Op.unary .xor (V32 a) = pure (V32 (~~~a)) := un_xor32 a
theorem g_eql32 (t : TypeId) (x y : Operand) (a : UInt32) (v : Value) : eqGuard .eql t x y (V32 a) v = pure () := by cases v <;> rfl
theorem g_neq32 (t : TypeId) (x y : Operand) (a : UInt32) (v : Value) : eqGuard .neq t x y (V32 a) v = pure () := by cases v <;> rfl
theorem g_eql32' (t : TypeId) (x y : Operand) (a : UInt32) (v : Value) : eqGuard .eql t x y v (V32 a) = pure () := by cases v <;> rfl
theorem g_neq32' (t : TypeId) (x y : Operand) (a : UInt32) (v : Value) : eqGuard .neq t x y v (V32 a) = pure () := by cases v <;> rfl
theorem lit64 (n : Int) (h0 : 0 ≤ n) (h1 : n < 18446744073709551616) : Value.int .u64 n = V64 (UInt64.ofNat n.toNat) := by
  unfold V64; rw [UInt64.toNat_ofNat']; congr 1; omega
theorem one64 (x : UInt64) : (V64 x).oneCell' = true := rfl
@[simp] theorem V64_inj (a b : UInt64) : V64 a = V64 b ↔ a = b := by
  unfold V64; constructor
  · intro h; injection h with _ h; exact UInt64.toNat_inj.1 (by omega)
  · rintro rfl; rfl
theorem st64 (P : Program) (w : World) (a : Addr) (m : Mode) (x : UInt64) : (store a (V64 x) m).run P w = stored P w a (V64 x) m := run_store P w a _ m rfl
theorem ce64 (x : UInt64) : (V64 x).cells = #[V64 x] := rfl
theorem cm64 (x : UInt64) : Value.cells.match_1 (fun _ => Array Value) (V64 x) (fun cs => cs) (fun v => #[v]) = #[V64 x] := rfl
theorem b_and64 (t : TypeId) (a b : UInt64) : binOp .and t (V64 a) (V64 b) = pure (V64 (a &&& b)) := ib_and64 a b
theorem b_and64r (t : TypeId) (a : UInt64) (n : Int) (h0 : 0 ≤ n) (h1 : n < 18446744073709551616) : binOp .and t (V64 a) (.int .u64 n) = pure (V64 (a &&& (UInt64.ofNat n.toNat))) := by rw [lit64 n h0 h1]; exact b_and64 t _ _
theorem b_and64l (t : TypeId) (n : Int) (b : UInt64) (h0 : 0 ≤ n) (h1 : n < 18446744073709551616) : binOp .and t (.int .u64 n) (V64 b) = pure (V64 ((UInt64.ofNat n.toNat) &&& b)) := by rw [lit64 n h0 h1]; exact b_and64 t _ _
theorem b_or64 (t : TypeId) (a b : UInt64) : binOp .or t (V64 a) (V64 b) = pure (V64 (a ||| b)) := ib_or64 a b
theorem b_or64r (t : TypeId) (a : UInt64) (n : Int) (h0 : 0 ≤ n) (h1 : n < 18446744073709551616) : binOp .or t (V64 a) (.int .u64 n) = pure (V64 (a ||| (UInt64.ofNat n.toNat))) := by rw [lit64 n h0 h1]; exact b_or64 t _ _
theorem b_or64l (t : TypeId) (n : Int) (b : UInt64) (h0 : 0 ≤ n) (h1 : n < 18446744073709551616) : binOp .or t (.int .u64 n) (V64 b) = pure (V64 ((UInt64.ofNat n.toNat) ||| b)) := by rw [lit64 n h0 h1]; exact b_or64 t _ _
theorem b_xor64 (t : TypeId) (a b : UInt64) : binOp .xor t (V64 a) (V64 b) = pure (V64 (a ^^^ b)) := ib_xor64 a b
theorem b_xor64r (t : TypeId) (a : UInt64) (n : Int) (h0 : 0 ≤ n) (h1 : n < 18446744073709551616) : binOp .xor t (V64 a) (.int .u64 n) = pure (V64 (a ^^^ (UInt64.ofNat n.toNat))) := by rw [lit64 n h0 h1]; exact b_xor64 t _ _
theorem b_xor64l (t : TypeId) (n : Int) (b : UInt64) (h0 : 0 ≤ n) (h1 : n < 18446744073709551616) : binOp .xor t (.int .u64 n) (V64 b) = pure (V64 ((UInt64.ofNat n.toNat) ^^^ b)) := by rw [lit64 n h0 h1]; exact b_xor64 t _ _
theorem b_andNot64 (t : TypeId) (a b : UInt64) : binOp .andNot t (V64 a) (V64 b) = pure (V64 (a &&& ~~~b)) := ib_andNot64 a b
theorem b_andNot64r (t : TypeId) (a : UInt64) (n : Int) (h0 : 0 ≤ n) (h1 : n < 18446744073709551616) : binOp .andNot t (V64 a) (.int .u64 n) = pure (V64 (a &&& ~~~(UInt64.ofNat n.toNat))) := by rw [lit64 n h0 h1]; exact b_andNot64 t _ _
theorem b_andNot64l (t : TypeId) (n : Int) (b : UInt64) (h0 : 0 ≤ n) (h1 : n < 18446744073709551616) : binOp .andNot t (.int .u64 n) (V64 b) = pure (V64 ((UInt64.ofNat n.toNat) &&& ~~~b)) := by rw [lit64 n h0 h1]; exact b_andNot64 t _ _
theorem b_add64 (t : TypeId) (a b : UInt64) : binOp .add t (V64 a) (V64 b) = pure (V64 (a + b)) := ia_add64 a b
theorem b_add64r (t : TypeId) (a : UInt64) (n : Int) (h0 : 0 ≤ n) (h1 : n < 18446744073709551616) : binOp .add t (V64 a) (.int .u64 n) = pure (V64 (a + (UInt64.ofNat n.toNat))) := by rw [lit64 n h0 h1]; exact b_add64 t _ _
theorem b_add64l (t : TypeId) (n : Int) (b : UInt64) (h0 : 0 ≤ n) (h1 : n < 18446744073709551616) : binOp .add t (.int .u64 n) (V64 b) = pure (V64 ((UInt64.ofNat n.toNat) + b)) := by rw [lit64 n h0 h1]; exact b_add64 t _ _
theorem b_sub64 (t : TypeId) (a b : UInt64) : binOp .sub t (V64 a) (V64 b) = pure (V64 (a - b)) := ia_sub64 a b
theorem b_sub64r (t : TypeId) (a : UInt64) (n : Int) (h0 : 0 ≤ n) (h1 : n < 18446744073709551616) : binOp .sub t (V64 a) (.int .u64 n) = pure (V64 (a - (UInt64.ofNat n.toNat))) := by rw [lit64 n h0 h1]; exact b_sub64 t _ _
theorem b_sub64l (t : TypeId) (n : Int) (b : UInt64) (h0 : 0 ≤ n) (h1 : n < 18446744073709551616) : binOp .sub t (.int .u64 n) (V64 b) = pure (V64 ((UInt64.ofNat n.toNat) - b)) := by rw [lit64 n h0 h1]; exact b_sub64 t _ _
theorem b_mul64 (t : TypeId) (a b : UInt64) : binOp .mul t (V64 a) (V64 b) = pure (V64 (a * b)) := ia_mul64 a b
theorem b_mul64r (t : TypeId) (a : UInt64) (n : Int) (h0 : 0 ≤ n) (h1 : n < 18446744073709551616) : binOp .mul t (V64 a) (.int .u64 n) = pure (V64 (a * (UInt64.ofNat n.toNat))) := by rw [lit64 n h0 h1]; exact b_mul64 t _ _
theorem b_mul64l (t : TypeId) (n : Int) (b : UInt64) (h0 : 0 ≤ n) (h1 : n < 18446744073709551616) : binOp .mul t (.int .u64 n) (V64 b) = pure (V64 ((UInt64.ofNat n.toNat) * b)) := by rw [lit64 n h0 h1]; exact b_mul64 t _ _
theorem b_eql64 (t : TypeId) (a b : UInt64) : binOp .eql t (V64 a) (V64 b) = pure (.bool (a == b)) := by
  show (pure (.bool ((a.toNat : Int) == (b.toNat : Int))) : Sem Value) = _
  refine congrArg (fun z => (pure (Value.bool z) : Sem Value)) ?_
  rw [Bool.eq_iff_iff]; simp only [beq_iff_eq]; exact ⟨fun h => UInt64.toNat_inj.1 (by omega), fun h => by rw [h]⟩
theorem b_eql64r (t : TypeId) (a : UInt64) (n : Int) (h0 : 0 ≤ n) (h1 : n < 18446744073709551616) : binOp .eql t (V64 a) (.int .u64 n) = pure (.bool (a == (UInt64.ofNat n.toNat))) := by rw [lit64 n h0 h1]; exact b_eql64 t _ _
theorem b_eql64l (t : TypeId) (n : Int) (b : UInt64) (h0 : 0 ≤ n) (h1 : n < 18446744073709551616) : binOp .eql t (.int .u64 n) (V64 b) = pure (.bool ((UInt64.ofNat n.toNat) == b)) := by rw [lit64 n h0 h1]; exact b_eql64 t _ _
theorem b_neq64 (t : TypeId) (a b : UInt64) : binOp .neq t (V64 a) (V64 b) = pure (.bool (a != b)) := by
  show (pure (.bool ((a.toNat : Int) != (b.toNat : Int))) : Sem Value) = _
  refine congrArg (fun z => (pure (Value.bool z) : Sem Value)) ?_
  rw [Bool.eq_iff_iff]; simp only [bne_iff_ne, ne_eq]; exact ⟨fun h e => h (by rw [e]), fun h e => h (UInt64.toNat_inj.1 (by omega))⟩
theorem b_neq64r (t : TypeId) (a : UInt64) (n : Int) (h0 : 0 ≤ n) (h1 : n < 18446744073709551616) : binOp .neq t (V64 a) (.int .u64 n) = pure (.bool (a != (UInt64.ofNat n.toNat))) := by rw [lit64 n h0 h1]; exact b_neq64 t _ _
theorem b_neq64l (t : TypeId) (n : Int) (b : UInt64) (h0 : 0 ≤ n) (h1 : n < 18446744073709551616) : binOp .neq t (.int .u64 n) (V64 b) = pure (.bool ((UInt64.ofNat n.toNat) != b)) := by rw [lit64 n h0 h1]; exact b_neq64 t _ _
theorem b_lss64 (t : TypeId) (a b : UInt64) : binOp .lss t (V64 a) (V64 b) = pure (.bool (decide (a < b))) := by
  show (pure (.bool (decide ((a.toNat : Int) < (b.toNat : Int)))) : Sem Value) = _
  refine congrArg (fun z => (pure (Value.bool z) : Sem Value)) ?_
  rw [Bool.eq_iff_iff]; simp [UInt64.lt_iff_toNat_lt, UInt64.le_iff_toNat_le]
theorem b_lss64r (t : TypeId) (a : UInt64) (n : Int) (h0 : 0 ≤ n) (h1 : n < 18446744073709551616) : binOp .lss t (V64 a) (.int .u64 n) = pure (.bool (decide (a < (UInt64.ofNat n.toNat)))) := by rw [lit64 n h0 h1]; exact b_lss64 t _ _
theorem b_lss64l (t : TypeId) (n : Int) (b : UInt64) (h0 : 0 ≤ n) (h1 : n < 18446744073709551616) : binOp .lss t (.int .u64 n) (V64 b) = pure (.bool (decide ((UInt64.ofNat n.toNat) < b))) := by rw [lit64 n h0 h1]; exact b_lss64 t _ _
theorem b_leq64 (t : TypeId) (a b : UInt64) : binOp .leq t (V64 a) (V64 b) = pure (.bool (decide (a ≤ b))) := by
  show (pure (.bool (decide ((a.toNat : Int) ≤ (b.toNat : Int)))) : Sem Value) = _
  refine congrArg (fun z => (pure (Value.bool z) : Sem Value)) ?_
  rw [Bool.eq_iff_iff]; simp [UInt64.lt_iff_toNat_lt, UInt64.le_iff_toNat_le]
theorem b_leq64r (t : TypeId) (a : UInt64) (n : Int) (h0 : 0 ≤ n) (h1 : n < 18446744073709551616) : binOp .leq t (V64 a) (.int .u64 n) = pure (.bool (decide (a ≤ (UInt64.ofNat n.toNat)))) := by rw [lit64 n h0 h1]; exact b_leq64 t _ _
theorem b_leq64l (t : TypeId) (n : Int) (b : UInt64) (h0 : 0 ≤ n) (h1 : n < 18446744073709551616) : binOp .leq t (.int .u64 n) (V64 b) = pure (.bool (decide ((UInt64.ofNat n.toNat) ≤ b))) := by rw [lit64 n h0 h1]; exact b_leq64 t _ _
theorem b_gtr64 (t : TypeId) (a b : UInt64) : binOp .gtr t (V64 a) (V64 b) = pure (.bool (decide (b < a))) := by
  show (pure (.bool (decide ((a.toNat : Int) > (b.toNat : Int)))) : Sem Value) = _
  refine congrArg (fun z => (pure (Value.bool z) : Sem Value)) ?_
  rw [Bool.eq_iff_iff]; simp [UInt64.lt_iff_toNat_lt, UInt64.le_iff_toNat_le]
theorem b_gtr64r (t : TypeId) (a : UInt64) (n : Int) (h0 : 0 ≤ n) (h1 : n < 18446744073709551616) : binOp .gtr t (V64 a) (.int .u64 n) = pure (.bool (decide ((UInt64.ofNat n.toNat) < a))) := by rw [lit64 n h0 h1]; exact b_gtr64 t _ _
theorem b_gtr64l (t : TypeId) (n : Int) (b : UInt64) (h0 : 0 ≤ n) (h1 : n < 18446744073709551616) : binOp .gtr t (.int .u64 n) (V64 b) = pure (.bool (decide (b < (UInt64.ofNat n.toNat)))) := by rw [lit64 n h0 h1]; exact b_gtr64 t _ _
theorem b_geq64 (t : TypeId) (a b : UInt64) : binOp .geq t (V64 a) (V64 b) = pure (.bool (decide (b ≤ a))) := by
  show (pure (.bool (decide ((a.toNat : Int) ≥ (b.toNat : Int)))) : Sem Value) = _
  refine congrArg (fun z => (pure (Value.bool z) : Sem Value)) ?_
  rw [Bool.eq_iff_iff]; simp [UInt64.lt_iff_toNat_lt, UInt64.le_iff_toNat_le]
theorem b_geq64r (t : TypeId) (a : UInt64) (n : Int) (h0 : 0 ≤ n) (h1 : n < 18446744073709551616) : binOp .geq t (V64 a) (.int .u64 n) = pure (.bool (decide ((UInt64.ofNat n.toNat) ≤ a))) := by rw [lit64 n h0 h1]; exact b_geq64 t _ _
theorem b_geq64l (t : TypeId) (n : Int) (b : UInt64) (h0 : 0 ≤ n) (h1 : n < 18446744073709551616) : binOp .geq t (.int .u64 n) (V64 b) = pure (.bool (decide (b ≤ (UInt64.ofNat n.toNat)))) := by rw [lit64 n h0 h1]; exact b_geq64 t _ _
theorem b_quo64r (t : TypeId) (a : UInt64) (n : Int) (h0 : 0 < n) (h1 : n < 18446744073709551616) : binOp .quo t (V64 a) (.int .u64 n) = pure (V64 (a / UInt64.ofNat n.toNat)) := by
  obtain ⟨m, rfl⟩ := Int.eq_ofNat_of_zero_le (show 0 ≤ n by omega)
  show Op.intDiv .quo .u64 (a.toNat : Int) (m : Int) = _
  unfold Op.intDiv
  rw [if_neg (by omega)]
  refine congrArg (fun z => (pure (Value.int .u64 z) : Sem Value)) ?_
  rw [wr64, UInt64.toNat_div, UInt64.toNat_ofNat', Int.toNat_natCast, Nat.mod_eq_of_lt (show m < 2 ^ 64 by omega)]
  have h2 := u64_lt a
  have h3 : a.toNat / m ≤ a.toNat := Nat.div_le_self _ _
  rw [Int.tdiv_eq_ediv_of_nonneg (by omega), ← Int.natCast_ediv]
  generalize a.toNat / m = q at *
  omega
theorem b_rem64r (t : TypeId) (a : UInt64) (n : Int) (h0 : 0 < n) (h1 : n < 18446744073709551616) : binOp .rem t (V64 a) (.int .u64 n) = pure (V64 (a % UInt64.ofNat n.toNat)) := by
  obtain ⟨m, rfl⟩ := Int.eq_ofNat_of_zero_le (show 0 ≤ n by omega)
  show Op.intDiv .rem .u64 (a.toNat : Int) (m : Int) = _
  unfold Op.intDiv
  rw [if_neg (by omega)]
  refine congrArg (fun z => (pure (Value.int .u64 z) : Sem Value)) ?_
  rw [UInt64.toNat_mod, UInt64.toNat_ofNat', Int.toNat_natCast, Nat.mod_eq_of_lt (show m < 2 ^ 64 by omega), Int.tmod_eq_emod_of_nonneg (by omega), ← Int.natCast_emod]
theorem b_shl64r (t : TypeId) (a : UInt64) (yk : IntKind) (y : Int) (h0 : 0 ≤ y) (h1 : y < 64) : binOp .shl t (V64 a) (.int yk y) = pure (V64 (a <<< UInt64.ofNat y.toNat)) := sh_shl64 a yk y h0 h1
theorem b_shr64r (t : TypeId) (a : UInt64) (yk : IntKind) (y : Int) (h0 : 0 ≤ y) (h1 : y < 64) : binOp .shr t (V64 a) (.int yk y) = pure (V64 (a >>> UInt64.ofNat y.toNat)) := sh_shr64 a yk y h0 h1
theorem b_shl64l (t : TypeId) (n : Int) (yk : IntKind) (y : Int) (hn0 : 0 ≤ n) (hn1 : n < 18446744073709551616) (h0 : 0 ≤ y) (h1 : y < 64) : binOp .shl t (.int .u64 n) (.int yk y) = pure (V64 (UInt64.ofNat n.toNat <<< UInt64.ofNat y.toNat)) := by rw [lit64 n hn0 hn1]; exact b_shl64r t _ yk y h0 h1
theorem b_shr64l (t : TypeId) (n : Int) (yk : IntKind) (y : Int) (hn0 : 0 ≤ n) (hn1 : n < 18446744073709551616) (h0 : 0 ≤ y) (h1 : y < 64) : binOp .shr t (.int .u64 n) (.int yk y) = pure (V64 (UInt64.ofNat n.toNat >>> UInt64.ofNat y.toNat)) := by rw [lit64 n hn0 hn1]; exact b_shr64r t _ yk y h0 h1
theorem u_xor64 (a : UInt64) : Op.unary .xor (V64 a) = pure (V64 (~~~a)) := un_xor64 a
theorem g_eql64 (t : TypeId) (x y : Operand) (a : UInt64) (v : Value) : eqGuard .eql t x y (V64 a) v = pure () := by cases v <;> rfl
theorem g_neq64 (t : TypeId) (x y : Operand) (a : UInt64) (v : Value) : eqGuard .neq t x y (V64 a) v = pure () := by cases v <;> rfl
theorem g_eql64' (t : TypeId) (x y : Operand) (a : UInt64) (v : Value) : eqGuard .eql t x y v (V64 a) = pure () := by cases v <;> rfl
theorem g_neq64' (t : TypeId) (x y : Operand) (a : UInt64) (v : Value) : eqGuard .neq t x y v (V64 a) = pure () := by cases v <;> rfl
section
variable {P : Program} {w : World} {s d : TypeId}
theorem cv_u8_same (a : UInt8) : Conv.intToInt .u8 (a.toNat : Int) = pure (.int .u8 (a.toNat : Int)) := by
  refine congrArg (fun z => (pure (Value.int .u8 z) : Sem Value)) ?_; rw [wr8]; have := u8_lt a; omega
theorem c_u8_u8 (a : UInt8) (hs : P.underlying s = some (.int .u8)) (hd : P.underlying d = some (.int .u8)) : (convert s d (V8 a)).run P w = .ok (V8 a) w := by
  have h : (convert s d (V8 a)).run P w = (Conv.intToInt .u8 (a.toNat : Int)).run P w := by
    unfold convert V8; simp [run_underlying hs, run_underlying hd]
  rw [h, cv_u8_same a]; rfl
theorem c_u8_u32 (a : UInt8) (hs : P.underlying s = some (.int .u8)) (hd : P.underlying d = some (.int .u32)) : (convert s d (V8 a)).run P w = .ok (V32 a.toUInt32) w := by
  have h : (convert s d (V8 a)).run P w = (Conv.intToInt .u32 (a.toNat : Int)).run P w := by
    unfold convert V8; simp [run_underlying hs, run_underlying hd]
  rw [h, cv_u8_u32 a]; rfl
theorem c_u8_u64 (a : UInt8) (hs : P.underlying s = some (.int .u8)) (hd : P.underlying d = some (.int .u64)) : (convert s d (V8 a)).run P w = .ok (V64 a.toUInt64) w := by
  have h : (convert s d (V8 a)).run P w = (Conv.intToInt .u64 (a.toNat : Int)).run P w := by
    unfold convert V8; simp [run_underlying hs, run_underlying hd]
  rw [h, cv_u8_u64 a]; rfl
theorem c_i_u8 (n : Int) (h0 : 0 ≤ n) (hs : P.underlying s = some (.int .i64)) (hd : P.underlying d = some (.int .u8)) : (convert s d (.int .i64 n)).run P w = .ok (V8 (UInt8.ofNat n.toNat)) w := by
  have h : (convert s d (.int .i64 n)).run P w = (Conv.intToInt .u8 n).run P w := by
    unfold convert; simp [run_underlying hs, run_underlying hd]
  rw [h, cv_i_u8 n h0]; rfl
theorem c_u32_u8 (a : UInt32) (hs : P.underlying s = some (.int .u32)) (hd : P.underlying d = some (.int .u8)) : (convert s d (V32 a)).run P w = .ok (V8 a.toUInt8) w := by
  have h : (convert s d (V32 a)).run P w = (Conv.intToInt .u8 (a.toNat : Int)).run P w := by
    unfold convert V32; simp [run_underlying hs, run_underlying hd]
  rw [h, cv_u32_u8 a]; rfl
theorem cv_u32_same (a : UInt32) : Conv.intToInt .u32 (a.toNat : Int) = pure (.int .u32 (a.toNat : Int)) := by
  refine congrArg (fun z => (pure (Value.int .u32 z) : Sem Value)) ?_; rw [wr32]; have := u32_lt a; omega
theorem c_u32_u32 (a : UInt32) (hs : P.underlying s = some (.int .u32)) (hd : P.underlying d = some (.int .u32)) : (convert s d (V32 a)).run P w = .ok (V32 a) w := by
  have h : (convert s d (V32 a)).run P w = (Conv.intToInt .u32 (a.toNat : Int)).run P w := by
    unfold convert V32; simp [run_underlying hs, run_underlying hd]
  rw [h, cv_u32_same a]; rfl
theorem c_u32_u64 (a : UInt32) (hs : P.underlying s = some (.int .u32)) (hd : P.underlying d = some (.int .u64)) : (convert s d (V32 a)).run P w = .ok (V64 a.toUInt64) w := by
  have h : (convert s d (V32 a)).run P w = (Conv.intToInt .u64 (a.toNat : Int)).run P w := by
    unfold convert V32; simp [run_underlying hs, run_underlying hd]
  rw [h, cv_u32_u64 a]; rfl
theorem c_i_u32 (n : Int) (h0 : 0 ≤ n) (hs : P.underlying s = some (.int .i64)) (hd : P.underlying d = some (.int .u32)) : (convert s d (.int .i64 n)).run P w = .ok (V32 (UInt32.ofNat n.toNat)) w := by
  have h : (convert s d (.int .i64 n)).run P w = (Conv.intToInt .u32 n).run P w := by
    unfold convert; simp [run_underlying hs, run_underlying hd]
  rw [h, cv_i_u32 n h0]; rfl
theorem c_u64_u8 (a : UInt64) (hs : P.underlying s = some (.int .u64)) (hd : P.underlying d = some (.int .u8)) : (convert s d (V64 a)).run P w = .ok (V8 a.toUInt8) w := by
  have h : (convert s d (V64 a)).run P w = (Conv.intToInt .u8 (a.toNat : Int)).run P w := by
    unfold convert V64; simp [run_underlying hs, run_underlying hd]
  rw [h, cv_u64_u8 a]; rfl
theorem c_u64_u32 (a : UInt64) (hs : P.underlying s = some (.int .u64)) (hd : P.underlying d = some (.int .u32)) : (convert s d (V64 a)).run P w = .ok (V32 a.toUInt32) w := by
  have h : (convert s d (V64 a)).run P w = (Conv.intToInt .u32 (a.toNat : Int)).run P w := by
    unfold convert V64; simp [run_underlying hs, run_underlying hd]
  rw [h, cv_u64_u32 a]; rfl
theorem cv_u64_same (a : UInt64) : Conv.intToInt .u64 (a.toNat : Int) = pure (.int .u64 (a.toNat : Int)) := by
  refine congrArg (fun z => (pure (Value.int .u64 z) : Sem Value)) ?_; rw [wr64]; have := u64_lt a; omega
theorem c_u64_u64 (a : UInt64) (hs : P.underlying s = some (.int .u64)) (hd : P.underlying d = some (.int .u64)) : (convert s d (V64 a)).run P w = .ok (V64 a) w := by
  have h : (convert s d (V64 a)).run P w = (Conv.intToInt .u64 (a.toNat : Int)).run P w := by
    unfold convert V64; simp [run_underlying hs, run_underlying hd]
  rw [h, cv_u64_same a]; rfl
theorem c_i_u64 (n : Int) (h0 : 0 ≤ n) (hs : P.underlying s = some (.int .i64)) (hd : P.underlying d = some (.int .u64)) : (convert s d (.int .i64 n)).run P w = .ok (V64 (UInt64.ofNat n.toNat)) w := by
  have h : (convert s d (.int .i64 n)).run P w = (Conv.intToInt .u64 n).run P w := by
    unfold convert; simp [run_underlying hs, run_underlying hd]
  rw [h, cv_i_u64 n h0]; rfl
theorem c_u8_i (a : UInt8) (hs : P.underlying s = some (.int .u8)) (hd : P.underlying d = some (.int .i64)) : (convert s d (V8 a)).run P w = .ok (.int .i64 (a.toNat : Int)) w := by
  have h : (convert s d (V8 a)).run P w = (Conv.intToInt .i64 (a.toNat : Int)).run P w := by
    unfold convert V8; simp [run_underlying hs, run_underlying hd]
  rw [h, cv_u8_i a]; rfl
theorem c_u32_i (a : UInt32) (hs : P.underlying s = some (.int .u32)) (hd : P.underlying d = some (.int .i64)) : (convert s d (V32 a)).run P w = .ok (.int .i64 (a.toNat : Int)) w := by
  have h : (convert s d (V32 a)).run P w = (Conv.intToInt .i64 (a.toNat : Int)).run P w := by
    unfold convert V32; simp [run_underlying hs, run_underlying hd]
  rw [h, cv_u32_i a]; rfl
end
/-! ## worlds -/
theorem setCell_drewN (w : World) (n : Nat) (a : Addr) (v : Value) : (w.drewN n).setCell a v = (w.setCell a v).drewN n := rfl
theorem alloc_set (w : World) (C : Array Value) (T : TypeId) (b k : Nat) (v : Value) (hb : b = w.heap.size) : (w.alloc (.cells C T)).setCell ⟨b, k, none⟩ v = w.alloc (.cells (C.setIfInBounds k v) T) := by
  subst hb; exact World.setCell_alloc_at _ _ _ _ _ rfl
theorem map_set {α : Type} (f : α → Value) (l : List α) (k : Nat) (v : α) : ((l.map f).toArray).setIfInBounds k (f v) = ((l.set k v).map f).toArray := by simp
theorem cell_map {α : Type} (f : α → Value) (l : List α) (k : Nat) (d : α) (h : k < l.length) : (l.map f)[k]? = some (f (l.getD k d)) := by simp [List.getElem?_eq_getElem h]
end Go.Proofs.YtmdgefiojapogaaDoor
