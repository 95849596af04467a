/- Equality of wide numbers, digests, addresses; whole entries in memory. No condition. -/
import Derived.Test.YtmdgefiojapogaaDoorChecked
import Derived.Test.YtmdgefiojapogaaDoorMem
import Derived.Test.YtmdgefiojapogaaDoorSlR
import Derived.Test.YtmdgefiojapogaaDoorZeros
import Derived.Stop.BytesEq
import Derived.Lib.SlBytesConst
namespace Go.Proofs.YtmdgefiojapogaaDoor
open Go.RowKit
attribute [local go_sem high] one8 st8 cm8 b_and8 b_and8r b_and8l b_or8 b_or8r b_or8l b_xor8 b_xor8r b_xor8l b_andNot8 b_andNot8r b_andNot8l b_add8 b_add8r b_add8l b_sub8 b_sub8r b_sub8l b_mul8 b_mul8r b_mul8l b_eql8 b_eql8r b_eql8l b_neq8 b_neq8r b_neq8l b_lss8 b_lss8r b_lss8l b_leq8 b_leq8r b_leq8l b_gtr8 b_gtr8r b_gtr8l b_geq8 b_geq8r b_geq8l b_quo8r b_rem8r b_shl8r b_shr8r b_shl8l b_shr8l u_xor8 g_eql8 g_neq8 g_eql8' g_neq8' one32 st32 cm32 b_and32 b_and32r b_and32l b_or32 b_or32r b_or32l b_xor32 b_xor32r b_xor32l b_andNot32 b_andNot32r b_andNot32l b_add32 b_add32r b_add32l b_sub32 b_sub32r b_sub32l b_mul32 b_mul32r b_mul32l b_eql32 b_eql32r b_eql32l b_neq32 b_neq32r b_neq32l b_lss32 b_lss32r b_lss32l b_leq32 b_leq32r b_leq32l b_gtr32 b_gtr32r b_gtr32l b_geq32 b_geq32r b_geq32l b_quo32r b_rem32r b_shl32r b_shr32r b_shl32l b_shr32l u_xor32 g_eql32 g_neq32 g_eql32' g_neq32' one64 st64 cm64 b_and64 b_and64r b_and64l b_or64 b_or64r b_or64l b_xor64 b_xor64r b_xor64l b_andNot64 b_andNot64r b_andNot64l b_add64 b_add64r b_add64l b_sub64 b_sub64r b_sub64l b_mul64 b_mul64r b_mul64l b_eql64 b_eql64r b_eql64l b_neq64 b_neq64r b_neq64l b_lss64 b_lss64r b_lss64l b_leq64 b_leq64r b_leq64l b_gtr64 b_gtr64r b_gtr64l b_geq64 b_geq64r b_geq64l b_quo64r b_rem64r b_shl64r b_shr64r b_shl64l b_shr64l u_xor64 g_eql64 g_neq64 g_eql64' g_neq64' c_u8_u8 c_u8_u32 c_u8_u64 c_i_u8 c_u32_u8 c_u32_u32 c_u32_u64 c_i_u32 c_u64_u8 c_u64_u32 c_u64_u64 c_i_u64 c_u8_i c_u32_i
attribute [local go_sem ↓] ce8 ce32 ce64
def byteOf (n : Int) : UInt8 := UInt8.ofNat (n % 256).toNat
theorem cv_byte (n : Int) (w : World) : (convert 3 5 (.int .i64 n)).run Tryd.prog w = .ok (V8 (byteOf n)) w := by
  have h1 : (convert 3 5 (.int .i64 n)).run Tryd.prog w = (Conv.intToInt .u8 n).run Tryd.prog w := by
    unfold convert; simp [run_underlying Tryd.underlying3, run_underlying Tryd.underlying5]
  have h2 : Conv.intToInt .u8 n = pure (V8 (byteOf n)) := by
    refine congrArg (fun z => (pure (Value.int .u8 z) : Sem Value)) ?_
    unfold byteOf
    rw [wr8, UInt8.toNat_ofNat']
    omega
  rw [h1, h2]; rfl
theorem all_range_eq64 : ∀ (xs ys : List UInt64), xs.length = ys.length → ((List.range xs.length).all fun i => xs.getD i 0 == ys.getD i 0) = (xs == ys)
  | [], [], _ => rfl
  | x :: xs, y :: ys, h => by
    have ih := all_range_eq64 xs ys (by simpa using h)
    rw [List.length_cons, List.range_succ_eq_map, List.all_cons, List.all_map]
    simp only [List.getD_cons_zero, Function.comp_def, List.getD_cons_succ, ih]
    simp [List.cons_beq_cons]
  | [], _ :: _, h => by simp at h
  | _ :: _, [], h => by simp at h
theorem run_equalIn_u64 {P : Program} (w : World) (d : Nat) (t e : TypeId) (n : Nat) (ht : P.underlying t = some (.array n e)) (he : P.underlying e = some (.int .u64)) (hsz : ∀ w, (sizeOf e).run P w = .ok 1 w)
    (xs ys : List UInt64) (hx : xs.length = n) (hy : ys.length = n) :
    (Op.equalIn (d + 2) t (.agg (xs.map V64).toArray) (.agg (ys.map V64).toArray)).run P w = .ok (xs == ys) w := by
  rw [← all_range_eq64 xs ys (hx.trans hy.symm), hx, List.range_eq_range', Op.equalIn]
  simp only [Sem.run_bind, run_underlying ht, Result.andThen_ok, hsz, Std.Legacy.Range.forIn_eq_forIn_range', Std.Legacy.Range.size, Nat.sub_zero, Nat.add_sub_cancel, Nat.div_one]
  have hl : ∀ i ∈ List.range' 0 n 1, i < n := fun i hi => by simpa using (List.mem_range'_1.1 hi).2
  generalize List.range' 0 n 1 = l at hl ⊢
  induction l with
  | nil => simp
  | cons i l ih =>
    have hi : i < n := hl i (by simp)
    have px : (part e (xs.map V64).toArray (i * 1)).run P w = .ok (V64 (xs.getD i 0)) w := by
      simp [part, isAgg, run_underlying he, List.getD, List.getElem?_eq_getElem (show i < xs.length by omega)]
    have py : (part e (ys.map V64).toArray (i * 1)).run P w = .ok (V64 (ys.getD i 0)) w := by
      simp [part, isAgg, run_underlying he, List.getD, List.getElem?_eq_getElem (show i < ys.length by omega)]
    have pe : (Op.equalIn (d + 1) e (V64 (xs.getD i 0)) (V64 (ys.getD i 0))).run P w = .ok (xs.getD i 0 == ys.getD i 0) w := by
      rw [V64, V64, run_equalIn_int w d e .u64 .u64 _ _ he]
      congr 1
      rw [Bool.eq_iff_iff]
      simp [← UInt64.toNat_inj]
      omega
    simp only [List.forIn_cons, Sem.run_bind, px, py, pe, Result.andThen_ok, List.all_cons]
    cases hb : (xs.getD i 0 == ys.getD i 0)
    · simp
    · simp only [Bool.not_true, Bool.false_eq_true, if_false, Sem.run_pure, Result.andThen_ok, Bool.true_and]
      exact ih fun j hj => hl j (by simp [hj])
theorem neqWide (w : World) (a b : {l : List UInt64 // l.length = 4}) : (binOp .neq 33 (.agg (a.1.map V64).toArray) (.agg (b.1.map V64).toArray)).run Tryd.prog w = .ok (.bool (!(a.1 == b.1))) w := by
  have h := run_equalIn_u64 (P := Tryd.prog) w 9998 33 31 4 Tryd.underlying33 Tryd.underlying31 Tryd.sizeOf31 a.1 b.1 a.2 b.2
  rw [run_neq_struct, h]; rfl
theorem neqDg (w : World) (a b : List UInt8) (ha : a.length = 32) (hb : b.length = 32) : (binOp .neq 24 (.agg (a.map V8).toArray) (.agg (b.map V8).toArray)).run Tryd.prog w = .ok (.bool (!(a == b))) w := by
  have h := run_equalIn_bytes (P := Tryd.prog) w 9998 24 5 32 Tryd.underlying24 Tryd.underlying5 Tryd.sizeOf5 a b ha hb
  change (Op.equalIn _ _ (.agg (a.map V8).toArray) (.agg (b.map V8).toArray)).run _ _ = _ at h
  rw [run_neq_struct, h]; rfl
theorem neqAd (w : World) (a b : List UInt8) (ha : a.length = 20) (hb : b.length = 20) : (binOp .neq 30 (.agg (a.map V8).toArray) (.agg (b.map V8).toArray)).run Tryd.prog w = .ok (.bool (!(a == b))) w := by
  have h := run_equalIn_bytes (P := Tryd.prog) w 9998 30 5 20 Tryd.underlying30 Tryd.underlying5 Tryd.sizeOf5 a b ha hb
  change (Op.equalIn _ _ (.agg (a.map V8).toArray) (.agg (b.map V8).toArray)).run _ _ = _ at h
  rw [run_neq_struct, h]; rfl
theorem eqWide (w : World) (a b : {l : List UInt64 // l.length = 4}) : (binOp .eql 33 (.agg (a.1.map V64).toArray) (.agg (b.1.map V64).toArray)).run Tryd.prog w = .ok (.bool (a.1 == b.1)) w := by
  have h := run_equalIn_u64 (P := Tryd.prog) w 9998 33 31 4 Tryd.underlying33 Tryd.underlying31 Tryd.sizeOf31 a.1 b.1 a.2 b.2
  rw [run_eql_struct, h]; rfl
theorem eqDg (w : World) (a b : List UInt8) (ha : a.length = 32) (hb : b.length = 32) : (binOp .eql 24 (.agg (a.map V8).toArray) (.agg (b.map V8).toArray)).run Tryd.prog w = .ok (.bool (a == b)) w := by
  have h := run_equalIn_bytes (P := Tryd.prog) w 9998 24 5 32 Tryd.underlying24 Tryd.underlying5 Tryd.sizeOf5 a b ha hb
  change (Op.equalIn _ _ (.agg (a.map V8).toArray) (.agg (b.map V8).toArray)).run _ _ = _ at h
  rw [run_eql_struct, h]; rfl
theorem eqAd (w : World) (a b : List UInt8) (ha : a.length = 20) (hb : b.length = 20) : (binOp .eql 30 (.agg (a.map V8).toArray) (.agg (b.map V8).toArray)).run Tryd.prog w = .ok (.bool (a == b)) w := by
  have h := run_equalIn_bytes (P := Tryd.prog) w 9998 30 5 20 Tryd.underlying30 Tryd.underlying5 Tryd.sizeOf5 a b ha hb
  change (Op.equalIn _ _ (.agg (a.map V8).toArray) (.agg (b.map V8).toArray)).run _ _ = _ at h
  rw [run_eql_struct, h]; rfl
theorem loadOAd (p : Value) : Instr.loadAt 30 p = LoadO 30 p := rfl
theorem storeOAd (p v : Value) : Instr.storeAt 30 p v = StoreO 30 p v := rfl
theorem loadOWd (p : Value) : Instr.loadAt 33 p = LoadO 33 p := rfl
theorem storeOWd (p v : Value) : Instr.storeAt 33 p v = StoreO 33 p v := rfl
theorem loadOEn (p : Value) : Instr.loadAt 35 p = LoadO 35 p := rfl
theorem storeOEn (p v : Value) : Instr.storeAt 35 p v = StoreO 35 p v := rfl
end Go.Proofs.YtmdgefiojapogaaDoor
