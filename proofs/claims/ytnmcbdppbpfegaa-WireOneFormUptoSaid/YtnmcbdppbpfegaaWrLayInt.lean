/- Lay of a list of numbers, whatever function it is handed. Condition: at most 2^40 things. -/
import Derived.Test.YtnmcbdppbpfegaaWrNum
import Derived.Test.YtnmcbdppbpfegaaOwnI
namespace Go.Proofs.Ytnmcbdppbpfegaa
open Go.RowKit
attribute [local go_sem high] one8 st8 cm8 b_and8 b_and8r b_and8l b_or8 b_or8r b_or8l b_xor8 b_xor8r b_xor8l b_andNot8 b_andNot8r b_andNot8l b_add8 b_add8r b_add8l b_sub8 b_sub8r b_sub8l b_mul8 b_mul8r b_mul8l b_eql8 b_eql8r b_eql8l b_neq8 b_neq8r b_neq8l b_lss8 b_lss8r b_lss8l b_leq8 b_leq8r b_leq8l b_gtr8 b_gtr8r b_gtr8l b_geq8 b_geq8r b_geq8l b_quo8r b_rem8r b_shl8r b_shr8r b_shl8l b_shr8l u_xor8 g_eql8 g_neq8 g_eql8' g_neq8' one32 st32 cm32 b_and32 b_and32r b_and32l b_or32 b_or32r b_or32l b_xor32 b_xor32r b_xor32l b_andNot32 b_andNot32r b_andNot32l b_add32 b_add32r b_add32l b_sub32 b_sub32r b_sub32l b_mul32 b_mul32r b_mul32l b_eql32 b_eql32r b_eql32l b_neq32 b_neq32r b_neq32l b_lss32 b_lss32r b_lss32l b_leq32 b_leq32r b_leq32l b_gtr32 b_gtr32r b_gtr32l b_geq32 b_geq32r b_geq32l b_quo32r b_rem32r b_shl32r b_shr32r b_shl32l b_shr32l u_xor32 g_eql32 g_neq32 g_eql32' g_neq32' one64 st64 cm64 b_and64 b_and64r b_and64l b_or64 b_or64r b_or64l b_xor64 b_xor64r b_xor64l b_andNot64 b_andNot64r b_andNot64l b_add64 b_add64r b_add64l b_sub64 b_sub64r b_sub64l b_mul64 b_mul64r b_mul64l b_eql64 b_eql64r b_eql64l b_neq64 b_neq64r b_neq64l b_lss64 b_lss64r b_lss64l b_leq64 b_leq64r b_leq64l b_gtr64 b_gtr64r b_gtr64l b_geq64 b_geq64r b_geq64l b_quo64r b_rem64r b_shl64r b_shr64r b_shl64l b_shr64l u_xor64 g_eql64 g_neq64 g_eql64' g_neq64' c_u8_u8 c_u8_u32 c_u8_u64 c_i_u8 c_u32_u8 c_u32_u32 c_u32_u64 c_i_u32 c_u64_u8 c_u64_u32 c_u64_u64 c_i_u64 c_u8_i c_u32_i
attribute [local go_sem ↓] ce8 ce32 ce64
attribute [local go_sem ↓] sliced_slp
theorem run_equalIn_func_nil {P : Program} {t : TypeId} {a b c} (d : Nat) (h : P.underlying t = some (.func a b c)) (f : Fn) (x y : Array Value) (w : World) : (Op.equalIn (d + 1) t (.func f x y) .nilFunc).run P w = .ok false w := by
  simp [Op.equalIn, run_underlying h]
theorem run_eql_func_nil {P : Program} {t : TypeId} {a b c} (h : P.underlying t = some (.func a b c)) (f : Fn) (x y : Array Value) (w : World) : (binOp .eql t (.func f x y) .nilFunc).run P w = .ok (.bool false) w := by
  simp only [binOp]
  simp [Op.equal, Op.maxDepth, run_equalIn_func_nil 9999 h]
set_option maxRecDepth 100000 in
/-- I: what holds behind some of the things. -/
theorem layInt_any (B g : Nat) (v : Value) (W : Wr) (w : World) (h : IsW w B g v W) (hk : W.b.length ≤ 4194304) (p : Option Addr) (cap : Nat) (l : List Int) (hl : l.length ≤ 1099511627776)
    (k : FuncId) (caps : Array Value) (hf : ∀ (xs : Array Value) (w : World), (callFunc k xs).run Try.prog w = .ok (.enter k xs) w) (I : List Int → Value → Wr → World → Prop)
    (h0 : ∀ v1 w1, IsW w1 B g v1 (W.number l.length) → Mod (footB g v) w w1 → (∀ x, v1.ownBlock = some x → v.ownBlock = some x ∨ w.heap.size ≤ x) → I [] v1 (W.number l.length) w1)
    (hw : ∀ xs v1 W1 w1, I xs v1 W1 w1 → IsW w1 B g v1 W1 ∧ Rd VI w1 p cap l)
    (h1 : ∀ n x v1 W1 w1, l[n]? = some x → I (l.take n) v1 W1 w1 → W1.e = 0 → Calls Try.prog k (#[.pointer (some ⟨g, 0, none⟩), .int .i64 x] ++ caps) w1 fun e w2 => e = .returned (.tuple #[]) ∧ ∃ v2 W2, I (l.take (n + 1)) v2 W2 w2) :
    Calls Try.prog 90 #[.pointer (some ⟨g, 0, none⟩), .slice p l.length cap, .func (.func k) #[] caps] w fun e w' => e = .returned (.tuple #[]) ∧ ∃ n v1 W1, n ≤ l.length ∧ I (l.take n) v1 W1 w' ∧ (n = l.length ∨ W1.e ≠ 0) := by
  have HN := Lib.hid (number_any B g v W w h hk (l.length : Int) (by omega))
  have H0 := Lib.hid h0
  have HW := Lib.hid hw
  have H1 := Lib.hid h1
  have HF := Lib.hid hf
  clear h h0 hw h1 hf
  have hq := fun (w : World) => run_eql_func_nil (P := Try.prog) Try.underlying118 (.func k) #[] caps w
  go_enter Try.func90, Try.ntmps90
  go_wp2_with fail
  refine HN.out.mono ?_
  rintro e w1 ⟨v1, rfl, hi, hm, hv⟩
  have HI0 := Lib.hid (H0.out v1 w1 hi hm hv)
  clear hi hm hv hq
  go_wp2_with fail
  go_loopw [20] (fun iv wr => ∃ (n : Nat) (v1 : Value) (W1 : Wr), n ≤ l.length ∧ iv = .int .i64 n ∧ I (l.take n) v1 W1 wr) (fun iv _ => l.length - (intOf iv).toNat)
  case atStart => exact ⟨0, _, _, by omega, rfl, HI0.out⟩
  case round =>
    obtain ⟨n, v1, W1, hn, rfl, hI⟩ := hrel
    obtain ⟨hi, hr⟩ := HW.out _ _ _ _ hI
    have HII := Lib.hid hI
    clear hI
    by_cases hnl : n < l.length
    · obtain ⟨x, hx⟩ : ∃ x, l[n]? = some x := ⟨l[n], List.getElem?_eq_getElem hnl⟩
      obtain ⟨b, o, rfl, hc⟩ := hr.cell n x hx
      change _ = some (Value.int .i64 x) at hc
      have c1 := hi.c1
      have HX := Lib.hid hx
      clear hr hi hx
      by_cases he : W1.e = 0
      · have e0 : (W1.e != 0) = false := by simp [he]
        have HC := Lib.hid (H1.out n x v1 W1 wr HX.out HII.out he)
        have hff := fun (xs : Array Value) (w : World) => HF.out xs w
        clear he
        go_wp2_with fail
        refine HC.out.mono ?_
        rintro e w2 ⟨rfl, v2, W2, hI2⟩
        have HI2 := Lib.hid hI2
        clear hI2 hc c1 hff
        go_wp2_with fail
        go_roundw
        case rel => exact ⟨n + 1, v2, W2, by omega, by go_num, HI2.out⟩
        case measure => simp [intOf]; omega
      · have e0 : (W1.e != 0) = true := by simpa using he
        go_wp2_with fail
        refine bodyPost_ret (results_none rfl _ _ _) rfl ?_
        exact ⟨rfl, n, v1, W1, hn, HII.out, .inr he⟩
    · have hd : decide ((n : Int) < (l.length : Int)) = false := by simp; omega
      clear hi hr
      go_wp2_with fail
      go_end0
      exact ⟨rfl, n, v1, W1, hn, HII.out, .inl (by omega)⟩
end Go.Proofs.Ytnmcbdppbpfegaa
