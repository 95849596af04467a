/- The library's bits.OnesCount and bits.TrailingZeros at this program. Condition: deBruijn64tab lies in its variable. -/
import Derived.Test.YtbbobpjcbnfpfaaDoorTrRoot
import Derived.Test.YtbbobpjcbnfpfaaDoorTrLogP
import Derived.Laws.Bits64b
import Derived.Laws.Bits128
import Derived.Lib.TrailingZeros
namespace Go.Proofs.YtbbobpjcbnfpfaaDoor
open Go.RowKit
theorem and256 (a b c d : Nat) (hb : b < 256) (hd : d < 256) : (256 * a + b) &&& (256 * c + d) = 256 * (a &&& c) + (b &&& d) := by
  have h1 := @Nat.and_mod_two_pow (256 * a + b) (256 * c + d) 8
  have h2 := @Nat.and_div_two_pow (256 * a + b) (256 * c + d) 8
  rw [show (2 : Nat) ^ 8 = 256 from rfl] at h1 h2
  rw [show (256 * a + b) % 256 = b by omega, show (256 * c + d) % 256 = d by omega] at h1
  rw [show (256 * a + b) / 256 = a by omega, show (256 * c + d) / 256 = c by omega] at h2
  have h3 := Nat.div_add_mod ((256 * a + b) &&& (256 * c + d)) 256
  omega
/-- One byte again and again. -/
def mk256 (m : Nat) : Nat → Nat
  | 0 => 0
  | k + 1 => 256 * mk256 m k + m
/-- A thing done to each byte. -/
def dig (f : Nat → Nat) : Nat → Nat → Nat
  | 0, _ => 0
  | k + 1, x => 256 * dig f k (x / 256) + f (x % 256)
def f1 (b : Nat) : Nat := (b / 2 &&& 85) + (b &&& 85)
def f2 (b : Nat) : Nat := (b / 4 &&& 51) + (b &&& 51)
def f3 (b : Nat) : Nat := (b / 16 + b) % 16
def bitsOf (b : Nat) : Nat := b % 2 + b / 2 % 2 + b / 4 % 2 + b / 8 % 2 + b / 16 % 2 + b / 32 % 2 + b / 64 % 2 + b / 128 % 2
theorem f1_lt : ∀ b : Fin 256, f1 b.val < 256 := by decide +kernel
theorem f2_lt : ∀ b : Fin 256, f2 (f1 b.val) % 16 ≤ 4 ∧ f2 (f1 b.val) / 16 ≤ 4 := by decide +kernel
theorem f3_eq : ∀ b : Fin 256, f3 (f2 (f1 b.val)) = bitsOf b.val := by decide +kernel
theorem low1 : ∀ (t : Fin 2) (s : Fin 128), (128 * t.val + s.val) &&& 85 = s.val &&& 85 := by decide +kernel
theorem low2 : ∀ (t : Fin 4) (s : Fin 64), (64 * t.val + s.val) &&& 51 = s.val &&& 51 := by decide +kernel
theorem and15 (x : Nat) : x &&& 15 = x % 16 := Nat.and_two_pow_sub_one_eq_mod x 4
theorem step1 : ∀ (k x : Nat), x < 256 ^ k → (x / 2 &&& mk256 85 k) + (x &&& mk256 85 k) = dig f1 k x
  | 0, x, _ => by simp [mk256, dig]
  | k + 1, x, h => by
    have hq : x / 256 < 256 ^ k := by rw [Nat.pow_succ] at h; omega
    have ih := step1 k (x / 256) hq
    obtain ⟨q, hqe⟩ : ∃ q, q = x / 256 := ⟨_, rfl⟩
    obtain ⟨r, hre⟩ : ∃ r, r = x % 256 := ⟨_, rfl⟩
    rw [mk256, dig, ← hre, ← hqe]
    rw [← hqe] at ih
    have hr : r < 256 := by omega
    have e1 : x = 256 * q + r := by omega
    have e2 : x / 2 = 256 * (q / 2) + (128 * (q % 2) + r / 2) := by omega
    have l1 := low1 ⟨q % 2, by omega⟩ ⟨r / 2, by omega⟩
    simp only at l1
    rw [e2, and256 _ _ _ _ (by omega) (by omega), l1]
    conv => lhs; rw [e1]
    rw [and256 _ _ _ _ hr (by omega), ← ih, f1]
    omega
theorem step2 : ∀ (k x : Nat), x < 256 ^ k → (x / 4 &&& mk256 51 k) + (x &&& mk256 51 k) = dig f2 k x
  | 0, x, _ => by simp [mk256, dig]
  | k + 1, x, h => by
    have hq : x / 256 < 256 ^ k := by rw [Nat.pow_succ] at h; omega
    have ih := step2 k (x / 256) hq
    obtain ⟨q, hqe⟩ : ∃ q, q = x / 256 := ⟨_, rfl⟩
    obtain ⟨r, hre⟩ : ∃ r, r = x % 256 := ⟨_, rfl⟩
    rw [mk256, dig, ← hre, ← hqe]
    rw [← hqe] at ih
    have hr : r < 256 := by omega
    have e1 : x = 256 * q + r := by omega
    have e2 : x / 4 = 256 * (q / 4) + (64 * (q % 4) + r / 4) := by omega
    have l1 := low2 ⟨q % 4, by omega⟩ ⟨r / 4, by omega⟩
    simp only at l1
    rw [e2, and256 _ _ _ _ (by omega) (by omega), l1]
    conv => lhs; rw [e1]
    rw [and256 _ _ _ _ hr (by omega), ← ih, f2]
    omega
/-- Each byte's halves are 4 at most. -/
def Low : Nat → Nat → Prop
  | 0, _ => True
  | k + 1, x => (x % 256 % 16 ≤ 4 ∧ x % 256 / 16 ≤ 4) ∧ Low k (x / 256)
theorem step3 : ∀ (k x : Nat), Low k x → x < 256 ^ k → (x / 16 + x) &&& mk256 15 k = dig f3 k x
  | 0, x, _, _ => by simp [mk256, dig]
  | k + 1, x, hl, h => by
    have hq : x / 256 < 256 ^ k := by rw [Nat.pow_succ] at h; omega
    have ih := step3 k (x / 256) hl.2 hq
    have hq4 : x / 256 % 16 ≤ 4 := by
      cases k with
      | zero => simp at hq; omega
      | succ k => have := hl.2.1.1; omega
    have h1 := hl.1.1
    have h2 := hl.1.2
    obtain ⟨q, hqe⟩ : ∃ q, q = x / 256 := ⟨_, rfl⟩
    obtain ⟨r, hre⟩ : ∃ r, r = x % 256 := ⟨_, rfl⟩
    rw [mk256, dig, ← hre, ← hqe]
    rw [← hqe] at ih hq4
    rw [← hre] at h1 h2
    have hr : r < 256 := by omega
    have e2 : x / 16 + x = 256 * (q / 16 + q) + (16 * (q % 16) + r / 16 + r) := by omega
    rw [e2, and256 _ _ _ _ (by omega) (by omega), ih, and15, f3]
    congr 1
    omega
theorem dig_lt (f : Nat → Nat) (hf : ∀ b, b < 256 → f b < 256) : ∀ k x, dig f k x < 256 ^ k
  | 0, x => by simp [dig]
  | k + 1, x => by
    have h1 := dig_lt f hf k (x / 256)
    have h2 := hf (x % 256) (by omega)
    rw [dig, Nat.pow_succ]
    omega
theorem dig_dig (f g : Nat → Nat) (hf : ∀ b, b < 256 → f b < 256) : ∀ k x, dig g k (dig f k x) = dig (fun b => g (f b)) k x
  | 0, x => rfl
  | k + 1, x => by
    have h2 := hf (x % 256) (by omega)
    rw [dig, dig, dig, show (256 * dig f k (x / 256) + f (x % 256)) / 256 = dig f k (x / 256) by omega, show (256 * dig f k (x / 256) + f (x % 256)) % 256 = f (x % 256) by omega, dig_dig f g hf k]
theorem dig_low : ∀ k x, Low k (dig (fun b => f2 (f1 b)) k x)
  | 0, x => trivial
  | k + 1, x => by
    have h2 := f2_lt ⟨x % 256, by omega⟩
    simp only at h2
    rw [dig, Low, show (256 * dig (fun b => f2 (f1 b)) k (x / 256) + f2 (f1 (x % 256))) / 256 = dig (fun b => f2 (f1 b)) k (x / 256) by omega, show (256 * dig (fun b => f2 (f1 b)) k (x / 256) + f2 (f1 (x % 256))) % 256 = f2 (f1 (x % 256)) by omega]
    exact ⟨h2, dig_low k _⟩
theorem ones_eq (n : Nat) : ones n = n % 2 + ones (n / 2) := by
  by_cases h : n = 0
  · subst h; simp [ones]
  · conv => lhs; rw [ones]
    rw [if_neg h]
theorem ones_byte (n : Nat) : ones n = bitsOf (n % 256) + ones (n / 256) := by
  rw [ones_eq n, ones_eq (n / 2), ones_eq (n / 2 / 2), ones_eq (n / 2 / 2 / 2), ones_eq (n / 2 / 2 / 2 / 2), ones_eq (n / 2 / 2 / 2 / 2 / 2), ones_eq (n / 2 / 2 / 2 / 2 / 2 / 2), ones_eq (n / 2 / 2 / 2 / 2 / 2 / 2 / 2)]
  rw [show n / 2 / 2 / 2 / 2 / 2 / 2 / 2 / 2 = n / 256 by omega]
  unfold bitsOf
  omega
theorem bitsOf_le (b : Nat) : bitsOf b ≤ 8 := by unfold bitsOf; omega
/-- What OnesCount64 computes with whole words. -/
theorem pop_words (x y1 y2 y3 y4 y5 y6 : Nat) (hx : x < 18446744073709551616) (h1 : y1 = (x / 2 &&& 6148914691236517205) + (x &&& 6148914691236517205)) (h2 : y2 = (y1 / 4 &&& 3689348814741910323) + (y1 &&& 3689348814741910323))
    (h3 : y3 = (y2 / 16 + y2) &&& 1085102592571150095) (h4 : y4 = y3 + y3 / 256) (h5 : y5 = y4 + y4 / 65536) (h6 : y6 = y5 + y5 / 4294967296) :
    y1 < 18446744073709551616 ∧ y2 ≤ 4919131752989213764 ∧ y6 < 9223372036854775808 ∧ y6 % 128 = ones x := by
  have e1 : (6148914691236517205 : Nat) = mk256 85 8 := by decide +kernel
  have e2 : (3689348814741910323 : Nat) = mk256 51 8 := by decide +kernel
  have e3 : (1085102592571150095 : Nat) = mk256 15 8 := by decide +kernel
  have hf1 : ∀ b, b < 256 → f1 b < 256 := fun b hb => f1_lt ⟨b, hb⟩
  have hf2 : ∀ b, b < 256 → f2 (f1 b) < 256 := fun b hb => by have := f2_lt ⟨b, hb⟩; simp only at this; omega
  have p64 : (256 : Nat) ^ 8 = 18446744073709551616 := by decide +kernel
  rw [e1, step1 8 x (by rw [p64]; exact hx)] at h1
  have k1 := dig_lt f1 hf1 8 x
  rw [← h1] at k1
  rw [e2, step2 8 y1 k1, h1, dig_dig f1 f2 hf1] at h2
  have k2 := dig_lt _ hf2 8 x
  have k2l := dig_low 8 x
  rw [← h2] at k2 k2l
  rw [e3, step3 8 y2 k2l k2, h2, dig_dig _ f3 hf2] at h3
  have hy2 : y2 ≤ 4919131752989213764 := by
    have : ∀ k z, Low k z → z < 256 ^ k → z ≤ mk256 68 k := by
      intro k
      induction k with
      | zero => intro z _ h; simp [mk256] at *; omega
      | succ k ih =>
        intro z hl h
        have hq : z / 256 < 256 ^ k := by rw [Nat.pow_succ] at h; omega
        have := ih _ hl.2 hq
        have a := hl.1.1
        have b := hl.1.2
        rw [mk256]
        omega
    have h := this 8 y2 k2l k2
    rw [show mk256 68 8 = 4919131752989213764 by decide +kernel] at h
    exact h
  refine ⟨by rw [← p64]; exact k1, hy2, ?_⟩
  have hb : ∀ b, b < 256 → f3 (f2 (f1 b)) = bitsOf b := fun b hb => f3_eq ⟨b, hb⟩
  simp only [dig] at h3
  rw [hb _ (by omega), hb _ (by omega), hb _ (by omega), hb _ (by omega), hb _ (by omega), hb _ (by omega), hb _ (by omega), hb _ (by omega)] at h3
  have ho := ones_byte x
  rw [ones_byte (x / 256), ones_byte (x / 256 / 256), ones_byte (x / 256 / 256 / 256), ones_byte (x / 256 / 256 / 256 / 256), ones_byte (x / 256 / 256 / 256 / 256 / 256), ones_byte (x / 256 / 256 / 256 / 256 / 256 / 256), ones_byte (x / 256 / 256 / 256 / 256 / 256 / 256 / 256)] at ho
  rw [show x / 256 / 256 / 256 / 256 / 256 / 256 / 256 / 256 = 0 by omega, show ones 0 = 0 by simp [ones]] at ho
  have l0 := bitsOf_le (x % 256)
  have l1 := bitsOf_le (x / 256 % 256)
  have l2 := bitsOf_le (x / 256 / 256 % 256)
  have l3 := bitsOf_le (x / 256 / 256 / 256 % 256)
  have l4 := bitsOf_le (x / 256 / 256 / 256 / 256 % 256)
  have l5 := bitsOf_le (x / 256 / 256 / 256 / 256 / 256 % 256)
  have l6 := bitsOf_le (x / 256 / 256 / 256 / 256 / 256 / 256 % 256)
  have l7 := bitsOf_le (x / 256 / 256 / 256 / 256 / 256 / 256 / 256 % 256)
  generalize bitsOf (x % 256) = p0 at *
  generalize bitsOf (x / 256 % 256) = p1 at *
  generalize bitsOf (x / 256 / 256 % 256) = p2 at *
  generalize bitsOf (x / 256 / 256 / 256 % 256) = p3 at *
  generalize bitsOf (x / 256 / 256 / 256 / 256 % 256) = p4 at *
  generalize bitsOf (x / 256 / 256 / 256 / 256 / 256 % 256) = p5 at *
  generalize bitsOf (x / 256 / 256 / 256 / 256 / 256 / 256 % 256) = p6 at *
  generalize bitsOf (x / 256 / 256 / 256 / 256 / 256 / 256 / 256 % 256) = p7 at *
  clear hb hf1 hf2 k1 k2 k2l h1 h2 e1 e2 e3 p64 hx hy2
  have d3 : y3 / 256 = 256 * (256 * (256 * (256 * (256 * (256 * p7 + p6) + p5) + p4) + p3) + p2) + p1 := by omega
  have h4' : y4 = 256 * (256 * (256 * (256 * (256 * (256 * (256 * p7 + (p6 + p7)) + (p5 + p6)) + (p4 + p5)) + (p3 + p4)) + (p2 + p3)) + (p1 + p2)) + (p0 + p1) := by omega
  have d4 : y4 / 65536 = 256 * (256 * (256 * (256 * (256 * p7 + (p6 + p7)) + (p5 + p6)) + (p4 + p5)) + (p3 + p4)) + (p2 + p3) := by omega
  have h5' : y5 = 256 * (256 * (256 * (256 * (256 * (256 * (256 * p7 + (p6 + p7)) + (p5 + p6 + p7)) + (p4 + p5 + p6 + p7)) + (p3 + p4 + p5 + p6)) + (p2 + p3 + p4 + p5)) + (p1 + p2 + p3 + p4)) + (p0 + p1 + p2 + p3) := by omega
  have d5 : y5 / 4294967296 = 256 * (256 * (256 * p7 + (p6 + p7)) + (p5 + p6 + p7)) + (p4 + p5 + p6 + p7) := by omega
  constructor
  · omega
  · omega
theorem and_u64 (a b : Nat) (ha : a < 18446744073709551616) (hb : b < 18446744073709551616) (A B : Int) (hA : A = a) (hB : B = b) : bits .and .u64 A B = ((a &&& b : Nat) : Int) := by
  subst hA hB
  exact bits_and_u64_nat a b ha hb
set_option maxRecDepth 100000 in
theorem onesCount64_any (x : Nat) (w : World) (hx : x < 18446744073709551616) :
    Calls Tryd.prog 90 #[.int .u64 x] w fun e w' => e = .returned (.int .i64 (ones x)) ∧ w = w' := by
  obtain ⟨y1, h1⟩ : ∃ y1, y1 = (x / 2 &&& 6148914691236517205) + (x &&& 6148914691236517205) := ⟨_, rfl⟩
  obtain ⟨y2, h2⟩ : ∃ y2, y2 = (y1 / 4 &&& 3689348814741910323) + (y1 &&& 3689348814741910323) := ⟨_, rfl⟩
  obtain ⟨y3, h3⟩ : ∃ y3, y3 = (y2 / 16 + y2) &&& 1085102592571150095 := ⟨_, rfl⟩
  obtain ⟨y4, h4⟩ : ∃ y4, y4 = y3 + y3 / 256 := ⟨_, rfl⟩
  obtain ⟨y5, h5⟩ : ∃ y5, y5 = y4 + y4 / 65536 := ⟨_, rfl⟩
  obtain ⟨y6, h6⟩ : ∃ y6, y6 = y5 + y5 / 4294967296 := ⟨_, rfl⟩
  obtain ⟨b1, b2, b6, hp⟩ := pop_words x y1 y2 y3 y4 y5 y6 hx h1 h2 h3 h4 h5 h6
  have g1 : IntKind.u64.wrap (bits .and .u64 ((x : Int) / 2) 6148914691236517205 + bits .and .u64 (x : Int) 6148914691236517205) = (y1 : Int) := by
    rw [and_u64 (x / 2) 6148914691236517205 (by omega) (by omega) ((x : Int) / 2) 6148914691236517205 (by omega) rfl, and_u64 x 6148914691236517205 (by omega) (by omega) (x : Int) 6148914691236517205 rfl rfl, IntKind.wrap_u64]
    omega
  have g2 : IntKind.u64.wrap (bits .and .u64 ((y1 : Int) / 4) 3689348814741910323 + bits .and .u64 (y1 : Int) 3689348814741910323) = (y2 : Int) := by
    rw [and_u64 (y1 / 4) 3689348814741910323 (by omega) (by omega) ((y1 : Int) / 4) 3689348814741910323 (by omega) rfl, and_u64 y1 3689348814741910323 (by omega) (by omega) (y1 : Int) 3689348814741910323 rfl rfl, IntKind.wrap_u64]
    omega
  have g3 : bits .and .u64 (IntKind.u64.wrap ((y2 : Int) / 16 + (y2 : Int))) 1085102592571150095 = (y3 : Int) := by
    rw [and_u64 (y2 / 16 + y2) 1085102592571150095 (by omega) (by omega) (IntKind.u64.wrap ((y2 : Int) / 16 + (y2 : Int))) 1085102592571150095 (by rw [IntKind.wrap_u64]; omega) rfl, h3]
  have g4 : IntKind.u64.wrap ((y3 : Int) + (y3 : Int) / 256) = (y4 : Int) := by rw [IntKind.wrap_u64]; omega
  have g5 : IntKind.u64.wrap ((y4 : Int) + (y4 : Int) / 65536) = (y5 : Int) := by rw [IntKind.wrap_u64]; omega
  have g6 : IntKind.u64.wrap ((y5 : Int) + (y5 : Int) / 4294967296) = (y6 : Int) := by rw [IntKind.wrap_u64]; omega
  have HP := Lib.hid hp
  clear h1 h2 h3 h4 h5 h6 hp b1 b2
  go_enter Tryd.func90, Tryd.ntmps90
  go_wp2_with fail
  go_ret
  exact ⟨congrArg (fun z => Ending.returned (.int .i64 z)) (show bits .and .i64 (y6 : Int) 127 = ((ones x : Nat) : Int) by rw [i64_and127, ← HP.out]; omega), rfl⟩
set_option maxRecDepth 100000 in
theorem onesCount_any (x : Nat) (w : World) (hx : x < 18446744073709551616) :
    Calls Tryd.prog 79 #[.int .u64 x] w fun e w' => e = .returned (.int .i64 (ones x)) ∧ w = w' := by
  have hw : IntKind.u64.wrap (x : Int) = (x : Int) := by rw [IntKind.wrap_u64]; omega
  have H := Lib.hid (onesCount64_any x w hx)
  clear hx
  go_enter Tryd.func79, Tryd.ntmps79
  go_wp2_with (go_at_call 90; refine H.out.mono ?_; rintro e w' ⟨rfl, rfl⟩)
  go_ret
  exact ⟨rfl, rfl⟩
/-- The library's table in its variable. -/
def TabZ (w : World) : Prop := ∀ j, j < 64 → w.cell? ⟨3, j, none⟩ = some (.int .u8 (Lib.deBruijn64tab.getD j 0))
theorem cell_mod0' {a w : World} (m : Mod [] a w) {p : Addr} {v : Value} (h : a.cell? p = some v) : w.cell? p = some v := by
  rw [World.cell?_of_block (w := a) (m.block p.block (block_lt_of_cell h) (by simp))]; exact h
theorem TabZ.mod0 {a w : World} (h : TabZ a) (m : Mod [] a w) : TabZ w := fun j hj => cell_mod0' m (h j hj)
theorem tz_key (x a : Nat) (hx : x < 18446744073709551616) (hx0 : x ≠ 0) (hlow : x &&& (18446744073709551616 - x) = a) :
    IntKind.u64.wrap (bits BinOp.and IntKind.u64 (x : Int) (IntKind.u64.wrap (-(x : Int))) * 285870213051353865) / 288230376151711744 = ((a * 285870213051353865 % 18446744073709551616 / 288230376151711744 : Nat) : Int) := by
  have e1 : IntKind.u64.wrap (-(x : Int)) = ((18446744073709551616 - x : Nat) : Int) := by rw [IntKind.wrap_u64]; omega
  rw [e1, bits_and_u64_nat x _ hx (by omega), hlow, IntKind.wrap_u64]
  omega
set_option maxRecDepth 100000 in
theorem tz64_core (x k idx : Nat) (w : World) (hx0 : ((x : Int) == 0) = false)
    (key : IntKind.u64.wrap (bits BinOp.and IntKind.u64 (x : Int) (IntKind.u64.wrap (-(x : Int))) * 285870213051353865) / 288230376151711744 = (idx : Int))
    (hi : idx < 64) (hk : k < 64) (hcell : w.cell? ⟨3, idx, none⟩ = some (.int .u8 k)) :
    Calls Tryd.prog 88 #[.int .u64 x] w fun e w' => e = .returned (.int .i64 k) ∧ w = w' := by
  go_enter Tryd.func88, Tryd.ntmps88
  go_wp2_with (simp only [key])
  go_ret
  exact ⟨rfl, rfl⟩
theorem tz64_any (x : Nat) (w : World) (hx : x < 18446744073709551616) (hx0 : x ≠ 0) (T : TabZ w) :
    Calls Tryd.prog 88 #[.int .u64 x] w fun e w' => e = .returned (.int .i64 (Lib.ctz 64 x)) ∧ w = w' := by
  obtain ⟨hlow, hk⟩ := Lib.lowest_bit 64 x hx0 hx
  obtain ⟨hi, htab⟩ := Lib.deBruijn64_at _ hk
  have hcell := T _ hi
  rw [htab] at hcell
  exact tz64_core x _ _ w (by simp; omega) (tz_key x _ hx hx0 hlow) hi hk hcell
set_option maxRecDepth 100000 in
theorem tz_any (x : Nat) (w : World) (hx : x < 18446744073709551616) (hx0 : x ≠ 0) (T : TabZ w) :
    Calls Tryd.prog 77 #[.int .u64 x] w fun e w' => e = .returned (.int .i64 (Lib.ctz 64 x)) ∧ w = w' := by
  have hw : IntKind.u64.wrap (x : Int) = (x : Int) := by rw [IntKind.wrap_u64]; omega
  have H := Lib.hid (tz64_any x w hx hx0 T)
  clear hx T hx0
  go_enter Tryd.func77, Tryd.ntmps77
  go_wp2_with (go_at_call 88; refine H.out.mono ?_; rintro e w' ⟨rfl, rfl⟩)
  go_ret
  exact ⟨rfl, rfl⟩
/-- How many of the last bits of n are 1. -/
def tones (n : Nat) : Nat := if n % 2 = 1 then 1 + tones (n / 2) else 0
termination_by n
decreasing_by omega
theorem ctzFrom_tones : ∀ (f n : Nat), n < 2 ^ f → Lib.ctzFrom f (2 ^ f - 1 - n) = (if n + 1 = 2 ^ f then f else tones n)
  | 0, n, h => by simp at h; subst h; simp [Lib.ctzFrom]
  | f + 1, n, h => by
    have hp : 2 ^ (f + 1) = 2 * 2 ^ f := by rw [Nat.pow_succ]; omega
    have h1 := Nat.two_pow_pos f
    rw [Lib.ctzFrom, tones]
    by_cases h2 : n % 2 = 1
    · rw [if_neg (by omega), if_pos h2, show (2 ^ (f + 1) - 1 - n) / 2 = 2 ^ f - 1 - n / 2 by omega, ctzFrom_tones f (n / 2) (by omega)]
      by_cases h3 : n + 1 = 2 ^ (f + 1)
      · rw [if_pos h3, if_pos (by omega)]; omega
      · rw [if_neg h3, if_neg (by omega)]
    · rw [if_pos (by omega), if_neg h2, if_neg (by omega)]
theorem ctz_tones (n : Nat) (h : n < 18446744073709551615) : Lib.ctz 64 (18446744073709551615 - n) = tones n := by
  unfold Lib.ctz
  rw [if_neg (by omega)]
  have h2 := ctzFrom_tones 64 n (by omega)
  rw [if_neg (by omega)] at h2
  exact h2
theorem tones_le (k : Nat) : ∀ n, n < 2 ^ k → tones n ≤ k := by
  induction k with
  | zero => intro n h; have : n = 0 := by simpa using h
            subst this; rw [tones]; simp
  | succ k ih =>
    intro n h
    rw [tones]
    split
    · have := ih (n / 2) (by rw [Nat.pow_succ] at h; omega); omega
    · omega
theorem ones_le (k : Nat) : ∀ n, n < 2 ^ k → ones n ≤ k := by
  induction k with
  | zero => intro n h; have : n = 0 := by simpa using h
            subst this; simp [ones]
  | succ k ih =>
    intro n h
    rw [ones_eq]
    have := ih (n / 2) (by rw [Nat.pow_succ] at h; omega)
    omega
set_option maxRecDepth 100000 in
theorem rones_any (n : Nat) (w : World) (hn : n ≤ 1099511627776) :
    Calls Tryd.prog 80 #[.int .i64 n] w fun e w' => e = .returned (.int .i64 (ones n)) ∧ w = w' := by
  have hle := ones_le 41 n (by omega)
  go_enter Tryd.func80, Tryd.ntmps80
  go_wp2_with fail
  go_loopw [0, 3] (fun nv kv wr => ∃ m k : Nat, nv = .int .i64 m ∧ kv = .int .i64 k ∧ k + ones m = ones n ∧ m ≤ n ∧ w = wr) (fun nv _ _ => (intOf nv).toNat)
  case atStart => exact ⟨n, 0, rfl, rfl, by omega, by omega, rfl⟩
  case round =>
    obtain ⟨m, k, rfl, rfl, hk, hm, rfl⟩ := hrel
    by_cases h0 : 0 < m
    · have f1 : (0 : Int) < (m : Int) := by omega
      have HK := Lib.hid (show k + (m % 2 + ones (m / 2)) = ones n by have := ones_eq m; omega)
      have w1 : wrap64 ((k : Int) + (m : Int) % 2) = ((k + m % 2 : Nat) : Int) := by unfold wrap64; have := HK.out; omega
      clear hk
      go_wp2_with fail
      go_roundw
      case rel => exact ⟨m / 2, k + m % 2, congrArg (Value.int .i64) (by omega), congrArg (Value.int .i64) w1, by have := HK.out; omega, by omega, trivial⟩
      case measure => simp [intOf]; omega
    · have hm0 : m = 0 := by omega
      subst hm0
      have e0 : ones 0 = 0 := by simp [ones]
      have hk' : k = ones n := by omega
      clear hk hle
      subst hk'
      go_wp2_with fail
      go_ret
      exact ⟨rfl, rfl⟩
end Go.Proofs.YtbbobpjcbnfpfaaDoor
