/- A reader in memory; NewReader, need, next. Condition: at most 2^22 bytes. -/
import Derived.Test.YtnmcbdppbpfegaaRrPure
import Derived.Test.YtnmcbdppbpfegaaWrNum
import Derived.StillTailTactics
import Derived.Recover
namespace Go.Proofs.Ytnmcbdppbpfegaa
open Go.RowKit
attribute [local go_sem high] one8 st8 cm8 b_and8 b_and8r b_and8l b_or8 b_or8r b_or8l b_xor8 b_xor8r b_xor8l b_andNot8 b_andNot8r b_andNot8l b_add8 b_add8r b_add8l b_sub8 b_sub8r b_sub8l b_mul8 b_mul8r b_mul8l b_eql8 b_eql8r b_eql8l b_neq8 b_neq8r b_neq8l b_lss8 b_lss8r b_lss8l b_leq8 b_leq8r b_leq8l b_gtr8 b_gtr8r b_gtr8l b_geq8 b_geq8r b_geq8l b_quo8r b_rem8r b_shl8r b_shr8r b_shl8l b_shr8l u_xor8 g_eql8 g_neq8 g_eql8' g_neq8' one32 st32 cm32 b_and32 b_and32r b_and32l b_or32 b_or32r b_or32l b_xor32 b_xor32r b_xor32l b_andNot32 b_andNot32r b_andNot32l b_add32 b_add32r b_add32l b_sub32 b_sub32r b_sub32l b_mul32 b_mul32r b_mul32l b_eql32 b_eql32r b_eql32l b_neq32 b_neq32r b_neq32l b_lss32 b_lss32r b_lss32l b_leq32 b_leq32r b_leq32l b_gtr32 b_gtr32r b_gtr32l b_geq32 b_geq32r b_geq32l b_quo32r b_rem32r b_shl32r b_shr32r b_shl32l b_shr32l u_xor32 g_eql32 g_neq32 g_eql32' g_neq32' one64 st64 cm64 b_and64 b_and64r b_and64l b_or64 b_or64r b_or64l b_xor64 b_xor64r b_xor64l b_andNot64 b_andNot64r b_andNot64l b_add64 b_add64r b_add64l b_sub64 b_sub64r b_sub64l b_mul64 b_mul64r b_mul64l b_eql64 b_eql64r b_eql64l b_neq64 b_neq64r b_neq64l b_lss64 b_lss64r b_lss64l b_leq64 b_leq64r b_leq64l b_gtr64 b_gtr64r b_gtr64l b_geq64 b_geq64r b_geq64l b_quo64r b_rem64r b_shl64r b_shr64r b_shl64l b_shr64l u_xor64 g_eql64 g_neq64 g_eql64' g_neq64' c_u8_u8 c_u8_u32 c_u8_u64 c_i_u8 c_u32_u8 c_u32_u32 c_u32_u64 c_i_u32 c_u64_u8 c_u64_u32 c_u64_u64 c_i_u64 c_u8_i c_u32_i
attribute [local go_sem ↓] ce8 ce32 ce64
attribute [local go_sem ↓] sliced_slp
/-- The reader R lies in block g; v: its bytes. -/
structure IsR (w : World) (B g : Nat) (v : Value) (R : Rr) : Prop where
  base : B ≤ g
  blk : w.heap[g]? = some (.cells #[v, .int .i64 R.at_, .int .i64 R.e] 70 (0, 0))
  own : Own w B v R.b
  le : R.at_ ≤ R.b.length
  len : R.b.length ≤ 4194304
namespace IsR
variable {a w : World} {B g : Nat} {v : Value} {R : Rr}
theorem lt (h : IsR w B g v R) : g < w.heap.size := lt_of_block h.blk
theorem c0 (h : IsR w B g v R) : w.cell? ⟨g, 0, none⟩ = some v := by rw [cell_blk h.blk]; rfl
theorem c1 (h : IsR w B g v R) : w.cell? ⟨g, 1, none⟩ = some (.int .i64 R.at_) := by rw [cell_blk h.blk]; rfl
theorem c2 (h : IsR w B g v R) : w.cell? ⟨g, 2, none⟩ = some (.int .i64 R.e) := by rw [cell_blk h.blk]; rfl
theorem frz (h : IsR w B g v R) (j : Nat) : w.frozen? ⟨g, j, none⟩ = false := frozen_blk h.blk j
theorem mod {S : List Nat} (h : IsR a B g v R) (hm : Mod S a w) (hg : g ∉ S) (hs : ∀ x ∈ S, v.ownBlock ≠ some x) : IsR w B g v R := ⟨h.base, hm.get h.blk hg, h.own.mod hm hs, h.le, h.len⟩
theorem mod0 (h : IsR a B g v R) (hm : Mod [] a w) : IsR w B g v R := h.mod hm (by simp) (by simp)
theorem ne (h : IsR w B g v R) : v.ownBlock ≠ some g := by
  intro hv
  obtain ⟨C, hb⟩ := h.own.type g hv
  have := h.blk
  rw [hb] at this; injection this with this; injection this with _ h2 _
  exact absurd h2 (by decide)
/-- Its place is written. -/
theorem setAt (h : IsR w B g v R) (n : Nat) (hn : n ≤ R.b.length) : IsR (w.setCell ⟨g, 1, none⟩ (.int .i64 n)) B g v { R with at_ := n } := by
  refine ⟨h.base, by rw [hp_sc h.blk]; rfl, h.own.mod ((Mod.refl [g] w).setCell (.inl (by simp)) _) (fun x hx hv => ?_), hn, h.len⟩
  rw [List.mem_singleton] at hx
  subst hx
  exact h.ne hv
/-- Its fault is written. -/
theorem setE (h : IsR w B g v R) (e : Int) : IsR (w.setCell ⟨g, 2, none⟩ (.int .i64 e)) B g v { R with e := e } := by
  refine ⟨h.base, by rw [hp_sc h.blk]; rfl, h.own.mod ((Mod.refl [g] w).setCell (.inl (by simp)) _) (fun x hx hv => ?_), h.le, h.len⟩
  rw [List.mem_singleton] at hx
  subst hx
  exact h.ne hv
theorem own_base (h : IsR w B g v R) : ∀ x, v.ownBlock = some x → B ≤ x := h.own.row
theorem own_lt (h : IsR w B g v R) : ∀ x, v.ownBlock = some x → x < w.heap.size := h.own.lt
end IsR
def NewR (B : Nat) (R : Rr) (w : World) (e : Ending) (w' : World) : Prop := ∃ g v, e = .returned (.pointer (some ⟨g, 0, none⟩)) ∧ w.heap.size ≤ g ∧ (∀ x, v.ownBlock = some x → w.heap.size ≤ x) ∧ IsR w' B g v R ∧ Mod [] w w'
theorem newR_long (B : Nat) (p : Option Addr) (cap n : Nat) (w : World) (hB : B ≤ w.heap.size) (h : 4194304 < n) (hn : n ≤ 1099511627776) :
    Calls Try.prog 8 #[.slice p n cap] w (NewR B ⟨[], 0, 30⟩ w) := by
  unfold NewR
  have hd : decide (4194304 < (n : Int)) = true := by simp; omega
  go_enter Try.func8, Try.ntmps8
  go_wp2
  go_ret
  exact ⟨_, .slice none 0 0, rfl, Nat.le_refl _, (fun x hx => by cases hx), ⟨hB, hp_new _ _ _ rfl, Own.nil _ _, Nat.le_refl _, Nat.zero_le _⟩, (Mod.refl _ _).alloc _⟩
theorem newR_any (B : Nat) (p : Option Addr) (cap : Nat) (l : List UInt8) (w : World) (hB : B ≤ w.heap.size) (hr : Rd V8 w p cap l) (h : l.length ≤ 4194304) :
    Calls Try.prog 8 #[.slice p l.length cap] w (NewR B ⟨l, 0, 0⟩ w) := by
  unfold NewR
  have hd : decide (4194304 < (l.length : Int)) = false := by simp; omega
  have hC := cloneB_any p cap l.length l w hr rfl (by omega)
  clear hr
  go_enter Try.func8, Try.ntmps8
  go_wp2_with fail
  refine hC.mono ?_
  rintro e w1 ⟨r, rfl, ho, m1⟩
  have HO := Lib.hid ho
  obtain ⟨q, c, hv, _, _⟩ := ho.rd
  clear ho
  subst hv
  go_wp2_with fail
  go_ret
  exact ⟨_, .slice q l.length c, rfl, m1.size, fun x hx => HO.out.row x hx, ⟨Nat.le_trans hB m1.size, hp_new _ _ _ rfl, (HO.out.mono hB).alloc _, Nat.zero_le _, h⟩, m1.alloc _⟩
/-- What a look gives up with. -/
def torn (e : Int) : Value := .iface 110 (.agg #[.int .i64 e])
theorem need_yes (e : Int) (w : World) : Calls Try.prog 83 #[.bool true, .int .i64 e] w fun x w' => x = .returned (.tuple #[]) ∧ w = w' := by
  go_enter Try.func83, Try.ntmps83
  go_wp2
  go_end0
  exact ⟨rfl, rfl⟩
theorem need_no (e : Int) (w : World) : Calls Try.prog 83 #[.bool false, .int .i64 e] w fun x w' => x = .panicked [{ v := torn e, recovered := false }] ∧ w = w' := by
  unfold torn
  go_enter Try.func83, Try.ntmps83
  go_wp2
  exact ⟨rfl, rfl, rfl⟩
theorem needCall (xs : Array Value) (w : World) : (callFunc 83 xs).run Try.prog w = .ok (.enter 83 xs) w := by kernel_rfl
/-- The next bytes: they are read where they lie. -/
def NextP (B g : Nat) (v : Value) (R : Rr) (n : Nat) (w : World) (e : Ending) (w' : World) : Prop :=
  ∃ q c, e = .returned (.slice q n c) ∧ Rd V8 w' q c ((R.b.drop R.at_).take n) ∧ (∀ x, q = some x → v.ownBlock = some x.block) ∧ IsR w' B g v { R with at_ := R.at_ + n } ∧ Mod [g] w w'
theorem slp_own {p : Option Addr} {k cap s n : Nat} {x : Addr} (h : slp p k cap s = some x) : (Value.slice p n cap).ownBlock = some x.block := by
  unfold slp at h
  split at h
  · subst h; rfl
  · cases p with
    | none => cases h
    | some a =>
      obtain ⟨b, o, sp⟩ := a
      simp only [Option.map_some, Option.some.injEq] at h
      subst h
      simp only [Addr.add]
      split <;> rfl
set_option maxRecDepth 100000 in
theorem next_any (B g : Nat) (v : Value) (R : Rr) (w : World) (h : IsR w B g v R) (n : Nat) (hn : n ≤ R.b.length - R.at_) :
    Calls Try.prog 99 #[.pointer (some ⟨g, 0, none⟩), .int .i64 n] w (NextP B g v R n w) := by
  unfold NextP
  have hle := h.le
  have hlen := h.len
  obtain ⟨p, cap, hv, hrd, hb⟩ := h.own.rd
  subst hv
  have hcap := hrd.le
  have c0 := h.c0
  have c1 := h.c1
  have f1 := h.frz 1
  have H := Lib.hid h
  have HRD := Lib.hid hrd
  have hs1 : IntKind.i64.wrap ((R.b.length : Int) - (R.at_ : Int)) = (R.b.length : Int) - (R.at_ : Int) := wrI _ (by omega) (by omega)
  have hd : decide ((n : Int) ≤ (R.b.length : Int) - (R.at_ : Int)) = true := by simp; omega
  clear h hrd hb
  go_enter Try.func99, Try.ntmps99
  go_wp2_with fail
  go_quiet ((go_at_call 83; exact Calls.quiet_of_same ((need_yes _ _).mono (fun e w h => ⟨h.1, h.2.symm⟩))))
  have hs2 : IntKind.i64.wrap ((R.at_ : Int) + (n : Int)) = (R.at_ : Int) + (n : Int) := wrI _ (by omega) (by omega)
  have hs3 : ((R.at_ : Int) + (n : Int)).toNat = R.at_ + n := by omega
  have hb1 : (R.at_ : Int) + (n : Int) ≤ (cap : Int) := by omega
  have hb2 : R.at_ + n ≤ cap := by omega
  have hb3 : R.at_ ≤ cap := by omega
  have hb4 : (R.at_ : Int) ≤ (R.at_ : Int) + (n : Int) := by omega
  clear hd hs1
  go_wp2_with fail
  go_quiet (fail)
  go_wp2_with fail
  go_ret
  have hm : ∀ m, Mod [g] w ((w.drewN m).setCell ⟨g, 1, none⟩ (.int .i64 ((R.at_ : Int) + (n : Int)))) := fun m => ((Mod.refl [g] w).drewN m).setCell (p := ⟨g, 1, none⟩) (.inl (by simp)) _
  have hne := H.out.ne
  refine ⟨_, _, rfl, ?_, fun x hx => slp_own hx, ?_, hm _⟩
  · refine ((HRD.out.drop R.at_ hle).take n).mod (hm _) (fun _ x hx hg => ?_)
    rw [List.mem_singleton] at hg
    exact hne (by rw [slp_own hx, hg])
  · rw [(Int.natCast_add R.at_ n).symm]
    exact (H.out.mod0 ((Mod.refl [] w).drewN _)).setAt (R.at_ + n) (by omega)
set_option maxRecDepth 100000 in
theorem next_short (B g : Nat) (v : Value) (R : Rr) (w : World) (h : IsR w B g v R) (n : Nat) (hn : R.b.length - R.at_ < n) (hn2 : n ≤ 9223372036854775807) :
    Calls Try.prog 99 #[.pointer (some ⟨g, 0, none⟩), .int .i64 n] w fun e w' => e = .panicked [{ v := torn 31, recovered := false }] ∧ Mod [] w w' := by
  have hle := h.le
  have hlen := h.len
  obtain ⟨p, cap, hv, hrd, hb⟩ := h.own.rd
  subst hv
  have c0 := h.c0
  have c1 := h.c1
  have hs1 : IntKind.i64.wrap ((R.b.length : Int) - (R.at_ : Int)) = (R.b.length : Int) - (R.at_ : Int) := wrI _ (by omega) (by omega)
  have hd : decide ((n : Int) ≤ (R.b.length : Int) - (R.at_ : Int)) = false := by simp; omega
  clear h hrd hb
  go_enter Try.func99, Try.ntmps99
  go_wp2_with fail
  go_still_tail 12, (by kernel_rfl)
  change wpList _ _ _ _ _ w.drew
  generalize hw : w.drew = w2
  go_wp2_with fail
  refine (need_no _ _).mono ?_
  rintro e w3 ⟨rfl, rfl⟩
  subst hw
  exact ⟨rfl, rfl, (Mod.refl [] w).drew⟩
end Go.Proofs.Ytnmcbdppbpfegaa
