/- A step of a script on a ladder ('do'), and 'pick'. The condition: at most 2^20 steps. -/
import Derived.Test.YtmjdfglidfdkaaaLsRef
namespace Go.Proofs.Ytmjdfglidfdkaaa
open Go.RowKit
attribute [local go_sem high] one8 st8 cm8 b_and8 b_and8r b_and8l b_or8 b_or8r b_or8l b_xor8 b_xor8r b_xor8l b_andNot8 b_andNot8r b_andNot8l b_add8 b_add8r b_add8l b_sub8 b_sub8r b_sub8l b_mul8 b_mul8r b_mul8l b_eql8 b_eql8r b_eql8l b_neq8 b_neq8r b_neq8l b_lss8 b_lss8r b_lss8l b_leq8 b_leq8r b_leq8l b_gtr8 b_gtr8r b_gtr8l b_geq8 b_geq8r b_geq8l b_quo8r b_rem8r b_shl8r b_shr8r b_shl8l b_shr8l u_xor8 g_eql8 g_neq8 g_eql8' g_neq8' one32 st32 cm32 b_and32 b_and32r b_and32l b_or32 b_or32r b_or32l b_xor32 b_xor32r b_xor32l b_andNot32 b_andNot32r b_andNot32l b_add32 b_add32r b_add32l b_sub32 b_sub32r b_sub32l b_mul32 b_mul32r b_mul32l b_eql32 b_eql32r b_eql32l b_neq32 b_neq32r b_neq32l b_lss32 b_lss32r b_lss32l b_leq32 b_leq32r b_leq32l b_gtr32 b_gtr32r b_gtr32l b_geq32 b_geq32r b_geq32l b_quo32r b_rem32r b_shl32r b_shr32r b_shl32l b_shr32l u_xor32 g_eql32 g_neq32 g_eql32' g_neq32' one64 st64 cm64 b_and64 b_and64r b_and64l b_or64 b_or64r b_or64l b_xor64 b_xor64r b_xor64l b_andNot64 b_andNot64r b_andNot64l b_add64 b_add64r b_add64l b_sub64 b_sub64r b_sub64l b_mul64 b_mul64r b_mul64l b_eql64 b_eql64r b_eql64l b_neq64 b_neq64r b_neq64l b_lss64 b_lss64r b_lss64l b_leq64 b_leq64r b_leq64l b_gtr64 b_gtr64r b_gtr64l b_geq64 b_geq64r b_geq64l b_quo64r b_rem64r b_shl64r b_shr64r b_shl64l b_shr64l u_xor64 g_eql64 g_neq64 g_eql64' g_neq64' c_u8_u8 c_u8_u32 c_u8_u64 c_i_u8 c_u32_u8 c_u32_u32 c_u32_u64 c_i_u32 c_u64_u8 c_u64_u32 c_u64_u64 c_i_u64 c_u8_i c_u32_i
attribute [local go_sem ↓] ce8 ce32 ce64
attribute [local go_sem ↓] sliced_slp loadO25 storeO25 loadO44 storeO44 loadO35 loadO84 storeO84 buildO44 buildO25 buildO35 buildO23 loadO37 storeO37
/-- What a ladder is behind a step. -/
def Lad.step (L : Lad) (s : St) : Lad :=
  if (s.kind == 1) = true then L.afterPost s.commit s.by_ s.inbox s.now
  else if (s.kind == 2) = true then L.afterConf s.now
  else if (s.kind == 3) = true then L.afterDrop s.number
  else if (s.kind == 4) = true then L.afterHold s.number s.now
  else if (s.kind == 5) = true then L.afterRel s.number
  else L
theorem Lad.Ok.step {L : Lad} {n : Nat} (h : L.Ok n) (s : St) : (L.step s).Ok (n + 1) := by
  unfold Lad.step
  split
  · exact h.post _ _ _ _
  split
  · exact h.conf _
  split
  · exact h.drop _
  split
  · exact h.hold _ _
  split
  · exact h.rel _
  · exact h.up (Nat.le_succ n)
set_option maxRecDepth 100000 in
theorem do_step (B g : Nat) (v : Value) (L : Lad) (w : World) (h : IsL w B g v L) (n : Nat) (hn : n ≤ 1048576) (hk : L.Ok n) (s : St) :
    Calls Try.prog 23 #[.pointer (some ⟨g, 0, none⟩), sv s] w (LadPost B g v (L.step s) (.tuple #[]) w) := by
  have HI := Lib.hid (h.mod0 ((Mod.refl [] w).alloc (.cells s.cells.toArray 37)))
  have HK := Lib.hid hk
  have M := (Mod.refl [] w).alloc (.cells s.cells.toArray 37)
  have hb := box_st (hp_new w (.cells s.cells.toArray 37) _ rfl)
  have hk5 := hb.k
  have hi5 := hb.i
  have hn5 := hb.n
  have hu5 := hb.u
  have hc5 := hb.c
  have ha5 := hb.a
  have done : ∀ (L' : Lad) (r : Value) (e : Ending) (w' : World), LadPost B g v L' r (w.alloc (.cells s.cells.toArray 37)) e w' → e = .returned r ∧ LadPost B g v L' (.tuple #[]) w (.returned (.tuple #[])) w' := by
    rintro L' r e w' ⟨v', rfl, h1, h2, h3⟩
    refine ⟨rfl, v', rfl, h1, (M.mono (by simp)).trans h2 (fun x hx => .inl hx), fun x hx => ?_⟩
    rcases h3 x hx with h4 | h4
    · exact .inl h4
    · exact .inr (Nat.le_trans M.size h4)
  have hways : ((s.kind == 1) = true) ∨ ((s.kind == 1) = false ∧ (s.kind == 2) = true) ∨ ((s.kind == 1) = false ∧ (s.kind == 2) = false ∧ (s.kind == 3) = true) ∨ ((s.kind == 1) = false ∧ (s.kind == 2) = false ∧ (s.kind == 3) = false ∧ (s.kind == 4) = true) ∨ ((s.kind == 1) = false ∧ (s.kind == 2) = false ∧ (s.kind == 3) = false ∧ (s.kind == 4) = false ∧ (s.kind == 5) = true) ∨ ((s.kind == 1) = false ∧ (s.kind == 2) = false ∧ (s.kind == 3) = false ∧ (s.kind == 4) = false ∧ (s.kind == 5) = false) := by
    cases (s.kind == 1) <;> cases (s.kind == 2) <;> cases (s.kind == 3) <;> cases (s.kind == 4) <;> cases (s.kind == 5) <;> simp
  clear hb h hk
  unfold sv Lad.step
  rcases hways with d1 | ⟨d1, d2⟩ | ⟨d1, d2, d3⟩ | ⟨d1, d2, d3, d4⟩ | ⟨d1, d2, d3, d4, d5⟩ | ⟨d1, d2, d3, d4, d5⟩
  case inl =>
    rw [if_pos d1]
    go_enter Try.func23, Try.ntmps23
    go_wp2_with fail
    refine (post_step B g v L _ HI.out n hn HK.out _ _ _ _).mono ?_
    rintro e w6 h6
    obtain ⟨rfl, h7⟩ := done _ _ _ _ h6
    go_wp2_with fail
    go_end0
    exact h7
  case inr.inl =>
    rw [d1, if_neg (by simp), if_pos d2]
    go_enter Try.func23, Try.ntmps23
    go_wp2_with fail
    refine (conf_step B g v L _ HI.out n HK.out _).mono ?_
    rintro e w6 h6
    obtain ⟨rfl, h7⟩ := done _ _ _ _ h6
    go_wp2_with fail
    go_end0
    exact h7
  case inr.inr.inl =>
    rw [d1, d2, if_neg (by simp), if_neg (by simp), if_pos d3]
    go_enter Try.func23, Try.ntmps23
    go_wp2_with fail
    refine (drop_step B g v L _ HI.out n HK.out _).mono ?_
    rintro e w6 ⟨r6, v6, rfl, _, h1, h2, h3⟩
    obtain ⟨_, h7⟩ := done _ (.tuple #[]) _ _ ⟨v6, rfl, h1, h2, fun x hx => .inl (by rw [← h3]; exact hx)⟩
    clear h1 h2 h3
    go_wp2_with fail
    go_end0
    exact h7
  case inr.inr.inr.inl =>
    rw [d1, d2, d3, if_neg (by simp), if_neg (by simp), if_neg (by simp), if_pos d4]
    go_enter Try.func23, Try.ntmps23
    go_wp2_with fail
    refine (hold_step B g v L _ HI.out n hn HK.out _ _).mono ?_
    rintro e w6 h6
    obtain ⟨rfl, h7⟩ := done _ _ _ _ h6
    go_wp2_with fail
    go_end0
    exact h7
  case inr.inr.inr.inr.inl =>
    rw [d1, d2, d3, d4, if_neg (by simp), if_neg (by simp), if_neg (by simp), if_neg (by simp), if_pos d5]
    go_enter Try.func23, Try.ntmps23
    go_wp2_with fail
    refine (rel_step B g v L _ HI.out n hn HK.out _).mono ?_
    rintro e w6 h6
    obtain ⟨rfl, h7⟩ := done _ _ _ _ h6
    go_wp2_with fail
    go_end0
    exact h7
  case inr.inr.inr.inr.inr =>
    rw [d1, d2, d3, d4, d5, if_neg (by simp), if_neg (by simp), if_neg (by simp), if_neg (by simp), if_neg (by simp)]
    go_enter Try.func23, Try.ntmps23
    go_wp2_with fail
    go_end0
    exact (done L (.tuple #[]) _ _ ⟨v, rfl, HI.out, Mod.refl _ _, fun x hx => .inl hx⟩).2
theorem pick_any (c n : Int) (w : World) (h0 : -9223372036854775808 ≤ c) (h1 : c ≤ 9223372036854775807) (hn : 0 < n) (hn1 : n ≤ 9223372036854775807) :
    Calls Try.prog 22 #[.int .i64 c, .int .i64 n] w fun e w' => (∃ k : Nat, (k : Int) < n ∧ e = .returned (.int .i64 k)) ∧ w = w' := by
  by_cases hc : c < 0
  · have hd : decide (c < 0) = true := by simpa using hc
    go_enter Try.func22, Try.ntmps22
    go_wp2_with fail
    go_ret
    have e1 : -(c + 1).tmod n = (-(c + 1)) % n := by rw [← Int.neg_tmod, Int.tmod_eq_emod_of_nonneg (by omega)]
    have h2 := Int.emod_nonneg (-(c + 1)) (show n ≠ 0 by omega)
    have h3 := Int.emod_lt_of_pos (-(c + 1)) hn
    refine ⟨⟨((-(c + 1)) % n).toNat, by omega, ?_⟩, rfl⟩
    show Ending.returned (Value.int .i64 (-(c + 1).tmod n)) = _
    rw [e1, Int.toNat_of_nonneg h2]
  · have hd : decide (c < 0) = false := by simpa using hc
    go_enter Try.func22, Try.ntmps22
    go_wp2_with fail
    go_ret
    have h2 := Int.emod_nonneg c (show n ≠ 0 by omega)
    have h3 := Int.emod_lt_of_pos c hn
    refine ⟨⟨(c % n).toNat, by omega, ?_⟩, rfl⟩
    show Ending.returned (Value.int .i64 (c % n)) = _
    rw [Int.toNat_of_nonneg h2]
end Go.Proofs.Ytmjdfglidfdkaaa
