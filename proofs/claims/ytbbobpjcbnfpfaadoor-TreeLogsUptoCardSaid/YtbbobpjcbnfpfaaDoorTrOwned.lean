/- append of one digest, in detail; a store into a list of the call's own; marked. Condition: fewer than 2^32 digests. -/
import Derived.Test.YtbbobpjcbnfpfaaDoorTrSame
import Derived.Test.YtbbobpjcbnfpfaaDoorTrClash
namespace Go.Proofs.YtbbobpjcbnfpfaaDoor
open Go.RowKit
attribute [local go_sem high] one8 st8 cm8 b_and8 b_and8r b_and8l b_or8 b_or8r b_or8l b_xor8 b_xor8r b_xor8l b_andNot8 b_andNot8r b_andNot8l b_add8 b_add8r b_add8l b_sub8 b_sub8r b_sub8l b_mul8 b_mul8r b_mul8l b_eql8 b_eql8r b_eql8l b_neq8 b_neq8r b_neq8l b_lss8 b_lss8r b_lss8l b_leq8 b_leq8r b_leq8l b_gtr8 b_gtr8r b_gtr8l b_geq8 b_geq8r b_geq8l b_quo8r b_rem8r b_shl8r b_shr8r b_shl8l b_shr8l u_xor8 g_eql8 g_neq8 g_eql8' g_neq8' one32 st32 cm32 b_and32 b_and32r b_and32l b_or32 b_or32r b_or32l b_xor32 b_xor32r b_xor32l b_andNot32 b_andNot32r b_andNot32l b_add32 b_add32r b_add32l b_sub32 b_sub32r b_sub32l b_mul32 b_mul32r b_mul32l b_eql32 b_eql32r b_eql32l b_neq32 b_neq32r b_neq32l b_lss32 b_lss32r b_lss32l b_leq32 b_leq32r b_leq32l b_gtr32 b_gtr32r b_gtr32l b_geq32 b_geq32r b_geq32l b_quo32r b_rem32r b_shl32r b_shr32r b_shl32l b_shr32l u_xor32 g_eql32 g_neq32 g_eql32' g_neq32' one64 st64 cm64 b_and64 b_and64r b_and64l b_or64 b_or64r b_or64l b_xor64 b_xor64r b_xor64l b_andNot64 b_andNot64r b_andNot64l b_add64 b_add64r b_add64l b_sub64 b_sub64r b_sub64l b_mul64 b_mul64r b_mul64l b_eql64 b_eql64r b_eql64l b_neq64 b_neq64r b_neq64l b_lss64 b_lss64r b_lss64l b_leq64 b_leq64r b_leq64l b_gtr64 b_gtr64r b_gtr64l b_geq64 b_geq64r b_geq64l b_quo64r b_rem64r b_shl64r b_shr64r b_shl64l b_shr64l u_xor64 g_eql64 g_neq64 g_eql64' g_neq64' c_u8_u8 c_u8_u32 c_u8_u64 c_i_u8 c_u32_u8 c_u32_u32 c_u32_u64 c_i_u32 c_u64_u8 c_u64_u32 c_u64_u64 c_i_u64 c_u8_i c_u32_i
attribute [local go_sem ↓] ce8 ce32 ce64
attribute [local go_sem ↓] sliced_slp loadO26 storeO26 buildSlO42 buildO24
theorem run_appD2 (w : World) (ty : TypeId) (B : Nat) (v : Value) (l : List Bs) (hown : OwnD w B v l) (b : Nat) (d : Bs) (hr : w.heap[b]? = some (.cells (dgc d).toArray 24)) (hlen : l.length ≤ 4294967296) (hbase : B ≤ w.heap.size) :
    ∃ v' w', (Builtin.append_ #[42, 42] ty #[v, .slice (some ⟨b, 0, none⟩) 1 1]).run Tryd.prog w = .ok v' w' ∧ OwnD w' B v' (l ++ [d]) ∧ w.grownBy w' v.ownBlock ∧ (v'.ownBlock = v.ownBlock ∨ v'.ownBlock = some w.heap.size) ∧
      (∀ p c, v = .slice p l.length c → RdD w' p c l) := by
  obtain ⟨i0, hi, hz0, hz1, hz2⟩ := info_parts infoD
  have hT := Tryd.underlying42
  have hnews : ∀ j u, (([d] : List Bs).flatMap dgc)[j]? = some u → w.cell? ((⟨b, 0, none⟩ : Addr).add j) = some u := fun j u hj => by
    rw [Addr.add_mid, cell_blk hr, Nat.zero_add, List.getElem?_toArray]
    simpa using hj
  have hone := flat_one [d]
  have hln : (([d] : List Bs).flatMap dgc).length = 1 * 32 := by rw [length_flatMap_const dgc 32 dgc_len]; rfl
  have hm : l.length + 1 ≤ maxLen := by unfold maxLen; omega
  obtain ⟨v', w', hrun, h2, h3, _, h5⟩ := run_append_own_at (P := Tryd.prog) w B 42 ty 24 i0 (dv (zeros 32)) 32 32 hT hi hz0 hz1 hz2 (by rw [dv_cells]; simp [zeros_length]) (by omega) v l.length (l.flatMap dgc) hown ⟨b, 0, none⟩ 1 1 ([d].flatMap dgc) hln hnews hone hm (by omega) hbase
  have hO : OwnD w' B v' (l ++ [d]) := by unfold OwnD OwnN; rw [List.flatMap_append, List.length_append]; exact h2
  refine ⟨v', w', hrun, hO, h3, h5, fun p c hv => ?_⟩
  have hrd := hown.rd
  obtain ⟨p0, c0, e0, hrd, _⟩ := hrd
  rw [hv] at e0
  injection e0 with e1 _ e2
  subst e1 e2
  rcases hown.2 with ⟨hv2, h0⟩ | ⟨g, cap, cur, hv2, _, hg, hnc, hcm, hcs, htake⟩
  · obtain rfl : l = [] := List.eq_nil_of_length_eq_zero h0
    exact RdN.nil _ _ _ _ _
  · have hv2' := hv2
    rw [hv] at hv2
    injection hv2 with e1 _ e2
    subst e1 e2
    by_cases hroom : l.length + 1 ≤ c
    · have hfit : l.length * i0.size + ([d].flatMap dgc).length ≤ cur.size := by rw [hln, hcs, hz1]; omega
      have hr2 := run_append_room (P := Tryd.prog) w 42 ty 24 i0 hT hi g l.length c cur hg ⟨b, 0, none⟩ 1 1 ([d].flatMap dgc) (by rw [hln, hz1]) hnews hone hroom hfit
      rw [hv, hr2] at hrun
      injection hrun with hv' hw'
      subst hw'
      obtain ⟨p1, c1, e3, hrd1, _⟩ := hO.rd
      rw [← hv'] at e3
      injection e3 with e4 _ e5
      subst e4 e5
      have h := hrd1.take l.length
      rwa [List.take_left' rfl] at h
    · have holds : ∀ j u, (l.flatMap dgc)[j]? = some u → w.cell? ((⟨g, 0, none⟩ : Addr).add j) = some u := World.ownsRow.cells hown (g := g) (by rw [hv]; rfl)
      have hr2 := run_append_grow (P := Tryd.prog) w 42 ty 24 i0 (dv (zeros 32)) hT hi hz0 ⟨g, 0, none⟩ l.length c (l.flatMap dgc) (by rw [length_flatMap_const dgc 32 dgc_len, hz1]) holds ⟨b, 0, none⟩ 1 1 ([d].flatMap dgc) (by rw [hln, hz1]) hnews (by omega) (by omega) (growslice_fits (by omega) (by rw [hz2]; omega))
      rw [hv, hr2] at hrun
      injection hrun with hv' hw'
      subst hw'
      exact hrd.mod0 ((Mod.refl [] w).drew.alloc _)
/-- append(list, d) at a call. -/
theorem wpList_appD2 {ops : Array Oper} {rest : List Oper} {o : Oper} {a : Act} {Q : Exit → Act → World → Prop} {w : World} (hgd : o.guard = none) (so x : Operand)
    (ho : o.op = .call { callee := .builtin .append, args := #[so, x], argTypes := #[42, 42] })
    (B : Nat) (v : Value) (l : List Bs) (hown : OwnD w B v l) (hs : a.eval so = v) (b : Nat) (d : Bs) (hx : a.eval x = .slice (some ⟨b, 0, none⟩) 1 1)
    (hr : w.heap[b]? = some (.cells (dgc d).toArray 24)) (hlen : l.length ≤ 4294967296) (hbase : B ≤ w.heap.size)
    (h : ∀ v' w', OwnD w' B v' (l ++ [d]) → w.grownBy w' v.ownBlock → (v'.ownBlock = v.ownBlock ∨ v'.ownBlock = some w.heap.size) → (∀ p c, v = .slice p l.length c → RdD w' p c l) → wpList Tryd.prog ops Q rest (a.put o.dst v') w') : wpList Tryd.prog ops Q (o :: rest) a w := by
  obtain ⟨v', w', hrun, h1, h2, h3, h4⟩ := run_appD2 w o.type B v l hown b d hr hlen hbase
  refine wpList_plain hgd fun K hK => ?_
  unfold Oper.wp
  simp [execOp, ho, resolve, invoke, builtin, hs, hx, hrun, Result.andThen]
  exact hK _ _ (h v' w' h1 h2 h3 h4)
theorem take_mid {α : Type} (C X : List α) (a b m : Nat) (hX : a + X.length = b) (hb : b ≤ m) (hm : m ≤ C.length) : (C.take a ++ (X ++ C.drop b)).take m = (C.take m).take a ++ (X ++ (C.take m).drop b) := by
  rw [List.take_append, List.take_take, List.take_append, List.length_take, Nat.min_eq_left (show a ≤ C.length by omega), List.take_take, Nat.min_eq_right (show a ≤ m by omega), Nat.min_eq_left (show a ≤ m by omega), List.take_of_length_le (l := X) (by omega), List.drop_take, show m - a - X.length = m - b by omega]
theorem len_mid {α : Type} (C X : List α) (a b : Nat) (hX : a + X.length = b) (hb : b ≤ C.length) : (C.take a ++ (X ++ C.drop b)).length = C.length := by
  rw [List.length_append, List.length_append, List.length_take, List.length_drop]; omega
/-- A store into a list of the call's own. -/
theorem storeD_own {w : World} {B : Nat} {v : Value} {l : List Bs} (h : OwnD w B v l) (i : Nat) (x : Bs) (hi : i < l.length) (hx : x.length = 32) :
    ∃ g c C, v = .slice (some ⟨g, 0, none⟩) l.length c ∧ B ≤ g ∧ (StoreO 24 (.pointer (some ⟨g, i * 32, none⟩)) (dv x)).run Tryd.prog w = .ok () (w.setRow g C) ∧ OwnD (w.setRow g C) B v (l.set i x) ∧ Mod [g] w (w.setRow g C) := by
  rcases h.2 with ⟨hv, h0⟩ | ⟨g, cap, cur, hv, hB, hg, hnc, hcm, hcs, htake⟩
  · omega
  · have h1 : (x.map V8).toArray.size = 32 := by simp [hx]
    have hs := storeO_blk (P := Tryd.prog) (ty := 24) (o := i * 32) (cells := (x.map V8).toArray) hg (by rw [h1, hcs]; omega) (by rw [h1]; exact info26) (by rw [Array.all_eq_true_iff_forall_mem]; intro v hv; simp at hv; obtain ⟨a, _, rfl⟩ := hv; exact one8 a)
    have hfl := length_flatMap_const dgc 32 dgc_len l
    have hcl : cur.toList.length = cap * 32 := by simpa using hcs
    refine ⟨g, cap, _, hv, hB, hs, ⟨?_, .inr ⟨g, cap, _, by rw [List.length_set]; exact hv, hB, hp_setRow hg, by rw [List.length_set]; exact hnc, hcm, ?_, ?_⟩⟩, (Mod.refl [g] w).setRow (.inl (by simp)) _⟩
    · rw [length_flatMap_const dgc 32 dgc_len]
    · rw [h1, List.size_toArray, ← hcl]
      exact len_mid _ _ _ _ (by rw [List.length_map, hx]) (by rw [hcl]; omega)
    · rw [List.length_set, flat_set l i x hi, ← htake, h1, dgc_of hx]
      exact take_mid _ _ _ _ _ (by rw [List.length_map, hx]) (by omega) (by rw [hcl]; omega)
end Go.Proofs.YtbbobpjcbnfpfaaDoor
namespace Go.Proofs.YtbbobpjcbnfpfaaDoor
open Go.RowKit
attribute [local go_sem high] one8 st8 cm8 b_and8 b_and8r b_and8l b_or8 b_or8r b_or8l b_xor8 b_xor8r b_xor8l b_andNot8 b_andNot8r b_andNot8l b_add8 b_add8r b_add8l b_sub8 b_sub8r b_sub8l b_mul8 b_mul8r b_mul8l b_eql8 b_eql8r b_eql8l b_neq8 b_neq8r b_neq8l b_lss8 b_lss8r b_lss8l b_leq8 b_leq8r b_leq8l b_gtr8 b_gtr8r b_gtr8l b_geq8 b_geq8r b_geq8l b_quo8r b_rem8r b_shl8r b_shr8r b_shl8l b_shr8l u_xor8 g_eql8 g_neq8 g_eql8' g_neq8' one32 st32 cm32 b_and32 b_and32r b_and32l b_or32 b_or32r b_or32l b_xor32 b_xor32r b_xor32l b_andNot32 b_andNot32r b_andNot32l b_add32 b_add32r b_add32l b_sub32 b_sub32r b_sub32l b_mul32 b_mul32r b_mul32l b_eql32 b_eql32r b_eql32l b_neq32 b_neq32r b_neq32l b_lss32 b_lss32r b_lss32l b_leq32 b_leq32r b_leq32l b_gtr32 b_gtr32r b_gtr32l b_geq32 b_geq32r b_geq32l b_quo32r b_rem32r b_shl32r b_shr32r b_shl32l b_shr32l u_xor32 g_eql32 g_neq32 g_eql32' g_neq32' one64 st64 cm64 b_and64 b_and64r b_and64l b_or64 b_or64r b_or64l b_xor64 b_xor64r b_xor64l b_andNot64 b_andNot64r b_andNot64l b_add64 b_add64r b_add64l b_sub64 b_sub64r b_sub64l b_mul64 b_mul64r b_mul64l b_eql64 b_eql64r b_eql64l b_neq64 b_neq64r b_neq64l b_lss64 b_lss64r b_lss64l b_leq64 b_leq64r b_leq64l b_gtr64 b_gtr64r b_gtr64l b_geq64 b_geq64r b_geq64l b_quo64r b_rem64r b_shl64r b_shr64r b_shl64l b_shr64l u_xor64 g_eql64 g_neq64 g_eql64' g_neq64' c_u8_u8 c_u8_u32 c_u8_u64 c_i_u8 c_u32_u8 c_u32_u32 c_u32_u64 c_i_u32 c_u64_u8 c_u64_u32 c_u64_u64 c_i_u64 c_u8_i c_u32_i
attribute [local go_sem ↓] ce8 ce32 ce64
attribute [local go_sem ↓] sliced_slp loadO26 storeO26 buildSlO42 buildO24
def dm (m : UInt8) : Bs := m :: zeros 31
theorem dm_len (m : UInt8) : (dm m).length = 32 := by rw [dm, List.length_cons, zeros_length]
theorem built_dm (m : UInt8) : Tryd.prog.built 24 [(0, V8 m)] = some ((dm m).map V8).toArray := by kernel_rfl
theorem run_dm (m : UInt8) (w : World) : (BuildO 24 #[(0, V8 m)]).run Tryd.prog w = .ok (dv (dm m)) w := run_build w _ _ _ (built_dm m)
def dms (m : UInt8) (n : Nat) : List Bs := List.replicate n (dm m)
theorem dms_len (m : UInt8) (n : Nat) : (dms m n).length = n := by simp [dms]
theorem dms_succ (m : UInt8) (n : Nat) : dms m (n + 1) = dms m n ++ [dm m] := by simp [dms, List.replicate_succ']
theorem dms_32 (m : UInt8) (n : Nat) : All32 (dms m n) := by
  intro x hx
  rw [List.eq_of_mem_replicate hx]; exact dm_len m
theorem dms_get (m : UInt8) (n i : Nat) (h : i < n) : (dms m n)[i]? = some (dm m) := by simp [dms, h]
theorem dms_set (m : UInt8) (l : List Bs) (i : Nat) (h : i < l.length) : (dms m i ++ l.drop i).set i (dm m) = dms m (i + 1) ++ l.drop (i + 1) := by
  rw [List.set_append_right _ _ (by simp [dms_len]), dms_len, Nat.sub_self, List.drop_eq_getElem_cons h, List.set_cons_zero, dms_succ, List.append_assoc]
  rfl
set_option maxRecDepth 100000 in
theorem marked_any (n : Nat) (m : UInt8) (w : World) (hn : n ≤ 2147483648) :
    Calls Tryd.prog 68 #[.int .i64 n, V8 m] w fun e w' => ∃ v, e = .returned v ∧ OwnD w' w.heap.size v (dms m n) ∧ Mod [] w w' := by
  have HR := Lib.hid (run_dm m)
  have HL := Lib.hid (dm_len m)
  obtain ⟨D, hD⟩ : ∃ D, D = dm m := ⟨_, rfl⟩
  rw [← hD] at HR HL
  have HD := Lib.hid hD
  clear hD
  go_enter Tryd.func68, Tryd.ntmps68
  go_wp2_with fail
  go_loopw [5, 6] (fun v iv wr => ∃ (k : Nat) (vl : Value), k ≤ n ∧ iv = .int .i64 k ∧ v = vl ∧ OwnD wr w.heap.size vl (dms m k) ∧ Mod [] w wr) (fun _ iv _ => n - (intOf iv).toNat)
  case atStart => exact ⟨0, _, by omega, rfl, rfl, OwnN.nil _ _ _ _ _, Mod.refl _ _⟩
  case round =>
    obtain ⟨k, vl, hk, rfl, rfl, hown, hm⟩ := hrel
    have HO := Lib.hid hown
    have HM := Lib.hid hm
    obtain ⟨pv, cv, rfl, hrd, _⟩ := hown.rd
    rw [dms_len]
    clear hown hm hrd
    by_cases hlt : k < n
    · have q0 : (0 : Int) ≤ (k : Int) := by omega
      have q1 : (k : Int) < (n : Int) := by omega
      have hB := HR.out
      have hBS := run_buildD wr D HL.out
      go_wp2_with (at_builtin; with_reducible refine froz_app _ _ rfl ?_)
      unfold Froz
      have hown := HO.out
      rw [dms_len] at hown
      refine pushD rfl _ _ rfl w.heap.size _ (dms m k) (hown.alloc _) rfl wr.heap.size D rfl (hp_new _ _ _ rfl) (by rw [dms_len]; omega) (by have := HM.out.size; simp; omega) ?_
      intro v8 w8 ho8 hg8
      have HO8 := Lib.hid (show OwnD w8 w.heap.size v8 (dms m (k + 1)) from by rw [dms_succ, ← HD.out]; exact ho8)
      have HM8 := Lib.hid ((HM.out.alloc _).of_grown hg8 (fun g hg => .inr (hown.row g hg)))
      clear ho8 hg8 hown hB hBS
      go_wp2_with fail
      go_roundw
      case rel => exact ⟨k + 1, _, by omega, by go_num, rfl, HO8.out, HM8.out⟩
      case measure => simp [intOf]; omega
    · have hkk : k = n := by omega
      have hd : decide ((k : Int) < (n : Int)) = false := by simp; omega
      subst hkk
      go_wp2_with fail
      go_ret
      have hown := HO.out
      rw [dms_len] at hown
      exact ⟨_, rfl, hown, HM.out⟩
/-- Mod over the blocks of a list that grows. -/
theorem mod_grown {w1 w' wr : World} {v : Value} (h : Mod [] wr w1) (hg : w1.grownBy w' v.ownBlock) : Mod v.ownBlock.toList wr w' := (h.mono (fun _ hx => by cases hx)).of_grown hg (fun g hg => .inl (by simp [hg]))
theorem mem_ob {v : Value} {x : Nat} (h : x ∈ v.ownBlock.toList) : v.ownBlock = some x := by simpa using h
/-- A list of marks that grows, and what it was. -/
structure Gw (w0 wr : World) (B : Nat) (v0 : Value) (m : UInt8) (n : Nat) (vl : Value) (j : Nat) : Prop where
  own : OwnD wr B vl (dms m (n + j))
  old : ∀ p c, v0 = .slice p n c → RdD wr p c (dms m n)
  blk : vl.ownBlock = v0.ownBlock ∨ ∀ g, vl.ownBlock = some g → w0.heap.size ≤ g
  off : ∀ g, v0.ownBlock = some g → g < w0.heap.size ∧ ∃ c, v0 = .slice (some ⟨g, 0, none⟩) n c
theorem Gw.keep {w0 wr w' : World} {B n j : Nat} {v0 vl : Value} {m : UInt8} {T : List Nat} (h : Gw w0 wr B v0 m n vl j) (k : Mod T wr w') (h1 : ∀ x ∈ T, vl.ownBlock ≠ some x) (h2 : ∀ x ∈ T, v0.ownBlock ≠ some x) : Gw w0 w' B v0 m n vl j :=
  ⟨h.own.mod k h1, fun p c hv => (h.old p c hv).mod k (fun _ a ha hx => h2 _ hx (by rw [hv, ha]; rfl)), h.blk, h.off⟩
theorem OwnD.form {w : World} {B : Nat} {v : Value} {l : List Bs} (h : OwnD w B v l) : ∀ g, v.ownBlock = some g → ∃ c, v = .slice (some ⟨g, 0, none⟩) l.length c := by
  intro g hg
  rcases h.2 with ⟨rfl, _⟩ | ⟨g', cap, cur, rfl, _⟩
  · cases hg
  · injection hg with hg
    simp only at hg
    subst hg
    exact ⟨_, rfl⟩
theorem Gw.start {w0 wr : World} {B n : Nat} {v0 : Value} {m : UInt8} (h : OwnD wr B v0 (dms m n)) (h0 : ∀ g, v0.ownBlock = some g → g < w0.heap.size) : Gw w0 wr B v0 m n v0 0 :=
  ⟨h, fun p c hv => by
    obtain ⟨p', c', e, hr, _⟩ := h.rd
    rw [hv] at e
    injection e with e1 _ e2
    subst e1 e2
    exact hr, .inl rfl, fun g hg => ⟨h0 g hg, by have := h.form g hg; rwa [dms_len] at this⟩⟩
theorem Gw.step {w0 wr w1 w' : World} {B n j : Nat} {v0 vl v' : Value} {m : UInt8} (h : Gw w0 wr B v0 m n vl j) (k0 : w0.heap.size ≤ wr.heap.size) (k1 : Mod [] wr w1) (ho : OwnD w' B v' (dms m (n + j) ++ [dm m])) (hg : w1.grownBy w' vl.ownBlock) (h5 : v'.ownBlock = vl.ownBlock ∨ v'.ownBlock = some w1.heap.size)
    (h4 : ∀ p c, vl = .slice p (dms m (n + j)).length c → RdD w' p c (dms m (n + j))) : Gw w0 w' B v0 m n v' (j + 1) := by
  have hT := mod_grown k1 hg
  refine ⟨by rw [← Nat.add_assoc, dms_succ]; exact ho, fun p c hv => ?_, ?_, h.off⟩
  · rcases h.blk with hb | hb
    · cases hob : v0.ownBlock with
      | none =>
        have h0 := h.old p c hv
        rcases Nat.eq_zero_or_pos n with hn | hn
        · subst hn; exact RdN.nil _ _ _ _ _
        · obtain ⟨b, o, e, _⟩ := h0.at_ (by intro hx; have := congrArg List.length hx; rw [dms_len] at this; simp at this; omega)
          rw [hv, e] at hob
          cases hob
      | some g =>
        obtain ⟨_, c0, e0⟩ := h.off g hob
        have hle := (h.old p c hv).le
        rw [hv] at e0
        injection e0 with e1 _ e2
        subst e1 e2
        obtain ⟨c1, e3⟩ := h.own.form g (hb.trans hob)
        have h6 := (h4 _ _ e3).take n
        have e7 : (dms m (n + j)).take n = dms m n := by simp [dms, List.take_replicate]
        rw [e7] at h6
        exact ⟨hle, h6.at_⟩
    · exact (h.old p c hv).mod hT (fun _ a ha hx => by
        have h1 := hb _ (mem_ob hx)
        have h2 := (h.off a.block (by rw [hv, ha]; rfl)).1
        omega)
  · rcases h5 with h5 | h5
    · rw [h5]; exact h.blk
    · refine .inr (fun g hg => ?_)
      rw [h5] at hg
      injection hg with hg
      have := k1.size
      omega
/-- Where another list does not lie. -/
theorem apart_step {wr w1 : World} {vl v' u : Value} (k1 : Mod [] wr w1) (h5 : v'.ownBlock = vl.ownBlock ∨ v'.ownBlock = some w1.heap.size) (hu : ∀ g, u.ownBlock = some g → g < wr.heap.size) (hd : ∀ g, vl.ownBlock = some g → u.ownBlock ≠ some g) : ∀ g, v'.ownBlock = some g → u.ownBlock ≠ some g := by
  intro g hg hx
  rcases h5 with h5 | h5
  · exact hd g (h5.symm.trans hg) hx
  · rw [h5] at hg
    injection hg with hg
    have h1 := hu g hx
    have h2 := k1.size
    omega
/-- same, of two own lists with one content. -/
theorem same_own {w : World} {B B' : Nat} {v u : Value} {l : List Bs} (h : OwnD w B v l) (h' : OwnD w B' u l) (al : All32 l) (hl : l.length ≤ 2147483648) :
    ∀ {p q : Option Addr} {c d : Nat}, v = .slice p l.length c → u = .slice q l.length d → Calls Tryd.prog 29 #[.slice p l.length c, .slice q l.length d] w fun e w' => e = .returned (.bool true) ∧ Mod [] w w' := by
  rintro p q c d rfl rfl
  obtain ⟨p', c', e, hr, _⟩ := h.rd
  injection e with e1 _ e2
  subst e1 e2
  obtain ⟨p', c', e, hr', _⟩ := h'.rd
  injection e with e1 _ e2
  subst e1 e2
  have := same_any l l _ _ _ _ _ _ w rfl rfl hr hr' al al (by omega) (by omega)
  rwa [beq_self_eq_true] at this
/-- What the owners' test leaves. -/
structure Owned2 (w : World) (va vb : Value) (n k : Nat) (w' : World) : Prop where
  a : ∀ p c, va = .slice p n c → RdD w' p c (dms 11 n)
  b : ∀ p c, vb = .slice p k c → RdD w' p c (dms 22 k)
  md : Mod (va.ownBlock.toList ++ vb.ownBlock.toList) w w'
set_option maxRecDepth 100000 in
set_option maxHeartbeats 2000000 in
theorem owned_any (va vb : Value) (la lb : List Bs) (B : Nat) (w : World) (ha : OwnD w B va la) (hb : OwnD w B vb lb) (hdis : ∀ g, va.ownBlock = some g → vb.ownBlock ≠ some g) (hBw : B ≤ w.heap.size) (hla : la.length ≤ 1073741824) (hlb : lb.length ≤ 1073741824) :
    Calls Tryd.prog 55 #[va, vb] w fun e w' => e = .returned (.bool true) ∧ Owned2 w va vb la.length lb.length w' := by
  have HAL := Lib.hid (fun g hg => ha.lt g hg)
  have HBL := Lib.hid (fun g hg => hb.lt g hg)
  have HDIS := Lib.hid hdis
  obtain ⟨pa, ca, rfl, hra, _⟩ := ha.rd
  obtain ⟨pb, cb, rfl, hrb, _⟩ := hb.rd
  obtain ⟨n, hn⟩ : ∃ n, n = la.length := ⟨_, rfl⟩
  obtain ⟨k, hk⟩ : ∃ k, k = lb.length := ⟨_, rfl⟩
  rw [← hn] at ha hla HAL HDIS ⊢
  rw [← hk] at hb hlb HBL HDIS ⊢
  obtain ⟨S, hS⟩ : ∃ S, S = (Value.slice pa n ca).ownBlock.toList ++ (Value.slice pb k cb).ownBlock.toList := ⟨_, rfl⟩
  have HSA := Lib.hid (show ∀ g, (Value.slice pa n ca).ownBlock = some g → g ∈ S from fun g hg => by rw [hS]; simp [hg])
  have HSB := Lib.hid (show ∀ g, (Value.slice pb k cb).ownBlock = some g → g ∈ S from fun g hg => by rw [hS]; simp [hg])
  have HA := Lib.hid ha
  have HB := Lib.hid hb
  have HN := Lib.hid hn
  have HK := Lib.hid hk
  have HS := Lib.hid hS
  obtain ⟨D1, hD1⟩ : ∃ D, D = dm 11 := ⟨_, rfl⟩
  obtain ⟨D2, hD2⟩ : ∃ D, D = dm 22 := ⟨_, rfl⟩
  have HR1 := Lib.hid (show ∀ w : World, (BuildO 24 #[(0, .int .u8 11)]).run Tryd.prog w = .ok (dv D1) w from by rw [hD1]; exact run_dm 11)
  have HR2 := Lib.hid (show ∀ w : World, (BuildO 24 #[(0, .int .u8 22)]).run Tryd.prog w = .ok (dv D2) w from by rw [hD2]; exact run_dm 22)
  have HL1 := Lib.hid (show D1.length = 32 from by rw [hD1]; exact dm_len 11)
  have HL2 := Lib.hid (show D2.length = 32 from by rw [hD2]; exact dm_len 22)
  have HD1 := Lib.hid hD1
  have HD2 := Lib.hid hD2
  clear ha hb hdis hra hrb hn hk hS hD1 hD2
  go_enter Tryd.func55, Tryd.ntmps55
  go_wp2_with fail
  go_loopw [7] (fun iv wr => ∃ i : Nat, i ≤ n ∧ iv = .int .i64 i ∧ OwnD wr B (.slice pa n ca) (dms 11 i ++ la.drop i) ∧ OwnD wr B (.slice pb k cb) lb ∧ Mod S w wr) (fun iv _ => n - (intOf iv).toNat)
  case atStart => exact ⟨0, by omega, rfl, by simpa [dms] using HA.out, HB.out, Mod.refl _ _⟩
  case round =>
    obtain ⟨i, hi, rfl, hoa, hob, hm⟩ := hrel
    have HOB := Lib.hid hob
    have HM := Lib.hid hm
    by_cases hlt : i < n
    · obtain ⟨g, c, C, hv, hgB, hst, hon, hmn⟩ := storeD_own hoa i D1 (by have := HN.out; simp [dms_len]; omega) HL1.out
      have hob1 : (Value.slice pa n ca).ownBlock = some g := by rw [hv]; rfl
      have hon2 : OwnD (wr.setRow g C) B (.slice pa n ca) (dms 11 (i + 1) ++ la.drop (i + 1)) := by
        rw [HD1.out, dms_set 11 la i (by have := HN.out; omega)] at hon; exact hon
      have HON := Lib.hid hon2
      have HOB2 := Lib.hid (HOB.out.mod hmn (fun x hx => by rw [List.mem_singleton.1 hx]; exact HDIS.out g hob1))
      have HMN := Lib.hid (HM.out.trans hmn (fun x hx => .inl (by rw [List.mem_singleton.1 hx]; exact HSA.out g hob1)))
      injection hv with hv hz1 hz2
      subst hv
      clear hz1 hz2
      have hB := HR1.out wr
      have q0 : (0 : Int) ≤ (i : Int) := by omega
      have q1 : (i : Int) < (n : Int) := by omega
      clear hoa hob hm hon hon2 hob1 hmn
      go_wp2_with fail
      go_roundw
      case rel => exact ⟨i + 1, by omega, by go_num, HON.out, HOB2.out, HMN.out⟩
      case measure => simp [intOf]; omega
    · have hin : i = n := by omega
      have hd : decide ((i : Int) < (n : Int)) = false := by simp; omega
      have HOA := Lib.hid (show OwnD wr B (.slice pa n ca) (dms 11 n) from by
        rw [hin, List.drop_of_length_le (by have := HN.out; omega), List.append_nil] at hoa; exact hoa)
      clear hoa hob hm hin
      go_wp2_with fail
      go_loopw [8] (fun iv wr => ∃ i : Nat, i ≤ k ∧ iv = .int .i64 i ∧ OwnD wr B (.slice pa n ca) (dms 11 n) ∧ OwnD wr B (.slice pb k cb) (dms 22 i ++ lb.drop i) ∧ Mod S w wr) (fun iv _ => k - (intOf iv).toNat)
      case atStart => exact ⟨0, by omega, rfl, HOA.out, by simpa [dms] using HOB.out, HM.out⟩
      case round =>
        clear HOA HOB HM
        obtain ⟨i2, hi2, rfl, hoa, hob, hm⟩ := hrel
        have HOA := Lib.hid hoa
        have HM := Lib.hid hm
        by_cases hlt : i2 < k
        · obtain ⟨g, c, C, hv, hgB, hst, hon, hmn⟩ := storeD_own hob i2 D2 (by have := HK.out; simp [dms_len]; omega) HL2.out
          have hob1 : (Value.slice pb k cb).ownBlock = some g := by rw [hv]; rfl
          have hon2 : OwnD (wr.setRow g C) B (.slice pb k cb) (dms 22 (i2 + 1) ++ lb.drop (i2 + 1)) := by
            rw [HD2.out, dms_set 22 lb i2 (by have := HK.out; omega)] at hon; exact hon
          have HON := Lib.hid hon2
          have HOA2 := Lib.hid (HOA.out.mod hmn (fun x hx hy => by rw [List.mem_singleton.1 hx] at hy; exact HDIS.out g hy hob1))
          have HMN := Lib.hid (HM.out.trans hmn (fun x hx => .inl (by rw [List.mem_singleton.1 hx]; exact HSB.out g hob1)))
          injection hv with hv hz1 hz2
          subst hv
          clear hz1 hz2
          have hB := HR2.out wr
          have q0 : (0 : Int) ≤ (i2 : Int) := by omega
          have q1 : (i2 : Int) < (k : Int) := by omega
          clear hoa hob hm hon hon2 hob1 hmn
          go_wp2_with fail
          go_roundw
          case rel => exact ⟨i2 + 1, by omega, by go_num, HOA2.out, HON.out, HMN.out⟩
          case measure => simp [intOf]; omega
        · have hin : i2 = k := by omega
          have hd : decide ((i2 : Int) < (k : Int)) = false := by simp; omega
          have HOB := Lib.hid (show OwnD wr B (.slice pb k cb) (dms 22 k) from by
            rw [hin, List.drop_of_length_le (by have := HK.out; omega), List.append_nil] at hob; exact hob)
          clear hoa hob hm hin
          go_wp2_with fail
          go_loopw [0, 9] (fun v iv wr => ∃ (j : Nat) (vl : Value), j ≤ 20 ∧ iv = .int .i64 j ∧ v = vl ∧ Gw w wr B (.slice pa n ca) 11 n vl j ∧ (∀ g, vl.ownBlock = some g → (Value.slice pb k cb).ownBlock ≠ some g) ∧ OwnD wr B (.slice pb k cb) (dms 22 k) ∧ Mod S w wr) (fun _ iv _ => 20 - (intOf iv).toNat)
          case atStart => exact ⟨0, _, by omega, rfl, rfl, Gw.start HOA.out HAL.out, HDIS.out, HOB.out, HM.out⟩
          case round =>
            clear HOA HOB HM
            obtain ⟨j, vl, hj, rfl, rfl, hgw, hds, hob, hm⟩ := hrel
            have HGW := Lib.hid hgw
            have HDS := Lib.hid hds
            have HOB := Lib.hid hob
            have HM := Lib.hid hm
            obtain ⟨pl, cl, rfl, _⟩ := hgw.own.rd
            rw [dms_len]
            rw [dms_len] at HGW HDS
            clear hgw hds hob hm
            by_cases hlt : j < 20
            · have hB := HR1.out wr
              have hBS := run_buildD wr D1 HL1.out
              have hBw2 := HM.out.size
              go_wp2_with (at_builtin; with_reducible refine froz_app _ _ rfl ?_)
              unfold Froz
              refine wpList_appD2 rfl _ _ rfl B _ (dms 11 (n + j)) (HGW.out.own.alloc _) rfl wr.heap.size D1 rfl (hp_new _ _ _ rfl) (by rw [dms_len]; omega) (by simp; omega) ?_
              intro v8 w8 ho8 hg8 h58 h48
              have k1 := (Mod.refl [] wr).alloc (.cells (dgc D1).toArray 24)
              rw [HD1.out] at ho8
              have HGN := Lib.hid (HGW.out.step hBw2 k1 ho8 hg8 h58 h48)
              have HDN := Lib.hid (apart_step k1 h58 HOB.out.lt HDS.out)
              have hmg := mod_grown k1 hg8
              have HON := Lib.hid (HOB.out.mod hmg (fun x hx => HDS.out x (mem_ob hx)))
              have HMN := Lib.hid (HM.out.trans hmg (fun x hx => by
                rcases HGW.out.blk with hb | hb
                · exact .inl (HSA.out x (hb.symm.trans (mem_ob hx)))
                · exact .inr (hb x (mem_ob hx))))
              clear ho8 hg8 h58 h48 k1 hmg hB hBS
              go_wp2_with fail
              go_roundw
              case rel => exact ⟨j + 1, _, by omega, by go_num, rfl, HGN.out, HDN.out, HON.out, HMN.out⟩
              case measure => simp [intOf]; omega
            · have hj20 : j = 20 := by omega
              subst hj20
              rw [show ((20 : Nat) : Int) = 20 from rfl]
              have HGA := Lib.hid HGW.out
              have hb0 : ∀ g, (Value.slice pb k cb).ownBlock = some g → (Value.slice pl (n + 20) cl).ownBlock ≠ some g ∧ (Value.slice pa n ca).ownBlock ≠ some g := fun g hg => ⟨fun hx => HDS.out g hx hg, fun hx => HDIS.out g hx hg⟩
              have HB0 := Lib.hid hb0
              clear HGW HDS hb0
              go_wp2_with fail
              go_loopw [1, 10] (fun v iv wr => ∃ (j : Nat) (vl : Value), j ≤ 20 ∧ iv = .int .i64 j ∧ v = vl ∧ Gw w wr B (.slice pb k cb) 22 k vl j ∧ (∀ g, vl.ownBlock = some g → (Value.slice pl (n + 20) cl).ownBlock ≠ some g ∧ (Value.slice pa n ca).ownBlock ≠ some g) ∧ Gw w wr B (.slice pa n ca) 11 n (.slice pl (n + 20) cl) 20 ∧ Mod S w wr) (fun _ iv _ => 20 - (intOf iv).toNat)
              case atStart => exact ⟨0, _, by omega, rfl, rfl, Gw.start HOB.out HBL.out, HB0.out, HGA.out, HM.out⟩
              case round =>
                clear HOB HB0 HGA HM
                obtain ⟨j, vl, hj, rfl, rfl, hgw, hds, hga, hm⟩ := hrel
                have HGW := Lib.hid hgw
                have HDS := Lib.hid hds
                have HGA := Lib.hid hga
                have HM := Lib.hid hm
                obtain ⟨pm, cm, rfl, _⟩ := hgw.own.rd
                rw [dms_len]
                rw [dms_len] at HGW HDS
                clear hgw hds hga hm
                by_cases hlt : j < 20
                · have hB := HR2.out wr
                  have hBS := run_buildD wr D2 HL2.out
                  have hBw2 := HM.out.size
                  go_wp2_with (at_builtin; with_reducible refine froz_app _ _ rfl ?_)
                  unfold Froz
                  refine wpList_appD2 rfl _ _ rfl B _ (dms 22 (k + j)) (HGW.out.own.alloc _) rfl wr.heap.size D2 rfl (hp_new _ _ _ rfl) (by rw [dms_len]; omega) (by simp; omega) ?_
                  intro v8 w8 ho8 hg8 h58 h48
                  have k1 := (Mod.refl [] wr).alloc (.cells (dgc D2).toArray 24)
                  rw [HD2.out] at ho8
                  have HGN := Lib.hid (HGW.out.step hBw2 k1 ho8 hg8 h58 h48)
                  have hmg := mod_grown k1 hg8
                  have h0a : ∀ g, (Value.slice pa n ca).ownBlock = some g → g < wr.heap.size := fun g hg => by have := HAL.out g hg; omega
                  have HDN := Lib.hid (fun g (hg : v8.ownBlock = some g) => And.intro (apart_step k1 h58 HGA.out.own.lt (fun g hg => (HDS.out g hg).1) g hg) (apart_step k1 h58 h0a (fun g hg => (HDS.out g hg).2) g hg))
                  have HAN := Lib.hid (HGA.out.keep hmg (fun x hx => (HDS.out x (mem_ob hx)).1) (fun x hx => (HDS.out x (mem_ob hx)).2))
                  have HMN := Lib.hid (HM.out.trans hmg (fun x hx => by
                    rcases HGW.out.blk with hb | hb
                    · exact .inl (HSB.out x (hb.symm.trans (mem_ob hx)))
                    · exact .inr (hb x (mem_ob hx))))
                  clear ho8 hg8 h58 h48 k1 hmg hB hBS h0a
                  go_wp2_with fail
                  go_roundw
                  case rel => exact ⟨j + 1, _, by omega, by go_num, rfl, HGN.out, HDN.out, HAN.out, HMN.out⟩
                  case measure => simp [intOf]; omega
                · have hj20 : j = 20 := by omega
                  subst hj20
                  rw [show ((20 : Nat) : Int) = 20 from rfl]
                  have hnn : n + 20 ≤ 2147483648 := by omega
                  have hkk : k + 20 ≤ 2147483648 := by omega
                  have hc1 := fun W => marked_any (n + 20) 11 W hnn
                  have hc2 := fun W => marked_any (k + 20) 22 W hkk
                  have en : ((n + 20 : Nat) : Int) = (n : Int) + 20 := by omega
                  have ek : ((k + 20 : Nat) : Int) = (k : Int) + 20 := by omega
                  rw [en] at hc1
                  rw [ek] at hc2
                  have HC1 := Lib.hid hc1
                  have HC2 := Lib.hid hc2
                  clear hc1 hc2 en ek
                  go_wp2_with fail
                  refine (HC1.out _).mono ?_
                  rintro e w3 ⟨v3, rfl, ho3, m3⟩
                  have HO3 := Lib.hid ho3
                  obtain ⟨p3, c3, rfl, _⟩ := ho3.rd
                  rw [dms_len]
                  clear ho3
                  go_wp2_with fail
                  refine (HC2.out _).mono ?_
                  rintro e w4 ⟨v4, rfl, ho4, m4⟩
                  have HO4 := Lib.hid ho4
                  obtain ⟨p4, c4, rfl, _⟩ := ho4.rd
                  rw [dms_len]
                  clear ho4
                  have M4 := Lib.hid (m3.trans0 m4)
                  have HA4 := Lib.hid (HGA.out.keep M4.out (fun _ hx => by cases hx) (fun _ hx => by cases hx))
                  have HG4 := Lib.hid (HGW.out.keep M4.out (fun _ hx => by cases hx) (fun _ hx => by cases hx))
                  have HO34 := Lib.hid (HO3.out.mod0 m4)
                  clear m3 m4 HO3
                  go_wp2_with fail
                  have hsa := same_own HA4.out.own HO34.out (dms_32 _ _) (by rw [dms_len]; exact hnn) (by rw [dms_len]) (by rw [dms_len])
                  rw [dms_len] at hsa
                  refine hsa.mono ?_
                  rintro e w5 ⟨rfl, m5⟩
                  have M5 := Lib.hid m5
                  clear hsa m5
                  go_wp2_with fail
                  have hsb := same_own (HG4.out.own.mod0 M5.out) (HO4.out.mod0 M5.out) (dms_32 _ _) (by rw [dms_len]; exact hkk) (by rw [dms_len]) (by rw [dms_len])
                  rw [dms_len] at hsb
                  refine hsb.mono ?_
                  rintro e w6 ⟨rfl, m6⟩
                  have M6 := Lib.hid ((M4.out.trans0 M5.out).trans0 m6)
                  clear hsb m6
                  go_wp2_with fail
                  go_ret
                  have hA6 := HGA.out.keep M6.out (fun _ hx => by cases hx) (fun _ hx => by cases hx)
                  have hB6 := HGW.out.keep M6.out (fun _ hx => by cases hx) (fun _ hx => by cases hx)
                  exact ⟨rfl, hA6.old, hB6.old, by rw [← HS.out]; exact HM.out.trans0 M6.out⟩
end Go.Proofs.YtbbobpjcbnfpfaaDoor
namespace Go.Proofs.YtbbobpjcbnfpfaaDoor
open Go.RowKit
attribute [local go_sem high] one8 st8 cm8 b_and8 b_and8r b_and8l b_or8 b_or8r b_or8l b_xor8 b_xor8r b_xor8l b_andNot8 b_andNot8r b_andNot8l b_add8 b_add8r b_add8l b_sub8 b_sub8r b_sub8l b_mul8 b_mul8r b_mul8l b_eql8 b_eql8r b_eql8l b_neq8 b_neq8r b_neq8l b_lss8 b_lss8r b_lss8l b_leq8 b_leq8r b_leq8l b_gtr8 b_gtr8r b_gtr8l b_geq8 b_geq8r b_geq8l b_quo8r b_rem8r b_shl8r b_shr8r b_shl8l b_shr8l u_xor8 g_eql8 g_neq8 g_eql8' g_neq8' one32 st32 cm32 b_and32 b_and32r b_and32l b_or32 b_or32r b_or32l b_xor32 b_xor32r b_xor32l b_andNot32 b_andNot32r b_andNot32l b_add32 b_add32r b_add32l b_sub32 b_sub32r b_sub32l b_mul32 b_mul32r b_mul32l b_eql32 b_eql32r b_eql32l b_neq32 b_neq32r b_neq32l b_lss32 b_lss32r b_lss32l b_leq32 b_leq32r b_leq32l b_gtr32 b_gtr32r b_gtr32l b_geq32 b_geq32r b_geq32l b_quo32r b_rem32r b_shl32r b_shr32r b_shl32l b_shr32l u_xor32 g_eql32 g_neq32 g_eql32' g_neq32' one64 st64 cm64 b_and64 b_and64r b_and64l b_or64 b_or64r b_or64l b_xor64 b_xor64r b_xor64l b_andNot64 b_andNot64r b_andNot64l b_add64 b_add64r b_add64l b_sub64 b_sub64r b_sub64l b_mul64 b_mul64r b_mul64l b_eql64 b_eql64r b_eql64l b_neq64 b_neq64r b_neq64l b_lss64 b_lss64r b_lss64l b_leq64 b_leq64r b_leq64l b_gtr64 b_gtr64r b_gtr64l b_geq64 b_geq64r b_geq64l b_quo64r b_rem64r b_shl64r b_shr64r b_shl64l b_shr64l u_xor64 g_eql64 g_neq64 g_eql64' g_neq64' c_u8_u8 c_u8_u32 c_u8_u64 c_i_u8 c_u32_u8 c_u32_u32 c_u32_u64 c_i_u32 c_u64_u8 c_u64_u32 c_u64_u64 c_i_u64 c_u8_i c_u32_i
attribute [local go_sem ↓] ce8 ce32 ce64
attribute [local go_sem ↓] sliced_slp loadO26 storeO26 buildSlO42 buildO24
theorem off_of {pa : Option Addr} {n ca : Nat} {v : Value} (h : ∀ g, v.ownBlock = some g → (Value.slice pa n ca).ownBlock ≠ some g) : Off pa v.ownBlock.toList := by
  intro a ha hx
  exact h _ (mem_ob hx) (by rw [ha]; rfl)
theorem same_old {w : World} {B : Nat} {u : Value} {l : List Bs} {p : Option Addr} {c n : Nat} (hn : n = l.length) (hr : RdD w p c l) (h' : OwnD w B u l) (al : All32 l) (hl : l.length ≤ 2147483648) :
    ∀ {q : Option Addr} {d : Nat}, u = .slice q l.length d → Calls Tryd.prog 29 #[.slice p n c, .slice q n d] w fun e w' => e = .returned (.bool true) ∧ Mod [] w w' := by
  rintro q d rfl
  subst hn
  obtain ⟨p', c', e, hr', _⟩ := h'.rd
  injection e with e1 _ e2
  subst e1 e2
  have := same_any l l _ _ _ _ _ _ w rfl rfl hr hr' al al (by omega) (by omega)
  rwa [beq_self_eq_true] at this
set_option maxRecDepth 100000 in
set_option maxHeartbeats 2000000 in
theorem ownedThree_any (va vb vc : Value) (la lb lc : List Bs) (B : Nat) (w : World) (ha : OwnD w B va la) (hb : OwnD w B vb lb) (hc : OwnD w B vc lc) (hdis : ∀ g, va.ownBlock = some g → vb.ownBlock ≠ some g) (hdc : ∀ g, vc.ownBlock = some g → va.ownBlock ≠ some g ∧ vb.ownBlock ≠ some g) (hBw : B ≤ w.heap.size) (hla : la.length ≤ 1073741824) (hlb : lb.length ≤ 1073741824) (hlc : lc.length ≤ 1073741824) :
    Calls Tryd.prog 30 #[va, vb, vc] w fun e w' => e = .returned (.bool true) ∧ Mod (va.ownBlock.toList ++ vb.ownBlock.toList ++ vc.ownBlock.toList) w w' := by
  have HAL := Lib.hid (fun g hg => ha.lt g hg)
  have HBL := Lib.hid (fun g hg => hb.lt g hg)
  have HCL := Lib.hid (fun g hg => hc.lt g hg)
  have HDC := Lib.hid hdc
  have HOW := Lib.hid (fun (W : World) (S : List Nat) (k : Mod S w W) (h1 : ∀ x ∈ S, va.ownBlock ≠ some x) (h2 : ∀ x ∈ S, vb.ownBlock ≠ some x) => owned_any va vb la lb B W (ha.mod k h1) (hb.mod k h2) hdis (Nat.le_trans hBw k.size) hla hlb)
  obtain ⟨pa, ca, rfl, hra, _⟩ := ha.rd
  obtain ⟨pb, cb, rfl, hrb, _⟩ := hb.rd
  obtain ⟨pc, cc, rfl, hrc, _⟩ := hc.rd
  obtain ⟨n, hn⟩ : ∃ n, n = la.length := ⟨_, rfl⟩
  obtain ⟨k, hk⟩ : ∃ k, k = lb.length := ⟨_, rfl⟩
  obtain ⟨m, hm⟩ : ∃ m, m = lc.length := ⟨_, rfl⟩
  rw [← hn] at ha hla HAL HDC HOW ⊢
  rw [← hk] at hb hlb HBL HDC HOW ⊢
  rw [← hm] at hc hlc HCL HDC ⊢
  obtain ⟨S, hS⟩ : ∃ S, S = (Value.slice pa n ca).ownBlock.toList ++ (Value.slice pb k cb).ownBlock.toList ++ (Value.slice pc m cc).ownBlock.toList := ⟨_, rfl⟩
  have HSC := Lib.hid (show ∀ g, (Value.slice pc m cc).ownBlock = some g → g ∈ S from fun g hg => by rw [hS]; simp [hg])
  have HSAB := Lib.hid (show ∀ x ∈ (Value.slice pa n ca).ownBlock.toList ++ (Value.slice pb k cb).ownBlock.toList, x ∈ S from fun x hx => by rw [hS]; exact List.mem_append_left _ hx)
  have HC := Lib.hid hc
  have HM := Lib.hid hm
  have HS := Lib.hid hS
  obtain ⟨D1, hD1⟩ : ∃ D, D = dm 33 := ⟨_, rfl⟩
  have HR1 := Lib.hid (show ∀ w : World, (BuildO 24 #[(0, .int .u8 33)]).run Tryd.prog w = .ok (dv D1) w from by rw [hD1]; exact run_dm 33)
  have HL1 := Lib.hid (show D1.length = 32 from by rw [hD1]; exact dm_len 33)
  have HNE := Lib.hid (show ∀ w : World, (binOp .neq 24 (dv D1) (dv D1)).run Tryd.prog w = .ok (.bool false) w from fun w => by have := neqD w D1 D1 HL1.out HL1.out; simpa using this)
  have HD1 := Lib.hid hD1
  have hG := eqGuardD
  clear ha hb hc hdis hdc hra hrb hrc hn hk hm hS hD1
  go_enter Tryd.func30, Tryd.ntmps30
  go_wp2_with fail
  go_loopw [8] (fun iv wr => ∃ i : Nat, i ≤ m ∧ iv = .int .i64 i ∧ OwnD wr B (.slice pc m cc) (dms 33 i ++ lc.drop i) ∧ Mod (Value.slice pc m cc).ownBlock.toList w wr) (fun iv _ => m - (intOf iv).toNat)
  case atStart => exact ⟨0, by omega, rfl, by simpa [dms] using HC.out, Mod.refl _ _⟩
  case round =>
    obtain ⟨i, hi, rfl, hoc, hmo⟩ := hrel
    have HMO := Lib.hid hmo
    by_cases hlt : i < m
    · obtain ⟨g, c, C, hv, hgB, hst, hon, hmn⟩ := storeD_own hoc i D1 (by have := HM.out; simp [dms_len]; omega) HL1.out
      have hob1 : (Value.slice pc m cc).ownBlock = some g := by rw [hv]; rfl
      have hon2 : OwnD (wr.setRow g C) B (.slice pc m cc) (dms 33 (i + 1) ++ lc.drop (i + 1)) := by
        rw [HD1.out, dms_set 33 lc i (by have := HM.out; omega)] at hon; exact hon
      have HON := Lib.hid hon2
      have HMN := Lib.hid (HMO.out.trans hmn (fun x hx => .inl (by rw [List.mem_singleton.1 hx, hob1]; simp)))
      injection hv with hv hz1 hz2
      subst hv
      clear hz1 hz2
      have hB := HR1.out wr
      have q0 : (0 : Int) ≤ (i : Int) := by omega
      have q1 : (i : Int) < (m : Int) := by omega
      clear hoc hmo hon hon2 hob1 hmn
      go_wp2_with fail
      go_roundw
      case rel => exact ⟨i + 1, by omega, by go_num, HON.out, HMN.out⟩
      case measure => simp [intOf]; omega
    · have hin : i = m := by omega
      have hd : decide ((i : Int) < (m : Int)) = false := by simp; omega
      have HOC := Lib.hid (show OwnD wr B (.slice pc m cc) (dms 33 m) from by
        rw [hin, List.drop_of_length_le (by have := HM.out; omega), List.append_nil] at hoc; exact hoc)
      clear hoc hmo hin
      go_wp2_with fail
      refine (HOW.out wr _ HMO.out (fun x hx => (HDC.out x (mem_ob hx)).1) (fun x hx => (HDC.out x (mem_ob hx)).2)).mono ?_
      rintro e w2 ⟨rfl, how⟩
      have HRA := Lib.hid (how.a pa ca rfl)
      have HRB := Lib.hid (how.b pb cb rfl)
      have HOC2 := Lib.hid (HOC.out.mod how.md (fun x hx hy => by
        rcases List.mem_append.1 hx with hx | hx
        · exact (HDC.out x hy).1 (mem_ob hx)
        · exact (HDC.out x hy).2 (mem_ob hx)))
      have HM2 := Lib.hid (((HMO.out.mono (S' := S) (fun x hx => .inl (HSC.out x (mem_ob hx)))).trans how.md (fun x hx => .inl (HSAB.out x hx))))
      clear how HOC HMO
      go_wp2_with fail
      go_loopw [10] (fun iv wr => ∃ i2 : Nat, i2 ≤ m ∧ iv = .int .i64 i2 ∧ wr = w2) (fun iv _ => m - (intOf iv).toNat)
      case atStart => exact ⟨0, by omega, rfl, rfl⟩
      case round =>
        obtain ⟨i2, hi2, rfl, rfl⟩ := hrel
        by_cases hlt : i2 < m
        · obtain ⟨p', c', e, hr, _⟩ := HOC2.out.rd
          injection e with e1 e0 e2
          subst e1 e2
          obtain ⟨bc, oc, rfl, _⟩ := hr.elem dgc_len i2 (dm 33) (dms_get 33 m i2 hlt)
          have hld := loadD_at hr (i := i2) (dm 33) (dms_get 33 m i2 hlt) (dm_len 33)
          rw [← HD1.out] at hld
          have hB := HR1.out wr
          have hN := HNE.out wr
          have q0 : (0 : Int) ≤ (i2 : Int) := by omega
          have q1 : (i2 : Int) < (m : Int) := by omega
          clear hr e0
          go_wp2_with fail
          go_roundw
          case rel => exact ⟨i2 + 1, by omega, by go_num, by first | rfl | trivial⟩
          case measure => simp [intOf]; omega
        · have hd : decide ((i2 : Int) < (m : Int)) = false := by simp; omega
          go_wp2_with fail
          go_loopw [2, 11] (fun v iv wr => ∃ (j : Nat) (vl : Value), j ≤ 20 ∧ iv = .int .i64 j ∧ v = vl ∧ Gw w wr B (.slice pc m cc) 33 m vl j ∧ (∀ g, vl.ownBlock = some g → (Value.slice pa n ca).ownBlock ≠ some g ∧ (Value.slice pb k cb).ownBlock ≠ some g) ∧ RdD wr pa ca (dms 11 n) ∧ RdD wr pb cb (dms 22 k) ∧ Mod S w wr) (fun _ iv _ => 20 - (intOf iv).toNat)
          case atStart => exact ⟨0, _, by omega, rfl, rfl, Gw.start HOC2.out HCL.out, HDC.out, HRA.out, HRB.out, HM2.out⟩
          case round =>
            clear HOC2 HRA HRB HM2
            obtain ⟨j, vl, hj, rfl, rfl, hgw, hds, hra, hrb, hmo⟩ := hrel
            have HGW := Lib.hid hgw
            have HDS := Lib.hid hds
            have HRA := Lib.hid hra
            have HRB := Lib.hid hrb
            have HMO := Lib.hid hmo
            obtain ⟨pl, cl, rfl, _⟩ := hgw.own.rd
            rw [dms_len]
            rw [dms_len] at HGW HDS
            clear hgw hds hra hrb hmo
            by_cases hlt : j < 20
            · have hB := HR1.out wr
              have hBS := run_buildD wr D1 HL1.out
              have hBw2 := HMO.out.size
              go_wp2_with (at_builtin; with_reducible refine froz_app _ _ rfl ?_)
              unfold Froz
              refine wpList_appD2 rfl _ _ rfl B _ (dms 33 (m + j)) (HGW.out.own.alloc _) rfl wr.heap.size D1 rfl (hp_new _ _ _ rfl) (by rw [dms_len]; omega) (by simp; omega) ?_
              intro v8 w8 ho8 hg8 h58 h48
              have k1 := (Mod.refl [] wr).alloc (.cells (dgc D1).toArray 24)
              rw [HD1.out] at ho8
              have HGN := Lib.hid (HGW.out.step hBw2 k1 ho8 hg8 h58 h48)
              have h0a : ∀ g, (Value.slice pa n ca).ownBlock = some g → g < wr.heap.size := fun g hg => by have := HAL.out g hg; omega
              have h0b : ∀ g, (Value.slice pb k cb).ownBlock = some g → g < wr.heap.size := fun g hg => by have := HBL.out g hg; omega
              have HDN := Lib.hid (fun g (hg : v8.ownBlock = some g) => And.intro (apart_step k1 h58 h0a (fun g hg => (HDS.out g hg).1) g hg) (apart_step k1 h58 h0b (fun g hg => (HDS.out g hg).2) g hg))
              have hmg := mod_grown k1 hg8
              have HAN := Lib.hid (HRA.out.mod hmg (fun _ => off_of (fun g hg => (HDS.out g hg).1)))
              have HBN := Lib.hid (HRB.out.mod hmg (fun _ => off_of (fun g hg => (HDS.out g hg).2)))
              have HMN := Lib.hid (HMO.out.trans hmg (fun x hx => by
                rcases HGW.out.blk with hb | hb
                · exact .inl (HSC.out x (hb.symm.trans (mem_ob hx)))
                · exact .inr (hb x (mem_ob hx))))
              clear ho8 hg8 h58 h48 k1 hmg hB hBS h0a h0b
              go_wp2_with fail
              go_roundw
              case rel => exact ⟨j + 1, _, by omega, by go_num, rfl, HGN.out, HDN.out, HAN.out, HBN.out, HMN.out⟩
              case measure => simp [intOf]; omega
            · have hj20 : j = 20 := by omega
              subst hj20
              rw [show ((20 : Nat) : Int) = 20 from rfl]
              have hmm : m + 20 ≤ 2147483648 := by omega
              have hc1 := fun W => marked_any (m + 20) 33 W hmm
              have en : ((m + 20 : Nat) : Int) = (m : Int) + 20 := by omega
              rw [en] at hc1
              have HC1 := Lib.hid hc1
              have HC2 := Lib.hid (fun W => marked_any n 11 W (by omega))
              have HC3 := Lib.hid (fun W => marked_any k 22 W (by omega))
              clear hc1 en
              go_wp2_with fail
              refine (HC1.out _).mono ?_
              rintro e w3 ⟨v3, rfl, ho3, m3⟩
              have HO3 := Lib.hid ho3
              obtain ⟨p3, c3, rfl, _⟩ := ho3.rd
              rw [dms_len]
              clear ho3
              go_wp2_with fail
              refine (HC2.out _).mono ?_
              rintro e w4 ⟨v4, rfl, ho4, m4⟩
              have HO4 := Lib.hid ho4
              obtain ⟨p4, c4, rfl, _⟩ := ho4.rd
              rw [dms_len]
              clear ho4
              go_wp2_with fail
              refine (HC3.out _).mono ?_
              rintro e w5 ⟨v5, rfl, ho5, m5⟩
              have HO5 := Lib.hid ho5
              obtain ⟨p5, c5, rfl, _⟩ := ho5.rd
              rw [dms_len]
              clear ho5
              have M5 := Lib.hid ((m3.trans0 m4).trans0 m5)
              have HG5 := Lib.hid (HGW.out.own.mod0 M5.out)
              have HO35 := Lib.hid (HO3.out.mod0 (m4.trans0 m5))
              have HO45 := Lib.hid (HO4.out.mod0 m5)
              clear m3 m4 m5 HO3 HO4
              go_wp2_with fail
              have hsa := same_own HG5.out HO35.out (dms_32 _ _) (by rw [dms_len]; exact hmm) (by rw [dms_len]) (by rw [dms_len])
              rw [dms_len] at hsa
              refine hsa.mono ?_
              rintro e w6 ⟨rfl, m6⟩
              have M6 := Lib.hid m6
              clear hsa m6
              go_wp2_with fail
              have hsb := same_old (dms_len 11 n).symm (HRA.out.mod0 (M5.out.trans0 M6.out)) (HO45.out.mod0 M6.out) (dms_32 _ _) (by rw [dms_len]; omega) (by rw [dms_len])
              refine hsb.mono ?_
              rintro e w7 ⟨rfl, m7⟩
              have M7 := Lib.hid (M6.out.trans0 m7)
              clear hsb m7
              go_wp2_with fail
              have hsc := same_old (dms_len 22 k).symm (HRB.out.mod0 (M5.out.trans0 M7.out)) (HO5.out.mod0 M7.out) (dms_32 _ _) (by rw [dms_len]; omega) (by rw [dms_len])
              refine hsc.mono ?_
              rintro e w8 ⟨rfl, m8⟩
              have M8 := Lib.hid ((M5.out.trans0 M7.out).trans0 m8)
              clear hsc m8
              go_wp2_with fail
              go_ret
              exact ⟨rfl, by rw [← HS.out]; exact HMO.out.trans0 M8.out⟩
end Go.Proofs.YtbbobpjcbnfpfaaDoor
