/- Path of the program's tree. Conditions: as TrRoot. -/
import Derived.Test.YtbbobpjcbnfpfaaDoorTrRoot
import Derived.Test.YtbbobpjcbnfpfaaDoorTrMem
namespace Go.Proofs.YtbbobpjcbnfpfaaDoor
open Go.RowKit
attribute [local go_sem high] one8 st8 cm8 b_and8 b_and8r b_and8l b_or8 b_or8r b_or8l b_xor8 b_xor8r b_xor8l b_andNot8 b_andNot8r b_andNot8l b_add8 b_add8r b_add8l b_sub8 b_sub8r b_sub8l b_mul8 b_mul8r b_mul8l b_eql8 b_eql8r b_eql8l b_neq8 b_neq8r b_neq8l b_lss8 b_lss8r b_lss8l b_leq8 b_leq8r b_leq8l b_gtr8 b_gtr8r b_gtr8l b_geq8 b_geq8r b_geq8l b_quo8r b_rem8r b_shl8r b_shr8r b_shl8l b_shr8l u_xor8 g_eql8 g_neq8 g_eql8' g_neq8' one32 st32 cm32 b_and32 b_and32r b_and32l b_or32 b_or32r b_or32l b_xor32 b_xor32r b_xor32l b_andNot32 b_andNot32r b_andNot32l b_add32 b_add32r b_add32l b_sub32 b_sub32r b_sub32l b_mul32 b_mul32r b_mul32l b_eql32 b_eql32r b_eql32l b_neq32 b_neq32r b_neq32l b_lss32 b_lss32r b_lss32l b_leq32 b_leq32r b_leq32l b_gtr32 b_gtr32r b_gtr32l b_geq32 b_geq32r b_geq32l b_quo32r b_rem32r b_shl32r b_shr32r b_shl32l b_shr32l u_xor32 g_eql32 g_neq32 g_eql32' g_neq32' one64 st64 cm64 b_and64 b_and64r b_and64l b_or64 b_or64r b_or64l b_xor64 b_xor64r b_xor64l b_andNot64 b_andNot64r b_andNot64l b_add64 b_add64r b_add64l b_sub64 b_sub64r b_sub64l b_mul64 b_mul64r b_mul64l b_eql64 b_eql64r b_eql64l b_neq64 b_neq64r b_neq64l b_lss64 b_lss64r b_lss64l b_leq64 b_leq64r b_leq64l b_gtr64 b_gtr64r b_gtr64l b_geq64 b_geq64r b_geq64l b_quo64r b_rem64r b_shl64r b_shr64r b_shl64l b_shr64l u_xor64 g_eql64 g_neq64 g_eql64' g_neq64' c_u8_u8 c_u8_u32 c_u8_u64 c_i_u8 c_u32_u8 c_u32_u32 c_u32_u64 c_i_u32 c_u64_u8 c_u64_u32 c_u64_u64 c_i_u64 c_u8_i c_u32_i
attribute [local go_sem ↓] ce8 ce32 ce64
attribute [local go_sem ↓] sliced_slp loadO26 storeO26 buildSlO42
theorem appD {ops : Array Oper} {o : Oper} {a : Act} {Q : Exit → Act → World → Prop} {w : World} {K : Act → World → Prop} {EE : Prop} (hgd : o.guard = none) (so x : Operand)
    (ho : o.op = .call { callee := .builtin .append, args := #[so, x], argTypes := #[42, 42] })
    (B : Nat) (v : Value) (l : List Bs) (hown : OwnD w B v l) (hs : a.eval so = v) (b : Nat) (d : Bs) (hx : a.eval x = .slice (some ⟨b, 0, none⟩) 1 1)
    (hr : w.heap[b]? = some (.cells (dgc d).toArray 24)) (hlen : l.length ≤ 4294967296) (hbase : B ≤ w.heap.size)
    (h : ∀ v' w', OwnD w' B v' (l ++ [d]) → w.grownBy w' v.ownBlock → K (a.put o.dst v') w') : if Region.wanted o (yielded ops a.tmps) = true then Oper.wp Tryd.prog o a w K Q else EE :=
  step_pushN (dv (zeros 32)) 32 Tryd.underlying42 infoD rfl (by decide) dgc_len dgc_one hgd so x ho B v l hown hs b 0 1 1 [d] hx rfl (range_blk hr 0 _ (fun j v hv => by simpa using hv)) (by unfold maxLen; simp; omega) (by simp; omega) hbase (fun v' w' h1 h2 _ => h v' w' h1 h2)
theorem callPath (xs : Array Value) (w : World) : (callFunc 66 xs).run Tryd.prog w = .ok (.enter 66 xs) w := by kernel_rfl
theorem pathH_len_le {hf : Bs → Bs} (n : Nat) : ∀ (ls : List Bs) (i : Nat), ls.length ≤ n → (pathH hf ls i).length ≤ n := by
  induction n with
  | zero => intro ls i h; rw [pathH.eq_def, if_pos (by omega)]; simp
  | succ n ih =>
    intro ls i h
    rw [pathH.eq_def]
    by_cases h1 : ls.length ≤ 1
    · rw [if_pos h1]; simp
    · rw [if_neg h1]
      have hlt := half_lt ls.length (by omega)
      have hp := half_pos ls.length
      split
      · rw [List.length_append]; have := ih (ls.take (half ls.length)) i (by simp; omega); simp; omega
      · rw [List.length_append]; have := ih (ls.drop (half ls.length)) (i - half ls.length) (by simp; omega); simp; omega
set_option maxRecDepth 100000 in
theorem path_any {hf : Bs → Bs} (N : Nat) : ∀ (xs : List SlR) (p : Option Addr) (c n i : Nat) (w : World), n = xs.length → n ≤ N → i < n → Lv w p c xs → Hs hf w →
    Calls Tryd.prog 66 #[.slice p n c, .int .i64 i] w fun e w' => ∃ v, e = .returned v ∧ DgPost w.heap.size (pathH hf (ds xs) i) w v w' := by
  induction N with
  | zero => intro xs p c n i w hn hN hi; omega
  | succ N ih =>
    intro xs p c n i w hn hN hi h H
    by_cases h0 : n ≤ N
    · exact ih xs p c n i w hn h0 hi h H
    by_cases h1 : n = 1
    · have he : pathH hf (ds xs) i = [] := by rw [pathH.eq_def, if_pos (by simp; omega)]
      rw [he]
      subst h1
      clear h H he hn
      go_enter Tryd.func66, Tryd.ntmps66
      go_wp2_with fail
      go_ret
      exact ⟨_, rfl, OwnN.nil _ _ _ _ _, Mod.refl _ _⟩
    · have hl := h.len
      have hn2 : 1 < n := by omega
      have hk := fun W => half_any n W hn2 (by omega)
      obtain ⟨K, hK⟩ : ∃ K, K = half n := ⟨_, rfl⟩
      have hK0 : 0 < K := by rw [hK]; exact half_pos n
      have hK1 : K < n := by rw [hK]; exact half_lt n hn2
      have hcap : n ≤ c := by have := h.rd.le; omega
      have HK := Lib.hid hk
      rw [← hK] at HK
      have e1 : decide ((n : Int) = 1) = false := by simp; omega
      have f1 : (0 : Int) ≤ (K : Int) := by omega
      have f2 : (K : Int) ≤ (n : Int) := by omega
      have f3 : (K : Int) ≤ (c : Int) := by omega
      have f4 : (n : Int) ≤ (c : Int) := by omega
      by_cases hik : i < K
      · have he : pathH hf (ds xs) i = pathH hf (ds (xs.take K)) i ++ [rootH hf (ds (xs.drop K))] := by
          rw [pathH.eq_def, if_neg (by simp; omega), List.length_map, ← hn, ← hK, if_pos hik]
          simp only [ds, List.map_take, List.map_drop]
        have HA := Lib.hid (fun (W : World) (m' : Mod [] w W) => ih (xs.take K) p c K i W (by simp; omega) (by omega) hik ((h.mod0 m').take K) (H.mod0 m'))
        have HB := Lib.hid (fun (W : World) (m' : Mod [] w W) => told (root_any (xs.drop K).length (xs.drop K) (slp p K c 1) (c - K) (n - K) W (by simp; omega) (by simp; omega) ((h.mod0 m').drop K (by omega)) (H.mod0 m')))
        have hla : (pathH hf (ds (xs.take K)) i).length ≤ 4294967296 := Nat.le_trans (pathH_len_le (hf := hf) _ (ds (xs.take K)) i (Nat.le_refl _)) (by simp; omega)
        have hlb := rootH_len H.len (ds (xs.drop K))
        rw [he]
        generalize pathH hf (ds (xs.take K)) i = A at *
        generalize rootH hf (ds (xs.drop K)) = R at *
        have HL := Lib.hid hlb
        have e2 : decide ((i : Int) < (K : Int)) = true := by simp; omega
        clear h H he hn ih hlb hK h0 h1 hl hk
        go_enter Tryd.func66, Tryd.ntmps66
        go_wp2_with (go_at_call 60; refine (HK.out _).mono ?_; rintro e w' ⟨rfl, rfl⟩)
        go_region_law (first
          | (go_simp; go_at_call 66; with_reducible refine (HA.out _ (Mod.refl [] w).drew).mono ?_
             rintro _ w1 ⟨v1, rfl, ho, m1⟩
             have M1 := Lib.hid ((Mod.refl [] w).drew.trans0 m1)
             have HO := Lib.hid ho
             clear m1 ho)
          | (go_simp; go_at_call 20; with_reducible refine (HB.out _ M1.out).mono ?_
             rintro _ w2 ⟨_, rfl, rfl, m2⟩
             have M2 := Lib.hid (M1.out.trans0 m2)
             have HO2 := Lib.hid (HO.out.mod0 m2)
             have hBS := run_buildD w2 R HL.out
             clear m2 HO)
          | (refine appD rfl (.tmp 19) (.tmp 24) rfl w.heap.size v1 A (HO2.out.alloc _) rfl w2.heap.size R rfl (hp_new w2 _ _ rfl) hla (by have := M2.out.size; simp; omega) ?_
             intro v4 w4 ho4 hg4
             have HO4 := Lib.hid ho4
             have HG4 := Lib.hid hg4
             clear ho4 hg4))
        go_wp2_with fail
        go_ret
        exact ⟨_, rfl, HO4.out, (M2.out.alloc _).of_grown HG4.out (fun g hg => .inr (HO2.out.row g hg))⟩
      · have he : pathH hf (ds xs) i = pathH hf (ds (xs.drop K)) (i - K) ++ [rootH hf (ds (xs.take K))] := by
          rw [pathH.eq_def, if_neg (by simp; omega), List.length_map, ← hn, ← hK, if_neg hik]
          simp only [ds, List.map_take, List.map_drop]
        have HA := Lib.hid (fun (W : World) (m' : Mod [] w W) => ih (xs.drop K) (slp p K c 1) (c - K) (n - K) (i - K) W (by simp; omega) (by omega) (by omega) ((h.mod0 m').drop K (by omega)) (H.mod0 m'))
        have HB := Lib.hid (fun (W : World) (m' : Mod [] w W) => told (root_any K (xs.take K) p c K W (by simp; omega) (by omega) ((h.mod0 m').take K) (H.mod0 m')))
        have hla : (pathH hf (ds (xs.drop K)) (i - K)).length ≤ 4294967296 := Nat.le_trans (pathH_len_le (hf := hf) _ (ds (xs.drop K)) (i - K) (Nat.le_refl _)) (by simp; omega)
        have hlb := rootH_len H.len (ds (xs.take K))
        rw [he]
        generalize pathH hf (ds (xs.drop K)) (i - K) = A at *
        generalize rootH hf (ds (xs.take K)) = R at *
        have HL := Lib.hid hlb
        have e2 : decide ((i : Int) < (K : Int)) = false := by simp; omega
        have hn9 : n ≤ 4294967296 := by omega
        have e3 : (i : Int) - (K : Int) = ((i - K : Nat) : Int) := by omega
        have e4 : IntKind.i64.wrap ((i - K : Nat) : Int) = ((i - K : Nat) : Int) := wrI _ (by omega) (by omega)
        clear h H he hn ih hlb hK h0 h1 hl hk
        go_enter Tryd.func66, Tryd.ntmps66
        go_wp2_with (go_at_call 60; refine (HK.out _).mono ?_; rintro e w' ⟨rfl, rfl⟩)
        go_region_law (first
          | (go_simp; go_at_call 66; with_reducible refine (HA.out _ (Mod.refl [] w).drew).mono ?_
             rintro _ w1 ⟨v1, rfl, ho, m1⟩
             have M1 := Lib.hid ((Mod.refl [] w).drew.trans0 m1)
             have HO := Lib.hid ho
             clear m1 ho)
          | (go_simp; go_at_call 20; with_reducible refine (HB.out _ M1.out).mono ?_
             rintro _ w2 ⟨_, rfl, rfl, m2⟩
             have M2 := Lib.hid (M1.out.trans0 m2)
             have HO2 := Lib.hid (HO.out.mod0 m2)
             have hBS := run_buildD w2 R HL.out
             clear m2 HO)
          | (refine appD rfl (.tmp 32) (.tmp 37) rfl w.heap.size v1 A (HO2.out.alloc _) rfl w2.heap.size R rfl (hp_new w2 _ _ rfl) hla (by have := M2.out.size; simp; omega) ?_
             intro v4 w4 ho4 hg4
             have HO4 := Lib.hid ho4
             have HG4 := Lib.hid hg4
             clear ho4 hg4))
        go_wp2_with fail
        go_ret
        exact ⟨_, rfl, HO4.out, (M2.out.alloc _).of_grown HG4.out (fun g hg => .inr (HO2.out.row g hg))⟩
end Go.Proofs.YtbbobpjcbnfpfaaDoor
namespace Go.Proofs.YtbbobpjcbnfpfaaDoor
open Go.RowKit
attribute [local go_sem high] one8 st8 cm8 b_and8 b_and8r b_and8l b_or8 b_or8r b_or8l b_xor8 b_xor8r b_xor8l b_andNot8 b_andNot8r b_andNot8l b_add8 b_add8r b_add8l b_sub8 b_sub8r b_sub8l b_mul8 b_mul8r b_mul8l b_eql8 b_eql8r b_eql8l b_neq8 b_neq8r b_neq8l b_lss8 b_lss8r b_lss8l b_leq8 b_leq8r b_leq8l b_gtr8 b_gtr8r b_gtr8l b_geq8 b_geq8r b_geq8l b_quo8r b_rem8r b_shl8r b_shr8r b_shl8l b_shr8l u_xor8 g_eql8 g_neq8 g_eql8' g_neq8' one32 st32 cm32 b_and32 b_and32r b_and32l b_or32 b_or32r b_or32l b_xor32 b_xor32r b_xor32l b_andNot32 b_andNot32r b_andNot32l b_add32 b_add32r b_add32l b_sub32 b_sub32r b_sub32l b_mul32 b_mul32r b_mul32l b_eql32 b_eql32r b_eql32l b_neq32 b_neq32r b_neq32l b_lss32 b_lss32r b_lss32l b_leq32 b_leq32r b_leq32l b_gtr32 b_gtr32r b_gtr32l b_geq32 b_geq32r b_geq32l b_quo32r b_rem32r b_shl32r b_shr32r b_shl32l b_shr32l u_xor32 g_eql32 g_neq32 g_eql32' g_neq32' one64 st64 cm64 b_and64 b_and64r b_and64l b_or64 b_or64r b_or64l b_xor64 b_xor64r b_xor64l b_andNot64 b_andNot64r b_andNot64l b_add64 b_add64r b_add64l b_sub64 b_sub64r b_sub64l b_mul64 b_mul64r b_mul64l b_eql64 b_eql64r b_eql64l b_neq64 b_neq64r b_neq64l b_lss64 b_lss64r b_lss64l b_leq64 b_leq64r b_leq64l b_gtr64 b_gtr64r b_gtr64l b_geq64 b_geq64r b_geq64l b_quo64r b_rem64r b_shl64r b_shr64r b_shl64l b_shr64l u_xor64 g_eql64 g_neq64 g_eql64' g_neq64' c_u8_u8 c_u8_u32 c_u8_u64 c_i_u8 c_u32_u8 c_u32_u32 c_u32_u64 c_i_u32 c_u64_u8 c_u64_u32 c_u64_u64 c_i_u64 c_u8_i c_u32_i
attribute [local go_sem ↓] ce8 ce32 ce64
attribute [local go_sem ↓] sliced_slp loadO26 storeO26 buildSlO42
theorem OwnD.one {w : World} {B : Nat} (g : Nat) (d : Bs) (hg : w.heap[g]? = some (.cells (dgc d).toArray 24)) (hB : B ≤ g) : OwnD w B (.slice (some ⟨g, 0, none⟩) 1 1) [d] := by
  refine ⟨?_, .inr ⟨g, 1, (dgc d).toArray, rfl, hB, hg, ?_, ?_, ?_, ?_⟩⟩
  · simp [dgc_len]
  · simp
  · unfold maxLen; omega
  · simp [dgc_len]
  · have h := dgc_len d
    simp
    exact List.take_of_length_le (by omega)
theorem growH_len_le {hf : Bs → Bs} (n : Nat) : ∀ (ls : List Bs) (m : Nat) (w : Bool), ls.length ≤ n → (growH hf ls m w).length ≤ n + 1 := by
  induction n with
  | zero => intro ls m w h; rw [growH.eq_def, if_pos (Or.inl (by omega))]; split <;> simp
  | succ n ih =>
    intro ls m w h
    rw [growH.eq_def]
    by_cases h1 : ls.length ≤ 1 ∨ m = ls.length
    · rw [if_pos h1]; split <;> simp
    · rw [if_neg h1]
      have hlt := half_lt ls.length (by omega)
      have hp := half_pos ls.length
      split
      · rw [List.length_append]; have := ih (ls.take (half ls.length)) m w (by simp; omega); simp; omega
      · rw [List.length_append]; have := ih (ls.drop (half ls.length)) (m - half ls.length) false (by simp; omega); simp; omega
set_option maxRecDepth 100000 in
theorem growth_any {hf : Bs → Bs} (N : Nat) : ∀ (xs : List SlR) (p : Option Addr) (c n m : Nat) (fb : Bool) (w : World), n = xs.length → n ≤ N → 1 ≤ m → m ≤ n → Lv w p c xs → Hs hf w →
    Calls Tryd.prog 73 #[.slice p n c, .int .i64 m, .bool fb] w fun e w' => ∃ v, e = .returned v ∧ DgPost w.heap.size (growH hf (ds xs) m fb) w v w' := by
  induction N with
  | zero => intro xs p c n m fb w hn hN hi; omega
  | succ N ih =>
    intro xs p c n m fb w hn hN hm1 hmn h H
    by_cases h0 : n ≤ N
    · exact ih xs p c n m fb w hn h0 hm1 hmn h H
    by_cases h1 : m = n
    · have he : growH hf (ds xs) m fb = if fb = true then [] else [rootH hf (ds xs)] := by rw [growH.eq_def, if_pos (Or.inr (by simp; omega))]
      rw [he]
      subst h1
      cases fb
      · have HB := Lib.hid (root_any m xs p c m w hn (Nat.le_refl _) h H)
        have HL := Lib.hid (rootH_len H.len (ds xs))
        rw [if_neg (by simp)]
        generalize rootH hf (ds xs) = R at *
        clear h H he hn
        go_enter Tryd.func73, Tryd.ntmps73
        go_wp2_with fail
        refine HB.out.mono ?_
        rintro e w2 ⟨rfl, m2⟩
        have hBS := run_buildD w2 R HL.out
        go_wp2_with fail
        go_ret
        exact ⟨_, rfl, OwnD.one _ _ (hp_new _ _ _ rfl) m2.size, m2.alloc _⟩
      · rw [if_pos rfl]
        clear h H he hn
        go_enter Tryd.func73, Tryd.ntmps73
        go_wp2_with fail
        go_ret
        exact ⟨_, rfl, OwnN.nil _ _ _ _ _, Mod.refl _ _⟩
    · have hl := h.len
      have hn2 : 1 < n := by omega
      have hk := fun W => half_any n W hn2 (by omega)
      obtain ⟨K, hK⟩ : ∃ K, K = half n := ⟨_, rfl⟩
      have hK0 : 0 < K := by rw [hK]; exact half_pos n
      have hK1 : K < n := by rw [hK]; exact half_lt n hn2
      have hcap : n ≤ c := by have := h.rd.le; omega
      have HK := Lib.hid hk
      rw [← hK] at HK
      have e1 : decide ((m : Int) = (n : Int)) = false := by simp; omega
      have e9 : ((m : Int) == (n : Int)) = false := by simp; omega
      have e8 : decide (m = n) = false := by simp; omega
      have f1 : (0 : Int) ≤ (K : Int) := by omega
      have f2 : (K : Int) ≤ (n : Int) := by omega
      have f3 : (K : Int) ≤ (c : Int) := by omega
      have f4 : (n : Int) ≤ (c : Int) := by omega
      by_cases hik : m ≤ K
      · have he : growH hf (ds xs) m fb = growH hf (ds (xs.take K)) m fb ++ [rootH hf (ds (xs.drop K))] := by
          rw [growH.eq_def, if_neg (by simp; omega), List.length_map, ← hn, ← hK, if_pos hik]
          simp only [ds, List.map_take, List.map_drop]
        have HA := Lib.hid (fun (W : World) (m' : Mod [] w W) => ih (xs.take K) p c K m fb W (by simp; omega) (by omega) hm1 hik ((h.mod0 m').take K) (H.mod0 m'))
        have HB := Lib.hid (fun (W : World) (m' : Mod [] w W) => told (root_any (xs.drop K).length (xs.drop K) (slp p K c 1) (c - K) (n - K) W (by simp; omega) (by simp; omega) ((h.mod0 m').drop K (by omega)) (H.mod0 m')))
        have hla : (growH hf (ds (xs.take K)) m fb).length ≤ 4294967296 := Nat.le_trans (growH_len_le (hf := hf) _ (ds (xs.take K)) m fb (Nat.le_refl _)) (by simp; omega)
        have hlb := rootH_len H.len (ds (xs.drop K))
        rw [he]
        generalize growH hf (ds (xs.take K)) m fb = A at *
        generalize rootH hf (ds (xs.drop K)) = R at *
        have HL := Lib.hid hlb
        have e2 : decide ((m : Int) ≤ (K : Int)) = true := by simp; omega
        clear h H he hn ih hlb hK h0 h1 hl hk
        go_enter Tryd.func73, Tryd.ntmps73
        go_wp2_with (go_at_call 60; refine (HK.out _).mono ?_; rintro e w' ⟨rfl, rfl⟩)
        go_region_law (first
          | (go_simp; go_at_call 73; with_reducible refine (HA.out _ (Mod.refl [] w).drew).mono ?_
             rintro _ w1 ⟨v1, rfl, ho, m1⟩
             have M1 := Lib.hid ((Mod.refl [] w).drew.trans0 m1)
             have HO := Lib.hid ho
             clear m1 ho)
          | (go_simp; go_at_call 20; with_reducible refine (HB.out _ M1.out).mono ?_
             rintro _ w2 ⟨_, rfl, rfl, m2⟩
             have M2 := Lib.hid (M1.out.trans0 m2)
             have HO2 := Lib.hid (HO.out.mod0 m2)
             have hBS := run_buildD w2 R HL.out
             clear m2 HO)
          | (refine appD rfl (.tmp 27) (.tmp 32) rfl w.heap.size v1 A (HO2.out.alloc _) rfl w2.heap.size R rfl (hp_new w2 _ _ rfl) hla (by have := M2.out.size; simp; omega) ?_
             intro v4 w4 ho4 hg4
             have HO4 := Lib.hid ho4
             have HG4 := Lib.hid hg4
             clear ho4 hg4))
        go_wp2_with fail
        go_ret
        exact ⟨_, rfl, HO4.out, (M2.out.alloc _).of_grown HG4.out (fun g hg => .inr (HO2.out.row g hg))⟩
      · have he : growH hf (ds xs) m fb = growH hf (ds (xs.drop K)) (m - K) false ++ [rootH hf (ds (xs.take K))] := by
          rw [growH.eq_def, if_neg (by simp; omega), List.length_map, ← hn, ← hK, if_neg hik]
          simp only [ds, List.map_take, List.map_drop]
        have HA := Lib.hid (fun (W : World) (m' : Mod [] w W) => ih (xs.drop K) (slp p K c 1) (c - K) (n - K) (m - K) false W (by simp; omega) (by omega) (by omega) (by omega) ((h.mod0 m').drop K (by omega)) (H.mod0 m'))
        have HB := Lib.hid (fun (W : World) (m' : Mod [] w W) => told (root_any K (xs.take K) p c K W (by simp; omega) (by omega) ((h.mod0 m').take K) (H.mod0 m')))
        have hla : (growH hf (ds (xs.drop K)) (m - K) false).length ≤ 4294967296 := Nat.le_trans (growH_len_le (hf := hf) _ (ds (xs.drop K)) (m - K) false (Nat.le_refl _)) (by simp; omega)
        have hlb := rootH_len H.len (ds (xs.take K))
        rw [he]
        generalize growH hf (ds (xs.drop K)) (m - K) false = A at *
        generalize rootH hf (ds (xs.take K)) = R at *
        have HL := Lib.hid hlb
        have e2 : decide ((m : Int) ≤ (K : Int)) = false := by simp; omega
        have hn9 : n ≤ 4294967296 := by omega
        have e3 : (m : Int) - (K : Int) = ((m - K : Nat) : Int) := by omega
        have e4 : IntKind.i64.wrap ((m - K : Nat) : Int) = ((m - K : Nat) : Int) := wrI _ (by omega) (by omega)
        clear h H he hn ih hlb hK h0 h1 hl hk
        go_enter Tryd.func73, Tryd.ntmps73
        go_wp2_with (go_at_call 60; refine (HK.out _).mono ?_; rintro e w' ⟨rfl, rfl⟩)
        go_region_law (first
          | (go_simp; go_at_call 73; with_reducible refine (HA.out _ (Mod.refl [] w).drew).mono ?_
             rintro _ w1 ⟨v1, rfl, ho, m1⟩
             have M1 := Lib.hid ((Mod.refl [] w).drew.trans0 m1)
             have HO := Lib.hid ho
             clear m1 ho)
          | (go_simp; go_at_call 20; with_reducible refine (HB.out _ M1.out).mono ?_
             rintro _ w2 ⟨_, rfl, rfl, m2⟩
             have M2 := Lib.hid (M1.out.trans0 m2)
             have HO2 := Lib.hid (HO.out.mod0 m2)
             have hBS := run_buildD w2 R HL.out
             clear m2 HO)
          | (refine appD rfl (.tmp 40) (.tmp 45) rfl w.heap.size v1 A (HO2.out.alloc _) rfl w2.heap.size R rfl (hp_new w2 _ _ rfl) hla (by have := M2.out.size; simp; omega) ?_
             intro v4 w4 ho4 hg4
             have HO4 := Lib.hid ho4
             have HG4 := Lib.hid hg4
             clear ho4 hg4))
        go_wp2_with fail
        go_ret
        exact ⟨_, rfl, HO4.out, (M2.out.alloc _).of_grown HG4.out (fun g hg => .inr (HO2.out.row g hg))⟩
/-- A list of digests and an error's number. -/
def DgErr (B : Nat) (l : List Bs) (er : Int) (w : World) (e : Ending) (w' : World) : Prop := ∃ v, e = .returned (.tuple #[v, .int .i64 er]) ∧ OwnD w' B v l ∧ Mod [] w w'
def pathOf (hf : Bs → Bs) (ls : List Bs) (i : Int) : List Bs := if i < 0 ∨ (ls.length : Int) ≤ i then [] else pathH hf ls i.toNat
def pathE (n : Nat) (i : Int) : Int := if i < 0 ∨ (n : Int) ≤ i then 41 else 0
def growOf (hf : Bs → Bs) (ls : List Bs) (m : Int) : List Bs := if m ≤ 0 ∨ (ls.length : Int) < m then [] else growH hf ls m.toNat true
def growE (n : Nat) (m : Int) : Int := if m < 0 ∨ (n : Int) < m then 40 else 0
set_option maxRecDepth 100000 in
theorem Path_any {hf : Bs → Bs} (xs : List SlR) (p : Option Addr) (c n : Nat) (i : Int) (w : World) (hn : n = xs.length) (h : Lv w p c xs) (H : Hs hf w) :
    Calls Tryd.prog 27 #[.slice p n c, .int .i64 i] w (DgErr w.heap.size (pathOf hf (ds xs) i) (pathE n i) w) := by
  have hl := h.len
  unfold pathOf pathE
  rw [List.length_map, ← hn]
  by_cases hi : i < 0 ∨ (n : Int) ≤ i
  · rw [if_pos hi, if_pos hi]
    by_cases h3 : i < 0
    · clear hi h H hn
      go_enter Tryd.func27, Tryd.ntmps27
      go_wp2_with fail
      go_ret2
      exact ⟨_, rfl, OwnN.nil _ _ _ _ _, Mod.refl _ _⟩
    · have h4 : (n : Int) ≤ i := by omega
      clear hi h H hn
      go_enter Tryd.func27, Tryd.ntmps27
      go_wp2_with fail
      go_ret2
      exact ⟨_, rfl, OwnN.nil _ _ _ _ _, Mod.refl _ _⟩
  · rw [if_neg hi, if_neg hi]
    obtain ⟨j, rfl⟩ : ∃ j : Nat, i = j := ⟨i.toNat, by omega⟩
    rw [Int.toNat_natCast]
    have HA := Lib.hid (path_any n xs p c n j w hn (Nat.le_refl _) (by omega) h H)
    have h5 : (j : Int) < (n : Int) := by omega
    clear h H hn hi
    go_enter Tryd.func27, Tryd.ntmps27
    go_wp2_with fail
    refine HA.out.mono ?_
    rintro e w1 ⟨v, rfl, ho, m1⟩
    go_wp2_with fail
    go_ret2
    exact ⟨_, rfl, ho, m1⟩
set_option maxRecDepth 100000 in
theorem Growth_any {hf : Bs → Bs} (xs : List SlR) (p : Option Addr) (c n : Nat) (m : Int) (w : World) (hn : n = xs.length) (h : Lv w p c xs) (H : Hs hf w) :
    Calls Tryd.prog 41 #[.slice p n c, .int .i64 m] w (DgErr w.heap.size (growOf hf (ds xs) m) (growE n m) w) := by
  have hl := h.len
  unfold growOf growE
  rw [List.length_map, ← hn]
  by_cases h3 : m < 0
  · rw [if_pos (by omega), if_pos (by omega)]
    clear h H hn
    go_enter Tryd.func41, Tryd.ntmps41
    go_wp2_with fail
    go_ret2
    exact ⟨_, rfl, OwnN.nil _ _ _ _ _, Mod.refl _ _⟩
  by_cases h4 : (n : Int) < m
  · rw [if_pos (by omega), if_pos (by omega)]
    clear h H hn
    go_enter Tryd.func41, Tryd.ntmps41
    go_wp2_with fail
    go_ret2
    exact ⟨_, rfl, OwnN.nil _ _ _ _ _, Mod.refl _ _⟩
  obtain ⟨j, rfl⟩ : ∃ j : Nat, m = j := ⟨m.toNat, by omega⟩
  by_cases h0 : j = 0
  · subst h0
    rw [if_pos (by omega), if_neg (by omega)]
    have h5 : (0 : Int) ≤ (n : Int) := by omega
    clear h H hn h4 h3
    go_enter Tryd.func41, Tryd.ntmps41
    go_wp2_with fail
    go_ret2
    exact ⟨_, rfl, OwnN.nil _ _ _ _ _, Mod.refl _ _⟩
  · rw [if_neg (by omega), if_neg (by omega), Int.toNat_natCast]
    have HA := Lib.hid (growth_any n xs p c n j true w hn (Nat.le_refl _) (by omega) (by omega) h H)
    have h5 : (j : Int) ≤ (n : Int) := by omega
    have e1 : decide ((j : Int) = 0) = false := by simp; omega
    have e2 : ((j : Int) == 0) = false := by simp; omega
    clear h H hn h0
    go_enter Tryd.func41, Tryd.ntmps41
    go_wp2_with fail
    refine HA.out.mono ?_
    rintro e w1 ⟨v, rfl, ho, m1⟩
    go_wp2_with fail
    go_ret2
    exact ⟨_, rfl, ho, m1⟩
end Go.Proofs.YtbbobpjcbnfpfaaDoor
