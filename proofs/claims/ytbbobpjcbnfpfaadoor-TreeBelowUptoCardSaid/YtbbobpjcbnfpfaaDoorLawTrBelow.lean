/- TreeBelow. Conditions: the three tables lie in their variables; fewer than 2^42 bytes a leaf. -/
import Derived.Test.YtbbobpjcbnfpfaaDoorTrDs
namespace Go.Proofs.YtbbobpjcbnfpfaaDoor
open Go.RowKit
attribute [local go_sem high] one8 st8 cm8 b_and8 b_and8r b_and8l b_or8 b_or8r b_or8l b_xor8 b_xor8r b_xor8l b_andNot8 b_andNot8r b_andNot8l b_add8 b_add8r b_add8l b_sub8 b_sub8r b_sub8l b_mul8 b_mul8r b_mul8l b_eql8 b_eql8r b_eql8l b_neq8 b_neq8r b_neq8l b_lss8 b_lss8r b_lss8l b_leq8 b_leq8r b_leq8l b_gtr8 b_gtr8r b_gtr8l b_geq8 b_geq8r b_geq8l b_quo8r b_rem8r b_shl8r b_shr8r b_shl8l b_shr8l u_xor8 g_eql8 g_neq8 g_eql8' g_neq8' one32 st32 cm32 b_and32 b_and32r b_and32l b_or32 b_or32r b_or32l b_xor32 b_xor32r b_xor32l b_andNot32 b_andNot32r b_andNot32l b_add32 b_add32r b_add32l b_sub32 b_sub32r b_sub32l b_mul32 b_mul32r b_mul32l b_eql32 b_eql32r b_eql32l b_neq32 b_neq32r b_neq32l b_lss32 b_lss32r b_lss32l b_leq32 b_leq32r b_leq32l b_gtr32 b_gtr32r b_gtr32l b_geq32 b_geq32r b_geq32l b_quo32r b_rem32r b_shl32r b_shr32r b_shl32l b_shr32l u_xor32 g_eql32 g_neq32 g_eql32' g_neq32' one64 st64 cm64 b_and64 b_and64r b_and64l b_or64 b_or64r b_or64l b_xor64 b_xor64r b_xor64l b_andNot64 b_andNot64r b_andNot64l b_add64 b_add64r b_add64l b_sub64 b_sub64r b_sub64l b_mul64 b_mul64r b_mul64l b_eql64 b_eql64r b_eql64l b_neq64 b_neq64r b_neq64l b_lss64 b_lss64r b_lss64l b_leq64 b_leq64r b_leq64l b_gtr64 b_gtr64r b_gtr64l b_geq64 b_geq64r b_geq64l b_quo64r b_rem64r b_shl64r b_shr64r b_shl64l b_shr64l u_xor64 g_eql64 g_neq64 g_eql64' g_neq64' c_u8_u8 c_u8_u32 c_u8_u64 c_i_u8 c_u32_u8 c_u32_u32 c_u32_u64 c_i_u32 c_u64_u8 c_u64_u32 c_u64_u64 c_i_u64 c_u8_i c_u32_i
attribute [local go_sem ↓] ce8 ce32 ce64
attribute [local go_sem ↓] sliced_slp loadO26 storeO26 buildSlO42 buildO24
set_option maxRecDepth 100000 in
set_option maxHeartbeats 2000000 in
theorem below_law {hf : Bs → Bs} (pa pb pc : Option Addr) (ca cb cc : Nat) (a b c : Bs) (w : World) (ha : Rd V8 w pa ca a) (hb : Rd V8 w pb cb b) (hc : Rd V8 w pc cc c) (la : a.length ≤ 4398046511104) (lb : b.length ≤ 4398046511104) (lc : c.length ≤ 4398046511104) (H : Hs hf w) :
    Calls Tryd.prog 7 #[.slice pa a.length ca, .slice pb b.length cb, .slice pc c.length cc] w fun e w' => e = .returned (.bool true) ∧ Mod [] w w' := by
  have HH := Lib.hid H
  have HA := Lib.hid ha
  have HB := Lib.hid hb
  have HC := Lib.hid hc
  have HLEN := Lib.hid H.len
  clear H ha hb hc
  go_enter Tryd.func7, Tryd.ntmps7
  go_wp2_with fail
  refine (awake_any w HH.out).mono ?_
  rintro e w0 ⟨rfl, m0⟩
  have M0 := Lib.hid m0
  clear m0
  go_wp2_with fail
  refine (parts2 _ _ (by simp) (HH.out.mod0 M0.out) pa ca a (HA.out.mod0 M0.out) la).mono ?_
  rintro e w1 ⟨rfl, m1⟩
  have hS := storeNewD w1 (leafH hf a) (HLEN.out _)
  have D1 := Lib.hid ((DgAt.nil w0).new (m1) (leafH hf a) (HLEN.out _) _ rfl)
  have M1 := Lib.hid (M0.out.trans0 ((m1).alloc (.cells ((leafH hf a).map V8).toArray 24)))
  clear m1
  go_wp2_with fail
  clear hS
  refine (parts2 _ _ (by simp) (HH.out.mod0 M1.out) pb cb b (HB.out.mod0 M1.out) lb).mono ?_
  rintro e w2 ⟨rfl, m2⟩
  have hS := storeNewD w2 (leafH hf b) (HLEN.out _)
  have D2 := Lib.hid (D1.out.new (m2) (leafH hf b) (HLEN.out _) _ rfl)
  have M2 := Lib.hid (M1.out.trans0 ((m2).alloc (.cells ((leafH hf b).map V8).toArray 24)))
  clear m2
  go_wp2_with fail
  clear hS
  refine (parts2 _ _ (by simp) (HH.out.mod0 M2.out) pc cc c (HC.out.mod0 M2.out) lc).mono ?_
  rintro e w3 ⟨rfl, m3⟩
  have hS := storeNewD w3 (leafH hf c) (HLEN.out _)
  have D3 := Lib.hid (D2.out.new (m3) (leafH hf c) (HLEN.out _) _ rfl)
  have M3 := Lib.hid (M2.out.trans0 ((m3).alloc (.cells ((leafH hf c).map V8).toArray 24)))
  clear m3
  go_upto_region 5 with fail
  clear hS
  obtain ⟨U4, hU4⟩ : ∃ U, U = (w3.alloc (.cells ((leafH hf c).map V8).toArray 24)) := ⟨_, rfl⟩
  rw [← hU4] at M3 D3 ⊢
  clear hU4
  have HX4 := Lib.hid (D3.out.at_ 2 _ _ rfl).2
  have HY4 := Lib.hid (D3.out.at_ 1 _ _ rfl).2
  have HA4 := Lib.hid (show (leafH hf a).length = 32 from HLEN.out _)
  have HB4 := Lib.hid (show (leafH hf b).length = 32 from HLEN.out _)
  go_cut [11] (fun s wx => ∃ bx : Nat, s = .pointer (some ⟨bx, 0, none⟩) ∧ DgAt wx ((bx, nodeH hf (leafH hf a) (leafH hf b)) :: [(w3.heap.size, leafH hf c), (w2.heap.size, leafH hf b), (w1.heap.size, leafH hf a)]) ∧ Mod [] w wx)
  case first =>
    go_region_law (first
      | (go_simp; go_at_call 39; with_reducible refine (parts3A U4 (HH.out.mod0 M3.out) _ _ (leafH hf a) (leafH hf b) HA4.out HB4.out HX4.out HY4.out).mono ?_
         rintro _ w4 ⟨rfl, m4'⟩
         have N4 := Lib.hid m4'
         have hS := storeNewD w4 (nodeH hf (leafH hf a) (leafH hf b)) (HLEN.out _)
         clear m4')
      | (go_simp; go_at_call 39; with_reducible refine (parts3B U4 (HH.out.mod0 M3.out) _ _ (leafH hf a) (leafH hf b) HA4.out HB4.out HX4.out HY4.out _).mono ?_
         rintro _ w4 ⟨rfl, m4', hz⟩
         have N4 := Lib.hid m4'
         have hS := storeDv (nodeH hf (leafH hf a) (leafH hf b)) (HLEN.out _) hz rfl
         have HZ := Lib.hid hz
         clear m4' hz)
      | (go_simp; go_at_call 39; with_reducible refine (parts3C U4 (HH.out.mod0 M3.out) _ _ (leafH hf a) (leafH hf b) HA4.out HB4.out HX4.out HY4.out _).mono ?_
         rintro _ w4 ⟨rfl, m4', hz⟩
         have N4 := Lib.hid m4'
         have hS := storeDv (nodeH hf (leafH hf a) (leafH hf b)) (HLEN.out _) hz rfl
         have HZ := Lib.hid hz
         clear m4' hz)
      | (go_simp; go_at_call 39; with_reducible refine (parts3D U4 (HH.out.mod0 M3.out) _ _ (leafH hf a) (leafH hf b) HA4.out HB4.out HX4.out HY4.out _).mono ?_
         rintro _ w4 ⟨rfl, m4', hz⟩
         have N4 := Lib.hid m4'
         have hS := storeDv (nodeH hf (leafH hf a) (leafH hf b)) (HLEN.out _) hz rfl
         have HZ := Lib.hid hz
         clear m4' hz))
    all_goals
      go_wp2_with fail
      go_meet
      case rel =>
        first
        | exact ⟨_, rfl, D3.out.new N4.out _ (HLEN.out _) _ rfl, (M3.out.trans0 N4.out).alloc _⟩
        | exact ⟨_, rfl, D3.out.set N4.out _ (HLEN.out _) _ (by omega) _ HZ.out, (M3.out.trans0 N4.out).setRow (.inr (by have := M3.out.size; omega)) _⟩
  case rest =>
  rename_i v11
  obtain ⟨b4, rfl, hd4, hm4⟩ := hcut
  have D4 := Lib.hid hd4
  have M4 := Lib.hid hm4
  clear hd4 hm4 HX4 HY4
  go_upto_region 6 with fail
  skip
  obtain ⟨U5, hU5⟩ : ∃ U, U = wc := ⟨_, rfl⟩
  rw [← hU5] at M4 D4 ⊢
  clear hU5
  have HX5 := Lib.hid (D4.out.at_ 0 _ _ rfl).2
  have HY5 := Lib.hid (D4.out.at_ 1 _ _ rfl).2
  have HA5 := Lib.hid (show (nodeH hf (leafH hf a) (leafH hf b)).length = 32 from HLEN.out _)
  have HB5 := Lib.hid (show (leafH hf c).length = 32 from HLEN.out _)
  go_cut [12] (fun s wx => ∃ bx : Nat, s = .pointer (some ⟨bx, 0, none⟩) ∧ DgAt wx ((bx, nodeH hf (nodeH hf (leafH hf a) (leafH hf b)) (leafH hf c)) :: [(b4, nodeH hf (leafH hf a) (leafH hf b)), (w3.heap.size, leafH hf c), (w2.heap.size, leafH hf b), (w1.heap.size, leafH hf a)]) ∧ Mod [] w wx)
  case first =>
    go_region_law (first
      | (go_simp; go_at_call 39; with_reducible refine (parts3A U5 (HH.out.mod0 M4.out) _ _ (nodeH hf (leafH hf a) (leafH hf b)) (leafH hf c) HA5.out HB5.out HX5.out HY5.out).mono ?_
         rintro _ w5 ⟨rfl, m5'⟩
         have N5 := Lib.hid m5'
         have hS := storeNewD w5 (nodeH hf (nodeH hf (leafH hf a) (leafH hf b)) (leafH hf c)) (HLEN.out _)
         clear m5')
      | (go_simp; go_at_call 39; with_reducible refine (parts3B U5 (HH.out.mod0 M4.out) _ _ (nodeH hf (leafH hf a) (leafH hf b)) (leafH hf c) HA5.out HB5.out HX5.out HY5.out _).mono ?_
         rintro _ w5 ⟨rfl, m5', hz⟩
         have N5 := Lib.hid m5'
         have hS := storeDv (nodeH hf (nodeH hf (leafH hf a) (leafH hf b)) (leafH hf c)) (HLEN.out _) hz rfl
         have HZ := Lib.hid hz
         clear m5' hz)
      | (go_simp; go_at_call 39; with_reducible refine (parts3C U5 (HH.out.mod0 M4.out) _ _ (nodeH hf (leafH hf a) (leafH hf b)) (leafH hf c) HA5.out HB5.out HX5.out HY5.out _).mono ?_
         rintro _ w5 ⟨rfl, m5', hz⟩
         have N5 := Lib.hid m5'
         have hS := storeDv (nodeH hf (nodeH hf (leafH hf a) (leafH hf b)) (leafH hf c)) (HLEN.out _) hz rfl
         have HZ := Lib.hid hz
         clear m5' hz)
      | (go_simp; go_at_call 39; with_reducible refine (parts3D U5 (HH.out.mod0 M4.out) _ _ (nodeH hf (leafH hf a) (leafH hf b)) (leafH hf c) HA5.out HB5.out HX5.out HY5.out _).mono ?_
         rintro _ w5 ⟨rfl, m5', hz⟩
         have N5 := Lib.hid m5'
         have hS := storeDv (nodeH hf (nodeH hf (leafH hf a) (leafH hf b)) (leafH hf c)) (HLEN.out _) hz rfl
         have HZ := Lib.hid hz
         clear m5' hz))
    all_goals
      go_wp2_with fail
      go_meet
      case rel =>
        first
        | exact ⟨_, rfl, D4.out.new N5.out _ (HLEN.out _) _ rfl, (M4.out.trans0 N5.out).alloc _⟩
        | exact ⟨_, rfl, D4.out.set N5.out _ (HLEN.out _) _ (by omega) _ HZ.out, (M4.out.trans0 N5.out).setRow (.inr (by have := M4.out.size; omega)) _⟩
  case rest =>
  rename_i v12
  obtain ⟨b5, rfl, hd5, hm5⟩ := hcut
  have D5 := Lib.hid hd5
  have M5 := Lib.hid hm5
  clear hd5 hm5 HX5 HY5
  go_wp2_with fail
  refine ((HH.out.mod0 M5.out).sum none 0 0 [] rfl (Rd.nil _ _ _ _) (by simp)).mono ?_
  rintro e w6 ⟨rfl, m6⟩
  have hS := storeNewD w6 (hf []) (HLEN.out _)
  have D6 := Lib.hid (D5.out.new (m6) (hf []) (HLEN.out _) _ rfl)
  have M6 := Lib.hid (M5.out.trans0 ((m6).alloc (.cells ((hf []).map V8).toArray 24)))
  clear m6
  go_wp2_with fail
  clear hS
  refine (leaf_any pa ca _ a _ rfl (HA.out.mod0 M6.out) (HH.out.mod0 M6.out) la).mono ?_
  rintro e w7 ⟨rfl, m7⟩
  have hS := storeNewD w7 (leafH hf a) (HLEN.out _)
  have D7 := Lib.hid (D6.out.new (m7) (leafH hf a) (HLEN.out _) _ rfl)
  have M7 := Lib.hid (M6.out.trans0 ((m7).alloc (.cells ((leafH hf a).map V8).toArray 24)))
  clear m7
  have hLx := D7.out.load 6 _ _ rfl
  have hLy := D7.out.load 5 _ _ rfl
  go_wp2_with fail
  clear hS
  refine (node_any (leafH hf a) (leafH hf b) (HLEN.out _) (HLEN.out _) _ (HH.out.mod0 M7.out)).mono ?_
  rintro e w8 ⟨rfl, m8⟩
  have hS := storeNewD w8 (nodeH hf (leafH hf a) (leafH hf b)) (HLEN.out _)
  have D8 := Lib.hid (D7.out.new (m8) (nodeH hf (leafH hf a) (leafH hf b)) (HLEN.out _) _ rfl)
  have M8 := Lib.hid (M7.out.trans0 ((m8).alloc (.cells ((nodeH hf (leafH hf a) (leafH hf b)).map V8).toArray 24)))
  clear m8
  clear hLx hLy
  have r0 : rootH hf (ds []) = hf [] := by rw [rootH.eq_def]; rfl
  have HQ9 := root_any (hf := hf) 0 [] none 0 0 (w8.alloc (.cells ((nodeH hf (leafH hf a) (leafH hf b)).map V8).toArray 24)) rfl (by omega) ⟨Rd.nil _ _ _ _, by simp, by simp, by simp⟩ (HH.out.mod0 M8.out)
  rw [r0] at HQ9
  have HQQ9 := Lib.hid HQ9
  clear r0 HQ9
  go_wp2_with fail
  clear hS
  refine (HQQ9.out).mono ?_
  rintro e w9 ⟨rfl, m9⟩
  have hS := storeNewD w9 (hf []) (HLEN.out _)
  have D9 := Lib.hid (D8.out.new (m9) (hf []) (HLEN.out _) _ rfl)
  have M9 := Lib.hid (M8.out.trans0 ((m9).alloc (.cells ((hf []).map V8).toArray 24)))
  clear m9
  have Q10 := (Mod.refl [] (w9.alloc (.cells ((hf []).map V8).toArray 24))).alloc (.cells #[.slice pc c.length cc] 22)
  have N10 := M9.out.trans0 Q10
  have r10 : rootH hf (ds [⟨pc, cc, c⟩]) = leafH hf c := by rw [rootH.eq_def]; rfl
  have HQ10 := root_any (hf := hf) 1 [⟨pc, cc, c⟩] (some ⟨w9.heap.size + 1, 0, none⟩) 1 1 ((w9.alloc (.cells ((hf []).map V8).toArray 24)).alloc (.cells #[.slice pc c.length cc] 22)) rfl (Nat.le_refl _) (lv_few (t := 22) (fr := (0, 0)) (hp_new _ _ _ (by simp)) (by simp) (by
    intro x hx
    simp only [List.mem_cons, List.not_mem_nil, or_false] at hx
    rcases hx with rfl
    · exact ⟨HC.out.mod0 N10, lc⟩) (by simp)) (HH.out.mod0 N10)
  rw [r10] at HQ10
  have HQQ10 := Lib.hid HQ10
  have QQ10 := Lib.hid Q10
  clear r10 Q10 N10 HQ10
  go_wp2_with fail
  clear hS
  refine HQQ10.out.mono ?_
  rintro e w10 ⟨rfl, m10⟩
  have hS := storeNewD w10 (leafH hf c) (HLEN.out _)
  have D10 := Lib.hid (D9.out.new (QQ10.out.trans0 m10) (leafH hf c) (HLEN.out _) _ rfl)
  have M10 := Lib.hid (M9.out.trans0 ((QQ10.out.trans0 m10).alloc (.cells ((leafH hf c).map V8).toArray 24)))
  clear m10
  have Q11 := (Mod.refl [] (w10.alloc (.cells ((leafH hf c).map V8).toArray 24))).alloc (.cells #[.slice pa a.length ca, .slice pb b.length cb] 22)
  have N11 := M10.out.trans0 Q11
  have r11 : rootH hf (ds [⟨pa, ca, a⟩, ⟨pb, cb, b⟩]) = nodeH hf (leafH hf a) (leafH hf b) := root2 hf a b
  have HQ11 := root_any (hf := hf) 2 [⟨pa, ca, a⟩, ⟨pb, cb, b⟩] (some ⟨w10.heap.size + 1, 0, none⟩) 2 2 ((w10.alloc (.cells ((leafH hf c).map V8).toArray 24)).alloc (.cells #[.slice pa a.length ca, .slice pb b.length cb] 22)) rfl (Nat.le_refl _) (lv_few (t := 22) (fr := (0, 0)) (hp_new _ _ _ (by simp)) (by simp) (by
    intro x hx
    simp only [List.mem_cons, List.not_mem_nil, or_false] at hx
    rcases hx with rfl | rfl
    · exact ⟨HA.out.mod0 N11, la⟩
    · exact ⟨HB.out.mod0 N11, lb⟩) (by simp)) (HH.out.mod0 N11)
  rw [r11] at HQ11
  have HQQ11 := Lib.hid HQ11
  have QQ11 := Lib.hid Q11
  clear r11 Q11 N11 HQ11
  go_wp2_with fail
  clear hS
  refine HQQ11.out.mono ?_
  rintro e w11 ⟨rfl, m11⟩
  have hS := storeNewD w11 (nodeH hf (leafH hf a) (leafH hf b)) (HLEN.out _)
  have D11 := Lib.hid (D10.out.new (QQ11.out.trans0 m11) (nodeH hf (leafH hf a) (leafH hf b)) (HLEN.out _) _ rfl)
  have M11 := Lib.hid (M10.out.trans0 ((QQ11.out.trans0 m11).alloc (.cells ((nodeH hf (leafH hf a) (leafH hf b)).map V8).toArray 24)))
  clear m11
  have Q12 := (Mod.refl [] (w11.alloc (.cells ((nodeH hf (leafH hf a) (leafH hf b)).map V8).toArray 24))).alloc (.cells #[.slice pa a.length ca, .slice pb b.length cb, .slice pc c.length cc] 22)
  have N12 := M11.out.trans0 Q12
  have r12 : rootH hf (ds [⟨pa, ca, a⟩, ⟨pb, cb, b⟩, ⟨pc, cc, c⟩]) = nodeH hf (nodeH hf (leafH hf a) (leafH hf b)) (leafH hf c) := root3 hf a b c
  have HQ12 := root_any (hf := hf) 3 [⟨pa, ca, a⟩, ⟨pb, cb, b⟩, ⟨pc, cc, c⟩] (some ⟨w11.heap.size + 1, 0, none⟩) 3 3 ((w11.alloc (.cells ((nodeH hf (leafH hf a) (leafH hf b)).map V8).toArray 24)).alloc (.cells #[.slice pa a.length ca, .slice pb b.length cb, .slice pc c.length cc] 22)) rfl (Nat.le_refl _) (lv_few (t := 22) (fr := (0, 0)) (hp_new _ _ _ (by simp)) (by simp) (by
    intro x hx
    simp only [List.mem_cons, List.not_mem_nil, or_false] at hx
    rcases hx with rfl | rfl | rfl
    · exact ⟨HA.out.mod0 N12, la⟩
    · exact ⟨HB.out.mod0 N12, lb⟩
    · exact ⟨HC.out.mod0 N12, lc⟩) (by simp)) (HH.out.mod0 N12)
  rw [r12] at HQ12
  have HQQ12 := Lib.hid HQ12
  have QQ12 := Lib.hid Q12
  clear r12 Q12 N12 HQ12
  go_wp2_with fail
  clear hS
  refine HQQ12.out.mono ?_
  rintro e w12 ⟨rfl, m12⟩
  have hS := storeNewD w12 (nodeH hf (nodeH hf (leafH hf a) (leafH hf b)) (leafH hf c)) (HLEN.out _)
  have D12 := Lib.hid (D11.out.new (QQ12.out.trans0 m12) (nodeH hf (nodeH hf (leafH hf a) (leafH hf b)) (leafH hf c)) (HLEN.out _) _ rfl)
  have M12 := Lib.hid (M11.out.trans0 ((QQ12.out.trans0 m12).alloc (.cells ((nodeH hf (nodeH hf (leafH hf a) (leafH hf b)) (leafH hf c)).map V8).toArray 24)))
  clear m12
  have hl1 := D12.out.load 11 _ _ rfl
  have hl2 := D12.out.load 10 _ _ rfl
  have hl3 := D12.out.load 9 _ _ rfl
  have hl4 := D12.out.load 8 _ _ rfl
  have hl5 := D12.out.load 7 _ _ rfl
  have hl6 := D12.out.load 6 _ _ rfl
  have hl7 := D12.out.load 5 _ _ rfl
  have hl8 := D12.out.load 4 _ _ rfl
  have hl9 := D12.out.load 3 _ _ rfl
  have hl10 := D12.out.load 2 _ _ rfl
  have hl11 := D12.out.load 1 _ _ rfl
  have hl12 := D12.out.load 0 _ _ rfl
  have hE0 := fun w => eqD w (leafH hf a) (leafH hf a) (HLEN.out _) (HLEN.out _)
  have hE1 := fun w => eqD w (leafH hf c) (leafH hf c) (HLEN.out _) (HLEN.out _)
  have hE2 := fun w => eqD w (hf []) (hf []) (HLEN.out _) (HLEN.out _)
  have hE3 := fun w => eqD w (nodeH hf (leafH hf a) (leafH hf b)) (nodeH hf (leafH hf a) (leafH hf b)) (HLEN.out _) (HLEN.out _)
  have hE4 := fun w => eqD w (nodeH hf (nodeH hf (leafH hf a) (leafH hf b)) (leafH hf c)) (nodeH hf (nodeH hf (leafH hf a) (leafH hf b)) (leafH hf c)) (HLEN.out _) (HLEN.out _)
  have hG := eqGuardD
  go_wp2_with fail
  go_ret
  exact ⟨rfl, M12.out⟩
end Go.Proofs.YtbbobpjcbnfpfaaDoor
