/- awake; DigestSums. Conditions: the three tables lie in their variables; fewer than 2^46 bytes. -/
import Derived.Test.YtmjdfglidfdkaaaDoorLawFns
import Derived.Test.YtmjdfglidfdkaaaDoorRfFns
import Derived.Test.YtmjdfglidfdkaaaDoorAbc
import Derived.Stop.BytesEq
import Derived.Lib.SlBytesConst
namespace Go.Proofs.YtmjdfglidfdkaaaDoor
open Go.RowKit
attribute [local go_sem high] one8 st8 cm8 b_and8 b_and8r b_and8l b_or8 b_or8r b_or8l b_xor8 b_xor8r b_xor8l b_andNot8 b_andNot8r b_andNot8l b_add8 b_add8r b_add8l b_sub8 b_sub8r b_sub8l b_mul8 b_mul8r b_mul8l b_eql8 b_eql8r b_eql8l b_neq8 b_neq8r b_neq8l b_lss8 b_lss8r b_lss8l b_leq8 b_leq8r b_leq8l b_gtr8 b_gtr8r b_gtr8l b_geq8 b_geq8r b_geq8l b_quo8r b_rem8r b_shl8r b_shr8r b_shl8l b_shr8l u_xor8 g_eql8 g_neq8 g_eql8' g_neq8' one32 st32 cm32 b_and32 b_and32r b_and32l b_or32 b_or32r b_or32l b_xor32 b_xor32r b_xor32l b_andNot32 b_andNot32r b_andNot32l b_add32 b_add32r b_add32l b_sub32 b_sub32r b_sub32l b_mul32 b_mul32r b_mul32l b_eql32 b_eql32r b_eql32l b_neq32 b_neq32r b_neq32l b_lss32 b_lss32r b_lss32l b_leq32 b_leq32r b_leq32l b_gtr32 b_gtr32r b_gtr32l b_geq32 b_geq32r b_geq32l b_quo32r b_rem32r b_shl32r b_shr32r b_shl32l b_shr32l u_xor32 g_eql32 g_neq32 g_eql32' g_neq32' one64 st64 cm64 b_and64 b_and64r b_and64l b_or64 b_or64r b_or64l b_xor64 b_xor64r b_xor64l b_andNot64 b_andNot64r b_andNot64l b_add64 b_add64r b_add64l b_sub64 b_sub64r b_sub64l b_mul64 b_mul64r b_mul64l b_eql64 b_eql64r b_eql64l b_neq64 b_neq64r b_neq64l b_lss64 b_lss64r b_lss64l b_leq64 b_leq64r b_leq64l b_gtr64 b_gtr64r b_gtr64l b_geq64 b_geq64r b_geq64l b_quo64r b_rem64r b_shl64r b_shr64r b_shl64l b_shr64l u_xor64 g_eql64 g_neq64 g_eql64' g_neq64' c_u8_u8 c_u8_u32 c_u8_u64 c_i_u8 c_u32_u8 c_u32_u32 c_u32_u64 c_i_u32 c_u64_u8 c_u64_u32 c_u64_u64 c_i_u64 c_u8_i c_u32_i
attribute [local go_sem ↓] ce8 ce32 ce64
attribute [local go_sem ↓] loadO26 storeO26
attribute [local irreducible] compress hst laidOf fin refOf
theorem Tab.lt {w : World} (h : Tab w) : 1 < w.heap.size := block_lt_of_cell (h 0 _ (cell_map V32 steps 0 0 (by rw [steps_length]; omega)))
theorem eqD (w : World) (a b : List UInt8) (ha : a.length = 32) (hb : b.length = 32) : (binOp .eql 26 (dv a) (dv b)).run Tryd.prog w = .ok (.bool (a == b)) w :=
  run_eql_bytes w _ 5 32 Tryd.underlying26 Tryd.underlying5 Tryd.sizeOf5 a b ha hb
theorem eqFin (w : World) (l l' : List UInt8) : (binOp .eql 26 (dv (fin l 0 0)) (dv (fin l' 0 0))).run Tryd.prog w = .ok (.bool (fin l 0 0 == fin l' 0 0)) w := eqD w _ _ (fin_length _ _ _) (fin_length _ _ _)
theorem eqGuardD (w : World) (op : BinOp) (x y : Operand) (a b : List UInt8) : (eqGuard op 26 x y (dv a) (dv b)).run Tryd.prog w = .ok () w :=
  run_eqGuard_agg w op _ x y _ _ Tryd.eqGuardType26
theorem loadDv {w : World} {b : Nat} (p : List UInt8) (hp : p.length = 32) (hg : w.heap[b]? = some (.cells (p.map V8).toArray 26 (0, 0))) :
    (LoadO 26 (.pointer (some ⟨b, 0, none⟩))).run Tryd.prog w = .ok (dv p) w := loadD p hp hg
/-- A digest goes into the variable that has just been made for it. -/
theorem storeNewD (w : World) (d : List UInt8) (hd : d.length = 32) : (StoreO 26 (.pointer (some ⟨w.heap.size, 0, none⟩)) (dv d)).run Tryd.prog (w.alloc (.cells #[Value.int .u8 0, Value.int .u8 0, Value.int .u8 0, Value.int .u8 0, Value.int .u8 0, Value.int .u8 0, Value.int .u8 0, Value.int .u8 0, Value.int .u8 0, Value.int .u8 0, Value.int .u8 0, Value.int .u8 0, Value.int .u8 0, Value.int .u8 0, Value.int .u8 0, Value.int .u8 0, Value.int .u8 0, Value.int .u8 0, Value.int .u8 0, Value.int .u8 0, Value.int .u8 0, Value.int .u8 0, Value.int .u8 0, Value.int .u8 0, Value.int .u8 0, Value.int .u8 0, Value.int .u8 0, Value.int .u8 0, Value.int .u8 0, Value.int .u8 0, Value.int .u8 0, Value.int .u8 0] 26)) = .ok () (w.alloc (.cells (d.map V8).toArray 26)) := by
  have h := storeDv (w := w.alloc (.cells #[Value.int .u8 0, Value.int .u8 0, Value.int .u8 0, Value.int .u8 0, Value.int .u8 0, Value.int .u8 0, Value.int .u8 0, Value.int .u8 0, Value.int .u8 0, Value.int .u8 0, Value.int .u8 0, Value.int .u8 0, Value.int .u8 0, Value.int .u8 0, Value.int .u8 0, Value.int .u8 0, Value.int .u8 0, Value.int .u8 0, Value.int .u8 0, Value.int .u8 0, Value.int .u8 0, Value.int .u8 0, Value.int .u8 0, Value.int .u8 0, Value.int .u8 0, Value.int .u8 0, Value.int .u8 0, Value.int .u8 0, Value.int .u8 0, Value.int .u8 0, Value.int .u8 0, Value.int .u8 0] 26)) d hd (hp_new w _ _ rfl) rfl
  rw [setRow_alloc_at _ _ _ _ _ rfl] at h
  exact h
theorem storeNewFin (w : World) (l : List UInt8) : (StoreO 26 (.pointer (some ⟨w.heap.size, 0, none⟩)) (dv (fin l 0 0))).run Tryd.prog (w.alloc (.cells #[Value.int .u8 0, Value.int .u8 0, Value.int .u8 0, Value.int .u8 0, Value.int .u8 0, Value.int .u8 0, Value.int .u8 0, Value.int .u8 0, Value.int .u8 0, Value.int .u8 0, Value.int .u8 0, Value.int .u8 0, Value.int .u8 0, Value.int .u8 0, Value.int .u8 0, Value.int .u8 0, Value.int .u8 0, Value.int .u8 0, Value.int .u8 0, Value.int .u8 0, Value.int .u8 0, Value.int .u8 0, Value.int .u8 0, Value.int .u8 0, Value.int .u8 0, Value.int .u8 0, Value.int .u8 0, Value.int .u8 0, Value.int .u8 0, Value.int .u8 0, Value.int .u8 0, Value.int .u8 0] 26)) = .ok () (w.alloc (.cells ((fin l 0 0).map V8).toArray 26)) := storeNewD w _ (fin_length _ _ _)
theorem awake_any (w : World) (ht : Tab w) : Calls Tryd.prog 11 #[] w fun e w' => e = .returned (.bool true) ∧ Mod [] w w' := by
  have HT := Lib.hid ht
  have hlt := ht.lt
  clear ht
  have hcv := Lib.run_convert_bytes_const (P := Tryd.prog) w 22 5 #[.int .u8 97, .int .u8 98, .int .u8 99] 3 3 Tryd.underlying22 Tryd.underlying5
  go_enter Tryd.func11, Tryd.ntmps11
  go_wp2_with fail
  refine (digest_sum (some ⟨w.heap.size, 0, none⟩) 3 [97, 98, 99] _ (Rd.of_blk (hp_new _ _ _ rfl) (fun j v hv => ?_) (by simp)) (Tab.mod ((Mod.refl [] w).alloc _) HT.out (by simp)) (by simp; omega) (by simp)).mono ?_
  · match j, hv with
    | 0, hv => exact hv
    | 1, hv => exact hv
    | 2, hv => exact hv
  rintro e w1 ⟨rfl, hm1⟩
  have hS := storeNewFin w1 [97, 98, 99]
  have hL := loadDv (w := w1.alloc (.cells ((fin [97, 98, 99] 0 0).map V8).toArray 26)) (fin [97, 98, 99] 0 0) (fin_length _ _ _) (hp_new _ _ _ rfl)
  go_wp2_with (go_at_call 33; refine (hex_any _ _ (fin_length _ _ _)).mono ?_; rintro e w2 ⟨rfl, hm2⟩; rw [abc_words])
  go_ret
  exact ⟨rfl, ((((Mod.refl [] w).alloc _).trans0 hm1).alloc _).trans0 hm2⟩
theorem alloc_hs (w : World) (o : Obj) : (w.alloc o).heap.size = w.heap.size + 1 := by simp
theorem rd_front {w : World} {g cap : Nat} {x y : List UInt8} {t : TypeId} {fr : Nat × Nat} (h : w.heap[g]? = some (.cells ((x ++ y).map V8).toArray t fr)) (hc : x.length ≤ cap) : Rd V8 w (some ⟨g, 0, none⟩) cap x :=
  Rd.of_blk h (fun j v hj => by
    have hj' : j < (x.map V8).length := (List.getElem?_eq_some_iff.1 hj).1
    rw [Nat.zero_add, List.getElem?_toArray, List.map_append, List.getElem?_append_left hj']
    exact hj) hc
theorem rd_whole {w : World} {g cap : Nat} {x : List UInt8} {t : TypeId} {fr : Nat × Nat} (h : w.heap[g]? = some (.cells (x.map V8).toArray t fr)) (hc : x.length ≤ cap) : Rd V8 w (some ⟨g, 0, none⟩) cap x :=
  rd_front (y := []) (by simpa using h) hc
/-- What the four ways to a digest of d hand back, wherever d lies. -/
structure Sums (w : World) (d : List UInt8) (x : List UInt8) : Prop where
  len : x.length = 32
  eq : x = fin d 0 0
  go : ∀ (q : Option Addr) (c n : Nat) (w1 : World), n = d.length → Rd V8 w1 q c d → Mod [] w w1 → Calls Tryd.prog 13 #[.slice q n c] w1 fun e w' => e = .returned (dv x) ∧ Mod [] w1 w'
  ref : ∀ (q : Option Addr) (c n : Nat) (w1 : World), n = d.length → Rd V8 w1 q c d → Mod [] w w1 → Calls Tryd.prog 16 #[.slice q n c] w1 fun e w' => e = .returned (dv x) ∧ Mod [] w1 w'
theorem sums_of (w : World) (d : List UInt8) (ht : Tab w) (htr : TabR w) (htb : TabB w) (hd : d.length ≤ 70368744177664) : ∃ x, Sums w d x := by
  refine ⟨fin d 0 0, fin_length _ _ _, rfl, ?_, ?_⟩
  · intro q c n w1 hn hr hm
    subst hn
    exact digest_sum q c d w1 hr (Tab.mod hm ht (by simp)) (Nat.lt_of_lt_of_le ht.lt hm.size) (by omega)
  · intro q c n w1 hn hr hm
    subst hn
    exact ref_sum q c d w1 hr hd (TabR.mod hm htr (by simp)) (TabB.mod hm htb (by simp))
set_option maxHeartbeats 1000000 in
theorem sums_any (p : Option Addr) (cap : Nat) (d : List UInt8) (w : World) (hr : Rd V8 w p cap d) (ht : Tab w) (htr : TabR w) (htb : TabB w) (hd : d.length ≤ 70368744177664) :
    Calls Tryd.prog 3 #[.slice p d.length cap] w fun e w' => e = .returned (.bool true) ∧ Mod [] w w' := by
  have HR := Lib.hid hr
  obtain ⟨x, SX⟩ := sums_of w d ht htr htb hd
  obtain ⟨y, SY⟩ := sums_of w (otherOf d) ht htr htb (by rw [otherOf_length]; exact hd)
  have hx := SX.len
  have hy := SY.len
  have HT := Lib.hid ht
  clear hr ht htr htb
  go_enter Tryd.func3, Tryd.ntmps3
  go_wp2_with fail
  refine (awake_any w HT.out).mono ?_
  rintro e w1 ⟨rfl, m1⟩
  go_wp2_with fail
  refine (lent_any p cap d w1 (HR.out.mod0 m1) hd).mono ?_
  rintro e w2 ⟨rfl, hg, m2⟩
  obtain ⟨g, hgd⟩ : ∃ g, g = w1.heap.size := ⟨_, rfl⟩
  have hgw := m1.size
  rw [← hgd] at hg hgw ⊢
  have M2 := m1.trans0 m2
  have HG := Lib.hid hg
  clear hgd hg m1 m2
  go_wp2_with fail
  refine (SX.go _ _ _ _ rfl (rd_front HG.out (by omega)) M2).mono ?_
  rintro e w3 ⟨rfl, m3⟩
  have hg3 : g < w3.heap.size := lt_of_block (m3.get0 HG.out)
  have M3 := (M2.trans0 m3).alloc (.cells (x.map V8).toArray 26)
  have HG3 := Lib.hid (hp_old (o := .cells (x.map V8).toArray 26) (m3.get0 HG.out))
  have H5 := Lib.hid (hp_new w3 (.cells (x.map V8).toArray 26) _ rfl)
  have hS := storeNewD w3 x hx
  clear m3 M2 HG
  go_wp2_with fail
  clear hS
  refine (kept_any g (d.length + 80) d p cap d (d.length + 80) rfl rfl _ (rd_whole HG3.out (by simp [marks_length])) (HR.out.mod0 M3) hd).mono ?_
  rintro e w4 ⟨rfl, m4⟩
  have M4 := M3.trans0 m4
  have HG4 := Lib.hid (m4.get0 HG3.out)
  have H5' := Lib.hid (m4.get0 H5.out)
  clear m4 M3 HG3 H5
  simp only [beq_self_eq_true]
  go_wp2_with fail
  refine (SX.go _ _ _ _ rfl (rd_front HG4.out (by omega)) M4).mono ?_
  rintro e w5 ⟨rfl, m5⟩
  have hg5 : g < w5.heap.size := lt_of_block (m5.get0 HG4.out)
  have M5 := (M4.trans0 m5).alloc (.cells (x.map V8).toArray 26)
  have HG5 := Lib.hid (hp_old (o := .cells (x.map V8).toArray 26) (m5.get0 HG4.out))
  have H55 := Lib.hid (hp_old (o := .cells (x.map V8).toArray 26) (m5.get0 H5'.out))
  have H57 := Lib.hid (hp_new w5 (.cells (x.map V8).toArray 26) _ rfl)
  have hS := storeNewD w5 x hx
  clear m5 M4 HG4 H5'
  go_wp2_with fail
  clear hS
  refine (other_any p cap d _ (HR.out.mod0 M5) hd).mono ?_
  rintro e w6 ⟨rfl, hO, m6⟩
  have HO := Lib.hid hO
  have M6 := M5.trans0 m6
  have HG6 := Lib.hid (m6.get0 HG5.out)
  have H65 := Lib.hid (m6.get0 H55.out)
  have H67 := Lib.hid (m6.get0 H57.out)
  have hgs : g < w5.heap.size + 1 := by have := lt_of_block HG5.out; simpa using this
  clear hO m6 M5 HG5 H55 H57
  go_wp2_with (with_reducible refine froz_copy _ _ rfl ?_)
  unfold Froz
  have hol := otherOf_length d
  rw [alloc_hs] at HO
  refine wpList_copy8 rfl _ _ rfl g 0 (d.length + 80) (d.length + 80) _ d.length d.length (otherOf d) (d ++ marks 80) rfl rfl HG6.out (rd_whole HO.out (by omega)) hol.symm (by simp [marks_length]) ?_
  have e1 : (d ++ marks 80).take 0 ++ ((otherOf d).take (d.length + 80) ++ (d ++ marks 80).drop (0 + min (otherOf d).length (d.length + 80))) = otherOf d ++ marks 80 := by
    rw [List.take_zero, List.nil_append, List.take_of_length_le (by omega), show 0 + min (otherOf d).length (d.length + 80) = d.length by omega, List.drop_left' rfl]
  rw [e1]
  obtain ⟨W, hW⟩ : ∃ W, W = w6.setRow g ((otherOf d ++ marks 80).map V8).toArray := ⟨_, rfl⟩
  rw [← hW]
  have M7 : Mod [] w W := by rw [hW]; exact M6.setRow (.inr hgw) _
  have HG7 := Lib.hid (show W.heap[g]? = some (.cells ((otherOf d ++ marks 80).map V8).toArray 5) by rw [hW]; exact hp_setRow HG6.out)
  have H75 := Lib.hid (show W.heap[w3.heap.size]? = some (.cells (x.map V8).toArray 26) by rw [hW]; exact hp_setRow_ne H65.out (by omega))
  have H77 := Lib.hid (show W.heap[w5.heap.size]? = some (.cells (x.map V8).toArray 26) by rw [hW]; exact hp_setRow_ne H67.out (by omega))
  clear hW e1 H65 H67 HG6 M6 HO
  go_wp2_with fail
  refine (SY.go _ _ _ _ hol.symm (rd_front HG7.out (by omega)) M7).mono ?_
  rintro e w8 ⟨rfl, m8⟩
  have M8 := (M7.trans0 m8).alloc (.cells (y.map V8).toArray 26)
  have H85 := Lib.hid (hp_old (o := .cells (y.map V8).toArray 26) (m8.get0 H75.out))
  have H87 := Lib.hid (hp_old (o := .cells (y.map V8).toArray 26) (m8.get0 H77.out))
  have H88 := Lib.hid (hp_new w8 (.cells (y.map V8).toArray 26) _ rfl)
  have hS := storeNewD w8 y hy
  clear m8 M7 H75 H77 HG7
  go_wp2_with fail
  clear hS
  refine (SX.ref _ _ _ _ rfl (HR.out.mod0 M8) M8).mono ?_
  rintro e w9 ⟨rfl, m9⟩
  have M9 := (M8.trans0 m9).alloc (.cells (x.map V8).toArray 26)
  have H95 := Lib.hid (hp_old (o := .cells (x.map V8).toArray 26) (m9.get0 H85.out))
  have H97 := Lib.hid (hp_old (o := .cells (x.map V8).toArray 26) (m9.get0 H87.out))
  have H98 := Lib.hid (hp_old (o := .cells (x.map V8).toArray 26) (m9.get0 H88.out))
  have H99 := Lib.hid (hp_new w9 (.cells (x.map V8).toArray 26) _ rfl)
  have hS := storeNewD w9 x hx
  clear m9 M8 H85 H87 H88
  go_wp2_with fail
  clear hS
  refine (other_any p cap d _ (HR.out.mod0 M9) hd).mono ?_
  rintro e wa ⟨rfl, hO, ma⟩
  rw [alloc_hs] at hO
  have HO := Lib.hid hO
  have MA := M9.trans0 ma
  have HA5 := Lib.hid (ma.get0 H95.out)
  have HA7 := Lib.hid (ma.get0 H97.out)
  have HA8 := Lib.hid (ma.get0 H98.out)
  have HA9 := Lib.hid (ma.get0 H99.out)
  clear hO ma M9 H95 H97 H98 H99
  go_wp2_with fail
  refine (SY.ref _ _ _ _ hol.symm (rd_whole HO.out (by omega)) MA).mono ?_
  rintro e wb ⟨rfl, mb⟩
  have hS := storeNewD wb y hy
  have MB := (MA.trans0 mb).alloc (.cells (y.map V8).toArray 26)
  have hL5 := loadDv x hx (hp_old (o := .cells (y.map V8).toArray 26) (mb.get0 HA5.out))
  have hL7 := loadDv x hx (hp_old (o := .cells (y.map V8).toArray 26) (mb.get0 HA7.out))
  have hL8 := loadDv y hy (hp_old (o := .cells (y.map V8).toArray 26) (mb.get0 HA8.out))
  have hL9 := loadDv x hx (hp_old (o := .cells (y.map V8).toArray 26) (mb.get0 HA9.out))
  have hLa := loadDv y hy (hp_new wb (.cells (y.map V8).toArray 26) _ rfl)
  have hE := fun w => eqD w x x hx hx
  have hE2 := fun w => eqD w y y hy hy
  have hG := eqGuardD
  clear hx hy
  go_wp2_with fail
  go_ret
  exact ⟨rfl, MB⟩
end Go.Proofs.YtmjdfglidfdkaaaDoor
