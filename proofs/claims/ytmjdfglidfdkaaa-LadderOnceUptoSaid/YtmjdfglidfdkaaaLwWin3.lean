/- LadderWindow, the whole way. No condition. -/
import Derived.Test.YtmjdfglidfdkaaaLwWin2
namespace Go.Proofs.Ytmjdfglidfdkaaa
open Go.RowKit
attribute [local go_sem high] one8 st8 cm8 b_and8 b_and8r b_and8l b_or8 b_or8r b_or8l b_xor8 b_xor8r b_xor8l b_andNot8 b_andNot8r b_andNot8l b_add8 b_add8r b_add8l b_sub8 b_sub8r b_sub8l b_mul8 b_mul8r b_mul8l b_eql8 b_eql8r b_eql8l b_neq8 b_neq8r b_neq8l b_lss8 b_lss8r b_lss8l b_leq8 b_leq8r b_leq8l b_gtr8 b_gtr8r b_gtr8l b_geq8 b_geq8r b_geq8l b_quo8r b_rem8r b_shl8r b_shr8r b_shl8l b_shr8l u_xor8 g_eql8 g_neq8 g_eql8' g_neq8' one32 st32 cm32 b_and32 b_and32r b_and32l b_or32 b_or32r b_or32l b_xor32 b_xor32r b_xor32l b_andNot32 b_andNot32r b_andNot32l b_add32 b_add32r b_add32l b_sub32 b_sub32r b_sub32l b_mul32 b_mul32r b_mul32l b_eql32 b_eql32r b_eql32l b_neq32 b_neq32r b_neq32l b_lss32 b_lss32r b_lss32l b_leq32 b_leq32r b_leq32l b_gtr32 b_gtr32r b_gtr32l b_geq32 b_geq32r b_geq32l b_quo32r b_rem32r b_shl32r b_shr32r b_shl32l b_shr32l u_xor32 g_eql32 g_neq32 g_eql32' g_neq32' one64 st64 cm64 b_and64 b_and64r b_and64l b_or64 b_or64r b_or64l b_xor64 b_xor64r b_xor64l b_andNot64 b_andNot64r b_andNot64l b_add64 b_add64r b_add64l b_sub64 b_sub64r b_sub64l b_mul64 b_mul64r b_mul64l b_eql64 b_eql64r b_eql64l b_neq64 b_neq64r b_neq64l b_lss64 b_lss64r b_lss64l b_leq64 b_leq64r b_leq64l b_gtr64 b_gtr64r b_gtr64l b_geq64 b_geq64r b_geq64l b_quo64r b_rem64r b_shl64r b_shr64r b_shl64l b_shr64l u_xor64 g_eql64 g_neq64 g_eql64' g_neq64' c_u8_u8 c_u8_u32 c_u8_u64 c_i_u8 c_u32_u8 c_u32_u32 c_u32_u64 c_i_u32 c_u64_u8 c_u64_u32 c_u64_u64 c_i_u64 c_u8_i c_u32_i
attribute [local go_sem ↓] ce8 ce32 ce64
attribute [local go_sem ↓] sliced_slp loadO25 storeO25 loadO44 storeO44 loadO35 loadO84 storeO84 buildO44 buildO25 buildO35 buildO23
/-- The assertion that is posted. -/
def xOf (c : Cm) (z t d : Int) : Pd := ⟨1, nextCm c, adr 1, t, t + z, d⟩
theorem find1 (c : Cm) (z t d : Int) : ([xOf c z t d] : List Pd).findIdx? (fun p => p.number == 1) = some 0 := by simp [xOf, List.findIdx?_cons]
theorem hold1 (c : Cm) (z t : Int) (h0 : 0 ≤ t + z) (h1 : t + z ≤ 4611686018427387904) : Lad.holdErr ⟨c, [xOf c z t 0], z, 1, t⟩ 1 (t + z) = 167 := by
  unfold Lad.holdErr
  rw [tim_yes h0 h1]
  simp only [find1]
  simp [xOf]
theorem rel1 (c : Cm) (z t : Int) : Lad.relErr ⟨c, [xOf c z t 0], z, 1, t⟩ 1 = 166 := by
  unfold Lad.relErr
  simp only [find1]
  simp [xOf]
theorem conf1 (c : Cm) (z t d now : Int) (h0 : 0 ≤ now) (h1 : now ≤ 4611686018427387904) (h2 : t ≤ now) : Lad.confErr ⟨c, [xOf c z t d], z, 1, t⟩ now = if 0 < d then 166 else if now < t + z then 165 else 0 := by
  unfold Lad.confErr
  rw [tim_yes h0 h1, if_neg (by simp; omega)]
  rfl
/-- What the law holds in variables of its own: the first commit, the next, the pending one. -/
structure WSt (w0 w : World) (bn bp : Nat) (c : Cm) (x : Pd) : Prop where
  X : w.heap[w0.heap.size]? = some (.cells c.cells.toArray 25 (0, 0))
  N : w.heap[bn]? = some (.cells (nextCm c).cells.toArray 25 (0, 0))
  P : w.heap[bp]? = some (.cells x.cells.toArray 44 (0, 0))
  mod : Mod [] w0 w
theorem WSt.mod0 {w0 w w' : World} {bn bp : Nat} {c : Cm} {x : Pd} (h : WSt w0 w bn bp c x) (hm : Mod [] w w') : WSt w0 w' bn bp c x := ⟨hm.get0 h.X, hm.get0 h.N, hm.get0 h.P, h.mod.trans0 hm⟩
/-- A call on a ladder leaves them. -/
theorem WSt.on {w0 w w' : World} {bn bp g : Nat} {v : Value} {L : Lad} {c : Cm} {x : Pd} (h : WSt w0 w bn bp c x) (hl : IsL w w0.heap.size g v L) (hm : Mod (foot g v) w w') (hb : ∀ y ∈ foot g v, y < bp) : WSt w0 w' bn bp c x := by
  have ht : ∀ (b : Nat) (C : Cm), w.heap[b]? = some (.cells C.cells.toArray 25 (0, 0)) → b ∉ foot g v := by
    intro b C hC hx
    rcases mem_foot.1 hx with e | e
    · exact ne_of_ty hC hl.blk (by decide) e
    · obtain ⟨C', h'⟩ := hl.own.type b e
      exact ne_of_ty hC h' (by decide) rfl
  exact ⟨hm.get h.X (ht _ _ h.X), hm.get h.N (ht _ _ h.N), hm.get h.P (fun hx => Nat.lt_irrefl _ (hb _ hx)), h.mod.trans hm (fun y hy => .inr (hl.foot_base y hy))⟩
/-- Another ladder stands. -/
theorem IsL.beside {w w' : World} {B g g' n : Nat} {v v' : Value} {L : Lad} (h : IsL w B g' v' L) (hm : Mod (foot g v) w w') (hb : ∀ y ∈ foot g v, y < n) (hg : n ≤ g') (hv : ∀ y, v'.ownBlock = some y → n ≤ y) : IsL w' B g' v' L :=
  h.mod hm (fun hx => by have := hb _ hx; omega) (fun y hy hx => by have := hb _ hy; have := hv _ hx; omega)
set_option maxRecDepth 100000 in
set_option maxHeartbeats 4000000 in
theorem window_main (c : Cm) (z t : Int) (w : World) (h : newErr c z = 0) (h0 : c.count < 1099511627776) (ht0 : 0 ≤ t) (ht1 : t < 4611686018427387904) (hw : t ≤ 4611686018427387904 - z) :
    Calls Try.prog 4 #[cv c, .int .i64 z, .int .i64 t] w fun e w' => e = .returned (.bool true) ∧ Mod [] w w' := by
  have HN := Lib.hid (fun w1 (hB : w.heap.size ≤ w1.heap.size) => new_yes w.heap.size c z w1 h hB)
  have HA := Lib.hid awake_any
  have hL := fun (w1 : World) (h1 : w1.heap[w.heap.size]? = some (.cells c.cells.toArray 25 (0, 0))) => loadCm (range_blk h1 0 _ (fun j v hv => by simpa using hv))
  have HL := Lib.hid hL
  have hpe := post0 h h0 ht0 ht1
  rw [if_neg (by omega)] at hpe
  have hpn := fun (g : Nat) (w1 : World) (h1 : IsL w1 w.heap.size g (.slice none 0 0) ⟨c, [], z, 0, 0⟩) => post_yes w.heap.size g _ _ w1 h1 1 (by decide) (Ok0 h) (nextCm c) (adr 1) (c.count + 1) t hpe
  have HPN := Lib.hid hpn
  obtain ⟨⟨hcc, _⟩, hz1, hz2⟩ := newErr0 h
  obtain ⟨hc0, _⟩ := Lad.cnt_bd hcc
  have d1 : decide (1099511627776 ≤ c.count) = false := by simp; omega
  have d2 : decide (t < 0) = false := by simp; omega
  have d3 : decide (4611686018427387904 ≤ t) = false := by simp; omega
  have d4 : decide (4611686018427387904 - z < t) = false := by simp; omega
  have hB1 := run_dig5
  have hB2 := run_cm3 (c.count + 1) c.leaves
  have hB3 := run_adr 1 1 rfl
  have hz25 : Try.zeroCells25.size = 66 := by kernel_rfl
  have HZ25 := Lib.hid hz25
  have hz44 : Try.zeroCells44.size = 90 := by kernel_rfl
  have HZ44 := Lib.hid hz44
  have htz0 : 0 ≤ t + z := by omega
  have htz1 : t + z ≤ 4611686018427387904 := by omega
  clear h hL hpe hpn hcc hz25 hz44
  unfold cv
  go_enter Try.func4, Try.ntmps4
  go_wp2_with fail
  refine (HA.out _).mono ?_
  rintro e w1 ⟨rfl, m1⟩
  have hL1 := HL.out w1 (m1.get0 (hp_new _ _ _ rfl))
  have M1 := ((Mod.refl [] w).alloc (.cells c.cells.toArray 25)).trans0 m1
  have HX1 := Lib.hid (m1.get0 (hp_new w (.cells c.cells.toArray 25) _ rfl))
  clear m1
  go_wp2_with fail
  refine (HN.out _ M1.size).mono ?_
  rintro e w2 ⟨g, rfl, _, hl2, m2⟩
  have hx0 : w2.cell? ⟨w.heap.size, 0, none⟩ = some (.int .i64 c.count) := by rw [cell_blk (m2.get0 HX1.out), List.getElem?_toArray]; exact c.c0
  have hx65 : w2.cell? ⟨w.heap.size, 65, none⟩ = some (.int .i64 c.leaves) := by rw [cell_blk (m2.get0 HX1.out), List.getElem?_toArray]; exact c.c65
  have HX3 := Lib.hid (hp_old (o := .cells (nextCm c).cells.toArray 25) (m2.get0 HX1.out))
  have HN3 := Lib.hid (hp_new w2 (.cells (nextCm c).cells.toArray 25) _ rfl)
  have M3 := (M1.trans0 m2).alloc (.cells (nextCm c).cells.toArray 25)
  have hS := storeNewCm w2 (nextCm c) _ HZ25.out
  change (StoreO _ _ (cv ⟨c.count + 1, dig5, z32, c.leaves⟩)).run _ _ = _ at hS
  have hLn := loadCm (c := nextCm c) (range_blk HN3.out 0 _ (fun j v hv => by simpa using hv))
  have hn0 : (w2.alloc (.cells (nextCm c).cells.toArray 25)).cell? ⟨w2.heap.size, 0, none⟩ = some (.int .i64 (c.count + 1)) := (box_cm w2 (nextCm c)).1
  have HL3 := Lib.hid (hl2.mod0 ((Mod.refl [] w2).alloc (.cells (nextCm c).cells.toArray 25)))
  clear hL1 m2 M1 hl2 HX1
  go_wp2_with fail
  have hpo := HPN.out g _ HL3.out
  rw [show (Lad.posted ⟨c, [], z, 0, 0⟩ (nextCm c) (adr 1) t) = ⟨c, [xOf c z t 0], z, 1, t⟩ from rfl, show ((⟨c, [], z, 0, 0⟩ : Lad).given + 1) = 1 from rfl] at hpo
  refine hpo.mono ?_
  rintro e w4 ⟨v4, rfl, hl4, m4, hv4⟩
  clear hS hLn hn0 hx0 hx65 hpo
  have hnn : ∀ b, b < (w2.alloc (.cells (nextCm c).cells.toArray 25)).heap.size → b ∉ foot g (.slice none 0 0) → w4.heap[b]? = (w2.alloc (.cells (nextCm c).cells.toArray 25)).heap[b]? := fun b hb hf => m4.block b hb hf
  have hgx : w.heap.size ∉ foot g (.slice none 0 0) := by
    intro hx
    rcases mem_foot.1 hx with e | e
    · have := ne_of_ty HX3.out HL3.out.blk (by decide); exact this e
    · cases e
  have hgn : w2.heap.size ∉ foot g (.slice none 0 0) := by
    intro hx
    rcases mem_foot.1 hx with e | e
    · have := ne_of_ty HN3.out HL3.out.blk (by decide); exact this e
    · cases e
  have HX4 := Lib.hid (m4.get HX3.out hgx)
  have HN4 := Lib.hid (m4.get HN3.out hgn)
  have HL4 := Lib.hid hl4
  have M4 := M3.trans m4 (fun x hx => .inr (HL3.out.foot_base x hx))
  clear hl4 m4 hv4 hnn hgx hgn HX3 HN3 HL3 M3
  have hfi := find_yes w.heap.size g v4 _ 1 w4 HL4.out (by simp) 0 (xOf c z t 0) (find1 c z t 0) rfl
  have HFI := Lib.hid hfi
  clear hfi
  go_wp2_with fail
  refine HFI.out.mono ?_
  rintro e w5 ⟨rfl, m5⟩
  have hS5 := storeNewPd w5 (xOf c z t 0) _ HZ44.out
  have HL6 := Lib.hid (HL4.out.mod0 (((Mod.refl [] w4).trans0 m5).alloc (.cells (xOf c z t 0).cells.toArray 44)))
  have HW6 := Lib.hid (show WSt w (w5.alloc (.cells (xOf c z t 0).cells.toArray 44)) w2.heap.size w5.heap.size c (xOf c z t 0) from ⟨hp_old (m5.get0 HX4.out), hp_old (m5.get0 HN4.out), hp_new _ _ _ rfl, (M4.trans0 m5).alloc _⟩)
  have hfl : ∀ y ∈ foot g v4, y < w5.heap.size := fun y hy => Nat.lt_of_lt_of_le (HL4.out.foot_lt y hy) m5.size
  have HFL := Lib.hid hfl
  have c87 : ∀ w', WSt w w' w2.heap.size w5.heap.size c (xOf c z t 0) → w'.cell? ⟨w5.heap.size, 87, none⟩ = some (.int .i64 t) := fun w' h => by rw [cell_blk h.P, List.getElem?_toArray]; exact (xOf c z t 0).c87
  have c88 : ∀ w', WSt w w' w2.heap.size w5.heap.size c (xOf c z t 0) → w'.cell? ⟨w5.heap.size, 88, none⟩ = some (.int .i64 (t + z)) := fun w' h => by rw [cell_blk h.P, List.getElem?_toArray]; exact (xOf c z t 0).c88
  have C88 := Lib.hid c88
  have hp87 := c87 _ HW6.out
  have hp88 := c88 _ HW6.out
  clear m5 M4 HX4 HN4 HL4 HFI hfl c87 c88
  have hho := hold_no w.heap.size g v4 _ 1 (t + z) _ HL6.out (by simp) (by rw [hold1 c z t htz0 htz1]; decide)
  rw [hold1 c z t htz0 htz1] at hho
  have HHO := Lib.hid hho
  clear hho
  go_wp2_with fail
  clear hS5 hp87 hp88
  refine HHO.out.mono ?_
  rintro e w7 ⟨rfl, m7⟩
  have HL7 := Lib.hid (HL6.out.mod0 m7)
  have HW7 := Lib.hid (HW6.out.mod0 m7)
  have hp88 := C88.out _ HW7.out
  have hhy := hold_yes w.heap.size g v4 _ 1 (t + z - 1) w7 HL7.out (by simp) 0 (xOf c z t 0) (find1 c z t 0) rfl (tim_yes (by omega) (by omega)) (by show t + z - 1 < t + z; omega) (by show (0 : Int) ≤ 0 ∧ (0 : Int) ≤ _; decide)
  have HHY := Lib.hid hhy
  clear m7 HL6 HW6 HHO hhy
  go_wp2_with fail
  clear hp88
  refine HHY.out.mono ?_
  rintro e w8 ⟨rfl, hl8, m8⟩
  have hl8' : IsL w8 w.heap.size g v4 ⟨c, [xOf c z t 1], z, 1, t⟩ := hl8
  have HL8 := Lib.hid hl8'
  have HW8 := Lib.hid (HW7.out.on HL7.out m8 HFL.out)
  have hcp := copy_any w.heap.size g v4 _ w8 hl8' (by simp) HW8.out.mod.size
  have HCP := Lib.hid hcp
  clear hl8 hl8' m8 HL7 HW7 HHY hcp
  go_wp2_with fail
  refine HCP.out.mono ?_
  rintro e w9 ⟨k, vk, rfl, hk, hlk, hvk, m9⟩
  have HL9 := Lib.hid (HL8.out.mod0 m9)
  have HW9 := Lib.hid (HW8.out.mod0 m9)
  have HK9 := Lib.hid hlk
  have h58 : w5.heap.size ≤ w8.heap.size := by have := lt_of_block HW8.out.P; omega
  have HVK := Lib.hid (fun y (hy : vk.ownBlock = some y) => Nat.le_trans h58 (hvk y hy))
  have hk5 : w5.heap.size ≤ k := Nat.le_trans h58 hk
  have hp88 := C88.out _ HW9.out
  have hcn := conf_no w.heap.size k vk _ (t + z) w9 HK9.out (by simp) (by rw [conf1 c z t 1 (t + z) htz0 htz1 (by omega), if_pos (by decide)]; decide)
  rw [conf1 c z t 1 (t + z) htz0 htz1 (by omega), if_pos (by decide)] at hcn
  have HCN := Lib.hid hcn
  clear hlk hvk m9 HL8 HW8 HCP hcn hk h58
  go_wp2_with fail
  clear hp88
  refine HCN.out.mono ?_
  rintro e w10 ⟨rfl, m10⟩
  have hS10 := storeNewPd w10 Pd.zero _ HZ44.out
  have HL10 := Lib.hid ((HL9.out.mod0 m10).mod0 ((Mod.refl [] w10).alloc (.cells Pd.zero.cells.toArray 44)))
  have HK10 := Lib.hid ((HK9.out.mod0 m10).mod0 ((Mod.refl [] w10).alloc (.cells Pd.zero.cells.toArray 44)))
  have HW10 := Lib.hid ((HW9.out.mod0 m10).mod0 ((Mod.refl [] w10).alloc (.cells Pd.zero.cells.toArray 44)))
  have hry := release_yes w.heap.size g v4 _ 1 _ HL10.out (by simp) 0 (xOf c z t 1) (find1 c z t 1) rfl (by show (1 : Int) ≤ 1 ∧ (1 : Int) ≤ _; decide)
  have HRY := Lib.hid hry
  clear m10 HL9 HK9 HW9 HCN hry
  go_wp2_with fail
  clear hS10
  refine HRY.out.mono ?_
  rintro e w11 ⟨rfl, hl11, m11⟩
  have hl11' : IsL w11 w.heap.size g v4 ⟨c, [xOf c z t 0], z, 1, t⟩ := hl11
  have HL11 := Lib.hid hl11'
  have HW11 := Lib.hid (HW10.out.on HL10.out m11 HFL.out)
  have HK11 := Lib.hid (HK10.out.beside m11 HFL.out hk5 HVK.out)
  have hrn := release_no w.heap.size g v4 _ 1 w11 hl11' (by simp) (by rw [rel1]; decide)
  rw [rel1] at hrn
  have HRN := Lib.hid hrn
  clear hl11 hl11' m11 HL10 HK10 HW10 HRY hrn
  go_wp2_with fail
  refine HRN.out.mono ?_
  rintro e w12 ⟨rfl, m12⟩
  have HL12 := Lib.hid (HL11.out.mod0 m12)
  have HK12 := Lib.hid (HK11.out.mod0 m12)
  have HW12 := Lib.hid (HW11.out.mod0 m12)
  have hcp := copy_any w.heap.size g v4 _ w12 HL12.out (by simp) HW12.out.mod.size
  have HCP := Lib.hid hcp
  clear m12 HL11 HK11 HW11 HRN hcp
  go_wp2_with fail
  refine HCP.out.mono ?_
  rintro e w13 ⟨q, vq, rfl, _, hlq, _, m13⟩
  have HL13 := Lib.hid (HL12.out.mod0 m13)
  have HK13 := Lib.hid (HK12.out.mod0 m13)
  have HW13 := Lib.hid (HW12.out.mod0 m13)
  have hp88 := C88.out _ HW13.out
  have hcn := conf_no w.heap.size q vq _ (t + z - 1) w13 hlq (by simp) (by rw [conf1 c z t 0 (t + z - 1) (by omega) (by omega) (by omega), if_neg (by decide), if_pos (by omega)]; decide)
  rw [conf1 c z t 0 (t + z - 1) (by omega) (by omega) (by omega), if_neg (by decide), if_pos (by omega)] at hcn
  have HCN := Lib.hid hcn
  clear hlq m13 HL12 HK12 HW12 HCP hcn
  go_wp2_with fail
  clear hp88
  refine HCN.out.mono ?_
  rintro e w14 ⟨rfl, m14⟩
  have hS14 := storeNewPd w14 Pd.zero _ HZ44.out
  have HL14 := Lib.hid ((HL13.out.mod0 m14).mod0 ((Mod.refl [] w14).alloc (.cells Pd.zero.cells.toArray 44)))
  have HK14 := Lib.hid ((HK13.out.mod0 m14).mod0 ((Mod.refl [] w14).alloc (.cells Pd.zero.cells.toArray 44)))
  have HW14 := Lib.hid ((HW13.out.mod0 m14).mod0 ((Mod.refl [] w14).alloc (.cells Pd.zero.cells.toArray 44)))
  have hp88 := C88.out _ HW14.out
  have hcy := conf_yes w.heap.size g v4 _ (t + z) _ HL14.out (by simp) (xOf c z t 0) [] rfl (by rw [conf1 c z t 0 (t + z) htz0 htz1 (by omega), if_neg (by decide), if_neg (by omega)])
  have HCY := Lib.hid hcy
  clear m14 HL13 HK13 HW13 HCN hcy
  go_wp2_with fail
  clear hS14 hp88
  refine HCY.out.mono ?_
  rintro e w15 ⟨v15, rfl, hl15, m15, _⟩
  have hS15 := storeNewPd w15 (xOf c z t 0) _ HZ44.out
  have HL15 := Lib.hid (hl15.mod0 ((Mod.refl [] w15).alloc (.cells (xOf c z t 0).cells.toArray 44)))
  have HK15 := Lib.hid ((HK14.out.beside m15 HFL.out hk5 HVK.out).mod0 ((Mod.refl [] w15).alloc (.cells (xOf c z t 0).cells.toArray 44)))
  have HW15 := Lib.hid ((HW14.out.on HL14.out m15 HFL.out).mod0 ((Mod.refl [] w15).alloc (.cells (xOf c z t 0).cells.toArray 44)))
  have HR15 := Lib.hid (hp_new w15 (.cells (xOf c z t 0).cells.toArray 44) _ rfl)
  have hcf := confirmed_any w.heap.size g v15 _ _ HL15.out
  have HCF := Lib.hid hcf
  clear hl15 m15 HL14 HK14 HW14 HCY hcf
  go_wp2_with fail
  clear hS15
  refine HCF.out.mono ?_
  rintro e w16 ⟨rfl, m16⟩
  have hS16 := storeNewCm w16 (nextCm c) _ HZ25.out
  change (StoreO _ _ (cv (xOf c z t 0).commit)).run _ _ = _ at hS16
  have HK16 := Lib.hid ((HK15.out.mod0 m16).mod0 ((Mod.refl [] w16).alloc (.cells (nextCm c).cells.toArray 25)))
  have HW16 := Lib.hid ((HW15.out.mod0 m16).mod0 ((Mod.refl [] w16).alloc (.cells (nextCm c).cells.toArray 25)))
  have HR16 := Lib.hid (hp_old (o := .cells (nextCm c).cells.toArray 25) (m16.get0 HR15.out))
  have HC16 := Lib.hid (hp_new w16 (.cells (nextCm c).cells.toArray 25) _ rfl)
  have hcf := confirmed_any w.heap.size k vk _ _ HK16.out
  have HCF := Lib.hid hcf
  clear m16 HK15 HW15 HR15 hcf
  go_wp2_with fail
  clear hS16
  refine HCF.out.mono ?_
  rintro e w17 ⟨rfl, m17⟩
  have hS17 := storeNewCm w17 c _ HZ25.out
  have HW17 := Lib.hid ((HW16.out.mod0 m17).mod0 ((Mod.refl [] w17).alloc (.cells c.cells.toArray 25)))
  have rb : ∀ {w' : World} {b : Nat} {cs : List Value} {T : TypeId}, w'.heap[b]? = some (.cells cs.toArray T (0, 0)) → w'.rangeAt b 0 cs := fun h => range_blk h 0 _ (fun j v hv => by simpa using hv)
  have l1 := loadPd (rb (hp_old (o := .cells c.cells.toArray 25) (m17.get0 HR16.out)))
  have l2 := loadPd (rb HW17.out.P)
  have l3 := loadCm (rb (hp_old (o := .cells c.cells.toArray 25) (m17.get0 HC16.out)))
  have l4 := loadCm (rb HW17.out.N)
  have l5 := loadCm (rb (hp_new w17 (.cells c.cells.toArray 25) _ rfl))
  have l6 := loadCm (rb HW17.out.X)
  have e1 := fun w => eqPd w (xOf c z t 0)
  have e2 := fun w => eqCm w (nextCm c)
  have e3 := fun w => eqCm w c
  have g1 := guardPd
  have g2 := guardCm
  clear m17 HW16 HK16 HR16 HC16 rb
  go_wp2_with fail
  go_ret
  exact ⟨rfl, HW17.out.mod⟩
end Go.Proofs.Ytmjdfglidfdkaaa
