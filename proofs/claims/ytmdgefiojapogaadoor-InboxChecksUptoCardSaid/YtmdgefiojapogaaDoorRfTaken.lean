/- The reference's taken: the state behind a piece. Condition: the reference's table lies in its variable. -/
import Derived.Test.YtmdgefiojapogaaDoorRfWord
namespace Go.Proofs.YtmdgefiojapogaaDoor
open Go.RowKit
attribute [local go_sem high] one8 st8 cm8 b_and8 b_and8r b_and8l b_or8 b_or8r b_or8l b_xor8 b_xor8r b_xor8l b_andNot8 b_andNot8r b_andNot8l b_add8 b_add8r b_add8l b_sub8 b_sub8r b_sub8l b_mul8 b_mul8r b_mul8l b_eql8 b_eql8r b_eql8l b_neq8 b_neq8r b_neq8l b_lss8 b_lss8r b_lss8l b_leq8 b_leq8r b_leq8l b_gtr8 b_gtr8r b_gtr8l b_geq8 b_geq8r b_geq8l b_quo8r b_rem8r b_shl8r b_shr8r b_shl8l b_shr8l u_xor8 g_eql8 g_neq8 g_eql8' g_neq8' one32 st32 cm32 b_and32 b_and32r b_and32l b_or32 b_or32r b_or32l b_xor32 b_xor32r b_xor32l b_andNot32 b_andNot32r b_andNot32l b_add32 b_add32r b_add32l b_sub32 b_sub32r b_sub32l b_mul32 b_mul32r b_mul32l b_eql32 b_eql32r b_eql32l b_neq32 b_neq32r b_neq32l b_lss32 b_lss32r b_lss32l b_leq32 b_leq32r b_leq32l b_gtr32 b_gtr32r b_gtr32l b_geq32 b_geq32r b_geq32l b_quo32r b_rem32r b_shl32r b_shr32r b_shl32l b_shr32l u_xor32 g_eql32 g_neq32 g_eql32' g_neq32' one64 st64 cm64 b_and64 b_and64r b_and64l b_or64 b_or64r b_or64l b_xor64 b_xor64r b_xor64l b_andNot64 b_andNot64r b_andNot64l b_add64 b_add64r b_add64l b_sub64 b_sub64r b_sub64l b_mul64 b_mul64r b_mul64l b_eql64 b_eql64r b_eql64l b_neq64 b_neq64r b_neq64l b_lss64 b_lss64r b_lss64l b_leq64 b_leq64r b_leq64l b_gtr64 b_gtr64r b_gtr64l b_geq64 b_geq64r b_geq64l b_quo64r b_rem64r b_shl64r b_shr64r b_shl64l b_shr64l u_xor64 g_eql64 g_neq64 g_eql64' g_neq64' c_u8_u8 c_u8_u32 c_u8_u64 c_i_u8 c_u32_u8 c_u32_u32 c_u32_u64 c_i_u32 c_u64_u8 c_u64_u32 c_u64_u64 c_i_u64 c_u8_i c_u32_i
attribute [local go_sem ↓] ce8 ce32 ce64
theorem loadO61 (p : Value) : Instr.loadAt 123 p = LoadO 123 p := rfl
theorem storeO61 (p v : Value) : Instr.storeAt 123 p v = StoreO 123 p v := rfl
attribute [local go_sem ↓] loadO61 storeO61
theorem info61 : (Tryd.prog.info? 123).map (·.size) = some 8 := by kernel_rfl
/-- The reference's table lies in its variable. -/
def TabR (w : World) : Prop := w.rangeAt 2 0 (steps.map V32)
theorem TabR.mod {S : List Nat} {a w : World} (h : Mod S a w) (ht : TabR a) (hb : 2 ∉ S) : TabR w := range_mod h ht hb
def V32z : Value := .int .u32 0
theorem load8 {w : World} {b : Nat} (p : List UInt32) (hp : p.length = 8) (hg : w.heap[b]? = some (.cells (p.map V32).toArray 123 (0, 0))) :
    (LoadO 123 (.pointer (some ⟨b, 0, none⟩))).run Tryd.prog w = .ok (.agg (p.map V32).toArray) w := loadO_row hg Tryd.underlying123 rfl (by simpa [hp] using info61)
theorem store8 {w : World} {b : Nat} {C : Array Value} (p : List UInt32) (hp : p.length = 8) (hg : w.heap[b]? = some (.cells C 123 (0, 0))) (hC : C.size = 8) :
    (StoreO 123 (.pointer (some ⟨b, 0, none⟩)) (.agg (p.map V32).toArray)).run Tryd.prog w = .ok () (w.setRow b (p.map V32).toArray) :=
  storeO_row (P := Tryd.prog) hg (by simp [hp, hC]) (by simpa [hp] using info61) (by simp [one32])
set_option maxRecDepth 100000 in
set_option maxHeartbeats 2000000 in
theorem taken_any (s : St) (p : Option Addr) (cap : Nat) (l : List UInt8) (k0 : Nat) (w : World) (hr : Rd V8 w p cap l) (hk : k0 + 64 ≤ l.length) (hl : l.length < 140737488355329) (ht : TabR w) :
    Calls Tryd.prog 76 #[.agg (s.l.map V32).toArray, .slice p l.length cap, .int .i64 k0] w fun e w' => e = .returned (.agg ((compress s ((l.drop k0).take 64)).l.map V32).toArray) ∧ Mod [] w w' := by
  have HT := Lib.hid ht
  have HR := Lib.hid hr
  clear hr ht
  go_enter Tryd.func76, Tryd.ntmps76
  go_wp2_with fail
  go_loopw [8] (fun v wr => ∃ (k : Nat) (ws : List UInt32), k ≤ 16 ∧ ws.length = 64 ∧ ws.take k = (List.range k).map (wword ((l.drop k0).take 64)) ∧ v = .int .i64 k ∧
      wr.heap[w.heap.size]? = some (.cells (s.l.map V32).toArray 123 (0, 0)) ∧ (∃ Z : Array Value, Z.size = 8 ∧ wr.heap[w.heap.size + 1]? = some (.cells Z 123 (0, 0))) ∧
      wr.heap[w.heap.size + 1 + 1]? = some (.cells (ws.map V32).toArray 138 (0, 0)) ∧ Mod [] w wr) (fun v _ => 16 - (intOf v).toNat)
  case atStart => exact ⟨0, List.replicate 64 0, by omega, by simp, by simp, rfl, hp_old (hp_old (hp_new _ _ _ rfl)), ⟨_, by rfl, hp_old (hp_new _ _ _ (by simp))⟩, hp_new _ _ _ (by simp), (((Mod.refl [] w).alloc _).alloc _).alloc _⟩
  case round =>
    obtain ⟨k, ws, hk16, hws, htk, rfl, hbs, ⟨Z, hZ, hbr⟩, hbw, hm⟩ := hrel
    have HTK := Lib.hid htk
    have HBS := Lib.hid hbs
    have HBR := Lib.hid hbr
    have HBW := Lib.hid hbw
    have HZ := Lib.hid hZ
    clear htk hbs hbr hbw hZ
    by_cases hlt : k < 16
    · go_wp2_with (go_at_call 85; refine (word_any p cap l _ (k0 + 4 * k) (by omega) _ (HR.out.mod0 hm) (by omega) (by omega)).mono ?_; rintro e w5 ⟨rfl, hm5⟩; have B5 := Lib.hid (hm5.get0 HBW.out); have hfz : w5.frozen? ⟨w.heap.size + 1 + 1, k, none⟩ = false := frozen_blk B5.out k; have hcc : w5.cell? ⟨w.heap.size + 1 + 1, k, none⟩ = some (V32 (ws.getD k 0)) := by { rw [cell_blk B5.out]; simpa using cell_map V32 ws k 0 (by omega) })
      go_roundw
      case rel =>
        refine ⟨k + 1, ws.set k (wword ((l.drop k0).take 64) k), by omega, by simpa using hws, ?_, by go_num, ?_, ⟨Z, HZ.out, ?_⟩, ?_, ?_⟩
        · rw [take_set_succ _ _ _ (by omega), HTK.out, map_range_succ]
        · rw [setCell_blk _ B5.out]; exact hp_setRow_ne (hm5.get0 HBS.out) (by omega)
        · rw [setCell_blk _ B5.out]; exact hp_setRow_ne (hm5.get0 HBR.out) (by omega)
        · rw [setCell_blk _ B5.out]
          have e1 : ∀ i, i < 64 → ((l.drop k0).take 64)[i]?.getD 0 = l[k0 + i]?.getD 0 := fun i hi => by simp [List.getElem?_take, hi]
          have e2 : wword ((l.drop k0).take 64) k = be (l[k0 + 4 * k]?.getD 0) (l[k0 + 4 * k + 1]?.getD 0) (l[k0 + 4 * k + 2]?.getD 0) (l[k0 + 4 * k + 3]?.getD 0) := by
            unfold wword
            rw [e1 _ (by omega), e1 _ (by omega), e1 _ (by omega), e1 _ (by omega)]
            simp [Nat.add_assoc]
          rw [← e2, ← map_set]; exact hp_setRow B5.out
        · exact (hm.trans0 hm5).setCell (.inr (by simp; omega)) _
      case measure => simp [intOf]; omega
    · have hw : ws.take 16 = (List.range 16).map (wword ((l.drop k0).take 64)) := by
        have h16 : k = 16 := by omega
        have := HTK.out
        rwa [h16] at this
      have HW := Lib.hid hw
      have hd : decide ((k : Int) < 16) = false := by simp; omega
      clear HTK hlt hw
      go_wp2_with fail
      clear hd
      have hm1 := hm
      clear hm
      go_loopw [9] (fun v wr => ∃ (k : Nat) (ws : List UInt32), 16 ≤ k ∧ k ≤ 64 ∧ ws.length = 64 ∧ ws.take k = wext (k - 16) (w0 ((l.drop k0).take 64)) ∧ v = .int .i64 k ∧
          wr.heap[w.heap.size]? = some (.cells (s.l.map V32).toArray 123 (0, 0)) ∧ wr.heap[w.heap.size + 1]? = some (.cells Z 123 (0, 0)) ∧
          wr.heap[w.heap.size + 1 + 1]? = some (.cells (ws.map V32).toArray 138 (0, 0)) ∧ Mod [] w wr) (fun v _ => 64 - (intOf v).toNat)
      case atStart => exact ⟨16, ws, by omega, by omega, hws, HW.out, rfl, HBS.out, HBR.out, HBW.out, hm1⟩
      case round =>
        clear HW hws HBS HBR HBW hm1
        clear ws
        obtain ⟨j, ws, hj, hj64, hws, htk, rfl, hbs, hbr, hbw, hm⟩ := hrel
        have HTK := Lib.hid htk
        have HBS := Lib.hid hbs
        have HBR := Lib.hid hbr
        have HBW := Lib.hid hbw
        clear htk hbs hbr hbw
        by_cases hlt : j < 64
        · have cl : ∀ i, i < 64 → wr.cell? ⟨w.heap.size + 1 + 1, i, none⟩ = some (V32 (ws.getD i 0)) := fun i hi => by
            rw [cell_blk HBW.out]; simpa using cell_map V32 ws i 0 (by omega)
          have c2 := cl (j - 2) (by omega)
          have c15 := cl (j - 15) (by omega)
          have c7 := cl (j - 7) (by omega)
          have c16 := cl (j - 16) (by omega)
          have c0 := cl j hlt
          have hfz : wr.frozen? ⟨w.heap.size + 1 + 1, j, none⟩ = false := frozen_blk HBW.out j
          clear cl
          go_wp2_with (go_at_call 86; refine (turned_lit _ _ _ (by decide) (by decide)).mono ?_; rintro e w' ⟨rfl, rfl⟩)
          go_region
          go_wp2
          go_roundw
          case rel =>
            refine ⟨j + 1, ws.set j (wnext ws j), by omega, by omega, by simpa using hws, ?_, by go_num, ?_, ?_, ?_, ?_⟩
            · rw [take_set_succ _ _ _ (by omega), HTK.out, wnext_of_take HTK.out hj, show j + 1 - 16 = (j - 16) + 1 by omega, wext, show 16 + (j - 16) = j by omega]
            · rw [setCell_blk _ HBW.out]; exact hp_drew (hp_setRow_ne HBS.out (by omega))
            · rw [setCell_blk _ HBW.out]; exact hp_drew (hp_setRow_ne HBR.out (by omega))
            · rw [setCell_blk _ HBW.out]
              rw [← map_set]
              refine hp_drew ?_
              have := hp_setRow (cs := ((ws.map V32).toArray).setIfInBounds j (V32 (wnext ws j))) HBW.out
              simpa [wnext, sg1, sg0] using this
            · exact (hm.setCell (.inr (by simp; omega)) _).drew
          case measure => simp [intOf]; omega
        · have hww : ws = words ((l.drop k0).take 64) := by
            have h64 : j = 64 := by omega
            have := HTK.out
            rw [h64, List.take_of_length_le (by omega)] at this
            exact this
          have hd : decide ((j : Int) < 64) = false := by simp; omega
          have HWW := Lib.hid hww
          clear hww HTK
          have hL := load8 s.l rfl HBS.out
          have hS := fun (C : Array Value) (hC : C.size = 8) => store8 (w := wr.alloc (.cells C 123)) s.l rfl (hp_new wr (.cells C 123) _ rfl) hC
          have hS := hS #[V32z, V32z, V32z, V32z, V32z, V32z, V32z, V32z] rfl
          unfold V32z at hS
          go_wp2_with fail
          clear hd hL hS
          obtain ⟨wq, hwq⟩ : ∃ x, x = wr := ⟨wr, rfl⟩
          subst hwq
          have hsz : w.heap.size + 1 + 1 < wq.heap.size := lt_of_block HBW.out
          go_loopw [13, 14, 15] (fun v _ _ wr => ∃ (k : Nat) (r : St), k ≤ 64 ∧ r = rounds (words ((l.drop k0).take 64)) s k ∧ v = .int .i64 k ∧
              wr.heap[w.heap.size]? = some (.cells (s.l.map V32).toArray 123 (0, 0)) ∧ wr.heap[w.heap.size + 1]? = some (.cells Z 123 (0, 0)) ∧
              wr.heap[w.heap.size + 1 + 1]? = some (.cells (ws.map V32).toArray 138 (0, 0)) ∧ wr.heap[wq.heap.size]? = some (.cells #[V32 r.a, V32 r.b, V32 r.c, V32 r.d, V32 r.e, V32 r.f, V32 r.g, V32 r.h] 123 (0, 0)) ∧ Mod [] w wr) (fun v _ _ _ => 64 - (intOf v).toNat)
          case atStart =>
            refine ⟨0, s, by omega, rfl, rfl, hp_setRow_ne (hp_old HBS.out) (by omega), hp_setRow_ne (hp_old HBR.out) (by omega), hp_setRow_ne (hp_old HBW.out) (by omega), hp_setRow (hp_new _ _ _ rfl), (hm.alloc _).setRow (.inr (by omega)) _⟩
          case round =>
            clear HBS HBR HBW hm
            obtain ⟨k, r, hk64, hrr, rfl, hbs, hbr, hbw, hbc, hm⟩ := hrel
            have HRR := Lib.hid hrr
            have HBS := Lib.hid hbs
            have HBR := Lib.hid hbr
            have HBW := Lib.hid hbw
            have HBC := Lib.hid hbc
            clear hrr hbs hbr hbw hbc
            by_cases hlt : k < 64
            · have c0 : wr.cell? ⟨wq.heap.size, 0, none⟩ = some (V32 r.a) := cell_blk HBC.out 0
              have c1 : wr.cell? ⟨wq.heap.size, 1, none⟩ = some (V32 r.b) := cell_blk HBC.out 1
              have c2 : wr.cell? ⟨wq.heap.size, 2, none⟩ = some (V32 r.c) := cell_blk HBC.out 2
              have c3 : wr.cell? ⟨wq.heap.size, 3, none⟩ = some (V32 r.d) := cell_blk HBC.out 3
              have c4 : wr.cell? ⟨wq.heap.size, 4, none⟩ = some (V32 r.e) := cell_blk HBC.out 4
              have c5 : wr.cell? ⟨wq.heap.size, 5, none⟩ = some (V32 r.f) := cell_blk HBC.out 5
              have c6 : wr.cell? ⟨wq.heap.size, 6, none⟩ = some (V32 r.g) := cell_blk HBC.out 6
              have c7 : wr.cell? ⟨wq.heap.size, 7, none⟩ = some (V32 r.h) := cell_blk HBC.out 7
              have cw : wr.cell? ⟨w.heap.size + 1 + 1, k, none⟩ = some (V32 (ws.getD k 0)) := by
                rw [cell_blk HBW.out]; simpa using cell_map V32 ws k 0 (by omega)
              have cs : wr.cell? ⟨2, k, none⟩ = some (V32 (steps.getD k 0)) := by
                have h := TabR.mod hm HT.out (by simp) k (V32 (steps.getD k 0)) (cell_map _ _ _ _ (by rw [steps_length]; omega))
                simpa using h
              have fz : ∀ j, wr.frozen? ⟨wq.heap.size, j, none⟩ = false := fun j => frozen_blk HBC.out j
              go_wp2
              go_quiet ((go_at_call 86; exact Calls.quiet_of_same ((turned_lit _ _ _ (by decide) (by decide)).mono (fun e w h => ⟨h.1, h.2.symm⟩))))
              replace hm : Mod [] w (wr.drewN nq) := hm.drewN nq
              replace c0 : (wr.drewN nq).cell? ⟨wq.heap.size, 0, none⟩ = some (V32 r.a) := c0
              replace c1 : (wr.drewN nq).cell? ⟨wq.heap.size, 1, none⟩ = some (V32 r.b) := c1
              replace c2 : (wr.drewN nq).cell? ⟨wq.heap.size, 2, none⟩ = some (V32 r.c) := c2
              replace c3 : (wr.drewN nq).cell? ⟨wq.heap.size, 3, none⟩ = some (V32 r.d) := c3
              replace c4 : (wr.drewN nq).cell? ⟨wq.heap.size, 4, none⟩ = some (V32 r.e) := c4
              replace c5 : (wr.drewN nq).cell? ⟨wq.heap.size, 5, none⟩ = some (V32 r.f) := c5
              replace c6 : (wr.drewN nq).cell? ⟨wq.heap.size, 6, none⟩ = some (V32 r.g) := c6
              replace c7 : (wr.drewN nq).cell? ⟨wq.heap.size, 7, none⟩ = some (V32 r.h) := c7
              replace cw : (wr.drewN nq).cell? ⟨w.heap.size + 1 + 1, k, none⟩ = some (V32 (ws.getD k 0)) := cw
              replace cs : (wr.drewN nq).cell? ⟨2, k, none⟩ = some (V32 (steps.getD k 0)) := cs
              replace fz : ∀ j, (wr.drewN nq).frozen? ⟨wq.heap.size, j, none⟩ = false := fz
              replace HBS : Hid ((wr.drewN nq).heap[w.heap.size]? = some (.cells (s.l.map V32).toArray 123 (0, 0))) := HBS
              replace HBR : Hid ((wr.drewN nq).heap[w.heap.size + 1]? = some (.cells Z 123 (0, 0))) := HBR
              replace HBW : Hid ((wr.drewN nq).heap[w.heap.size + 1 + 1]? = some (.cells (ws.map V32).toArray 138 (0, 0))) := HBW
              replace HBC : Hid ((wr.drewN nq).heap[wq.heap.size]? = some (.cells #[V32 r.a, V32 r.b, V32 r.c, V32 r.d, V32 r.e, V32 r.f, V32 r.g, V32 r.h] 123 (0, 0))) := HBC
              generalize wr.drewN nq = W1 at *
              clear nq
              go_wp2
              go_quiet (fail)
              replace hm : Mod [] w (W1.drewN nq) := hm.drewN nq
              replace c0 : (W1.drewN nq).cell? ⟨wq.heap.size, 0, none⟩ = some (V32 r.a) := c0
              replace c1 : (W1.drewN nq).cell? ⟨wq.heap.size, 1, none⟩ = some (V32 r.b) := c1
              replace c2 : (W1.drewN nq).cell? ⟨wq.heap.size, 2, none⟩ = some (V32 r.c) := c2
              replace c3 : (W1.drewN nq).cell? ⟨wq.heap.size, 3, none⟩ = some (V32 r.d) := c3
              replace c4 : (W1.drewN nq).cell? ⟨wq.heap.size, 4, none⟩ = some (V32 r.e) := c4
              replace c5 : (W1.drewN nq).cell? ⟨wq.heap.size, 5, none⟩ = some (V32 r.f) := c5
              replace c6 : (W1.drewN nq).cell? ⟨wq.heap.size, 6, none⟩ = some (V32 r.g) := c6
              replace c7 : (W1.drewN nq).cell? ⟨wq.heap.size, 7, none⟩ = some (V32 r.h) := c7
              replace cw : (W1.drewN nq).cell? ⟨w.heap.size + 1 + 1, k, none⟩ = some (V32 (ws.getD k 0)) := cw
              replace cs : (W1.drewN nq).cell? ⟨2, k, none⟩ = some (V32 (steps.getD k 0)) := cs
              replace fz : ∀ j, (W1.drewN nq).frozen? ⟨wq.heap.size, j, none⟩ = false := fz
              replace HBS : Hid ((W1.drewN nq).heap[w.heap.size]? = some (.cells (s.l.map V32).toArray 123 (0, 0))) := HBS
              replace HBR : Hid ((W1.drewN nq).heap[w.heap.size + 1]? = some (.cells Z 123 (0, 0))) := HBR
              replace HBW : Hid ((W1.drewN nq).heap[w.heap.size + 1 + 1]? = some (.cells (ws.map V32).toArray 138 (0, 0))) := HBW
              replace HBC : Hid ((W1.drewN nq).heap[wq.heap.size]? = some (.cells #[V32 r.a, V32 r.b, V32 r.c, V32 r.d, V32 r.e, V32 r.f, V32 r.g, V32 r.h] 123 (0, 0))) := HBC
              generalize W1.drewN nq = W2 at *
              clear nq
              go_wp2
              go_quiet ((go_at_call 86; exact Calls.quiet_of_same ((turned_lit _ _ _ (by decide) (by decide)).mono (fun e w h => ⟨h.1, h.2.symm⟩))))
              replace hm : Mod [] w (W2.drewN nq) := hm.drewN nq
              replace c0 : (W2.drewN nq).cell? ⟨wq.heap.size, 0, none⟩ = some (V32 r.a) := c0
              replace c1 : (W2.drewN nq).cell? ⟨wq.heap.size, 1, none⟩ = some (V32 r.b) := c1
              replace c2 : (W2.drewN nq).cell? ⟨wq.heap.size, 2, none⟩ = some (V32 r.c) := c2
              replace c3 : (W2.drewN nq).cell? ⟨wq.heap.size, 3, none⟩ = some (V32 r.d) := c3
              replace c4 : (W2.drewN nq).cell? ⟨wq.heap.size, 4, none⟩ = some (V32 r.e) := c4
              replace c5 : (W2.drewN nq).cell? ⟨wq.heap.size, 5, none⟩ = some (V32 r.f) := c5
              replace c6 : (W2.drewN nq).cell? ⟨wq.heap.size, 6, none⟩ = some (V32 r.g) := c6
              replace c7 : (W2.drewN nq).cell? ⟨wq.heap.size, 7, none⟩ = some (V32 r.h) := c7
              replace cw : (W2.drewN nq).cell? ⟨w.heap.size + 1 + 1, k, none⟩ = some (V32 (ws.getD k 0)) := cw
              replace cs : (W2.drewN nq).cell? ⟨2, k, none⟩ = some (V32 (steps.getD k 0)) := cs
              replace fz : ∀ j, (W2.drewN nq).frozen? ⟨wq.heap.size, j, none⟩ = false := fz
              replace HBS : Hid ((W2.drewN nq).heap[w.heap.size]? = some (.cells (s.l.map V32).toArray 123 (0, 0))) := HBS
              replace HBR : Hid ((W2.drewN nq).heap[w.heap.size + 1]? = some (.cells Z 123 (0, 0))) := HBR
              replace HBW : Hid ((W2.drewN nq).heap[w.heap.size + 1 + 1]? = some (.cells (ws.map V32).toArray 138 (0, 0))) := HBW
              replace HBC : Hid ((W2.drewN nq).heap[wq.heap.size]? = some (.cells #[V32 r.a, V32 r.b, V32 r.c, V32 r.d, V32 r.e, V32 r.f, V32 r.g, V32 r.h] 123 (0, 0))) := HBC
              generalize W2.drewN nq = W3 at *
              clear nq
              go_wp2
              go_roundw
              case rel =>
                have e1 : (rotk r.e (-6) ^^^ rotk r.e (-11) ^^^ rotk r.e (-25)) + r.h + (r.e &&& r.f ^^^ ~~~r.e &&& r.g) + steps[k]?.getD 0 + ws.getD k 0 = xof r (steps.getD k 0) (ws.getD k 0) := by
                  unfold xof
                  simp [UInt32.add_assoc]
                refine ⟨k + 1, rnd r (steps.getD k 0) (ws.getD k 0), by omega, ?_, by go_num, ?_, ?_, ?_, ?_, ?_⟩
                · rw [rounds, ← HRR.out, ← HWW.out]; simp
                · refine hp_sc_ne (hp_sc_ne (hp_sc_ne (hp_sc_ne (hp_sc_ne (hp_sc_ne (hp_sc_ne (hp_sc_ne HBS.out ?_) ?_) ?_) ?_) ?_) ?_) ?_) ?_ <;> omega
                · refine hp_sc_ne (hp_sc_ne (hp_sc_ne (hp_sc_ne (hp_sc_ne (hp_sc_ne (hp_sc_ne (hp_sc_ne HBR.out ?_) ?_) ?_) ?_) ?_) ?_) ?_) ?_ <;> omega
                · refine hp_sc_ne (hp_sc_ne (hp_sc_ne (hp_sc_ne (hp_sc_ne (hp_sc_ne (hp_sc_ne (hp_sc_ne HBW.out ?_) ?_) ?_) ?_) ?_) ?_) ?_) ?_ <;> omega
                · have hfin := fun x0 x4 => hp_sc (j := 0) (v := V32 x0) (hp_sc (j := 1) (v := V32 r.a) (hp_sc (j := 2) (v := V32 r.b) (hp_sc (j := 3) (v := V32 r.c) (hp_sc (j := 4) (v := V32 x4) (hp_sc (j := 5) (v := V32 r.e) (hp_sc (j := 6) (v := V32 r.f) (hp_sc (j := 7) (v := V32 r.g) HBC.out)))))))
                  simp only [List.getD_eq_getElem?_getD, List.getElem?_eq_getElem (show k < ws.length by omega), Option.getD_some] at e1 ⊢
                  rw [e1]
                  have h := hfin (xof r (steps[k]?.getD 0) ws[k] + yof r) (r.d + xof r (steps[k]?.getD 0) ws[k])
                  simpa [rnd, yof] using h
                · exact (((((((hm.setCell (.inr (by simp; omega)) _).setCell (.inr (by simp; omega)) _).setCell (.inr (by simp; omega)) _).setCell (.inr (by simp; omega)) _).setCell (.inr (by simp; omega)) _).setCell (.inr (by simp; omega)) _).setCell (.inr (by simp; omega)) _).setCell (.inr (by simp; omega)) _
              case measure => simp [intOf]; omega
            · have hr64 : r = rounds (words ((l.drop k0).take 64)) s 64 := by
                have h64 : k = 64 := by omega
                have := HRR.out
                rwa [h64] at this
              have HR64 := Lib.hid hr64
              have hd : decide ((k : Int) < 64) = false := by simp; omega
              clear hr64 HRR hlt HBW HWW
              go_wp2_with fail
              clear hd
              have hmq := hm
              clear hm
              go_loopw [16] (fun i wr => ∃ (j : Nat) (cur : List UInt32), j ≤ 8 ∧ cur.length = 8 ∧ cur = (List.zipWith (· + ·) s.l r.l).take j ++ r.l.drop j ∧ i = .int .i64 j ∧
                  wr.heap[w.heap.size]? = some (.cells (s.l.map V32).toArray 123 (0, 0)) ∧ wr.heap[w.heap.size + 1]? = some (.cells Z 123 (0, 0)) ∧
                  wr.heap[wq.heap.size]? = some (.cells (cur.map V32).toArray 123 (0, 0)) ∧ Mod [] w wr) (fun i _ => 8 - (intOf i).toNat)
              case atStart => exact ⟨0, r.l, by omega, rfl, rfl, rfl, HBS.out, HBR.out, HBC.out, hmq⟩
              case round =>
                clear HBS HBR HBC hmq
                obtain ⟨i, cur, hi8, hc8, hcur, rfl, hbs, hbr, hbc, hm⟩ := hrel
                have HC := Lib.hid hcur
                have HC8 := Lib.hid hc8
                have HBS := Lib.hid hbs
                have HBR := Lib.hid hbr
                have HBC := Lib.hid hbc
                clear hcur hbs hbr hbc
                by_cases hlt : i < 8
                · have c0 : wr.cell? ⟨wq.heap.size, i, none⟩ = some (V32 (cur.getD i 0)) := by
                    rw [cell_blk HBC.out]; simpa using cell_map V32 cur i 0 (by omega)
                  have c1 : wr.cell? ⟨w.heap.size, i, none⟩ = some (V32 (s.l.getD i 0)) := by
                    rw [cell_blk HBS.out]; simpa using cell_map V32 s.l i 0 hlt
                  have fz : wr.frozen? ⟨wq.heap.size, i, none⟩ = false := frozen_blk HBC.out i
                  clear hc8
                  go_wp2
                  go_region
                  go_wp2
                  go_roundw
                  case rel =>
                    refine ⟨i + 1, cur.set i (s.l.getD i 0 + cur.getD i 0), by omega, by simpa using HC8.out, ?_, by go_num, ?_, ?_, ?_, ?_⟩
                    · have hsl : s.l.length = 8 := rfl
                      have hrl : r.l.length = 8 := rfl
                      have e1 : cur.getD i 0 = r.l.getD i 0 := by
                        rw [HC.out]
                        simp [List.getElem?_append, hsl, hrl, show min i 8 = i by omega]
                      rw [e1, HC.out]
                      exact set_mix _ _ _ _ (by simp [List.getElem?_zipWith, List.getElem?_eq_getElem (show i < s.l.length by omega), List.getElem?_eq_getElem (show i < r.l.length by omega)]) (by simp [St.l])
                    · exact hp_drew (hp_sc_ne HBS.out (by omega))
                    · exact hp_drew (hp_sc_ne HBR.out (by omega))
                    · refine hp_drew ?_
                      have h := hp_sc (j := i) (v := V32 (s.l.getD i 0 + cur.getD i 0)) HBC.out
                      rw [map_set] at h
                      rw [UInt32.add_comm (s.l.getD i 0) (cur.getD i 0)] at h ⊢
                      simpa using h
                    · exact (hm.setCell (.inr (by simp; omega)) _).drew
                  case measure => simp [intOf]; omega
                · have hd8 : decide ((i : Int) < 8) = false := by simp; omega
                  have hL := load8 cur hc8 HBC.out
                  have hS := store8 cur hc8 HBR.out HZ.out
                  clear hc8
                  go_wp2_with fail
                  refine bodyPost_ret (results_cell_row rfl _ _ _ _ _ _ _ rfl (hp_setRow HBR.out) Tryd.underlying123 rfl (by simpa [HC8.out] using info61)) rfl ⟨?_, hm.setRow (.inr (by omega)) _⟩
                  have hj8 : i = 8 := by omega
                  have hcc := HC.out
                  rw [hj8] at hcc
                  rw [hcc, HR64.out]
                  rfl
end Go.Proofs.YtmdgefiojapogaaDoor
