/- Sum of a Hasher; Parts and Sum of the package; digests in memory. Conditions: the table of the steps lies in its variable; the Hasher is not that variable; fewer than 2^62 bytes. -/
import Derived.Test.YtmdgefiojapogaaDoorDgEnd
import Derived.Test.YtmdgefiojapogaaDoorSlR
import Derived.Stop.BytesEq
import Derived.Lib.SlBytesConst
namespace Go.Proofs.YtmdgefiojapogaaDoor
open Go.RowKit
attribute [local go_sem high] one8 st8 cm8 b_and8 b_and8r b_and8l b_or8 b_or8r b_or8l b_xor8 b_xor8r b_xor8l b_andNot8 b_andNot8r b_andNot8l b_add8 b_add8r b_add8l b_sub8 b_sub8r b_sub8l b_mul8 b_mul8r b_mul8l b_eql8 b_eql8r b_eql8l b_neq8 b_neq8r b_neq8l b_lss8 b_lss8r b_lss8l b_leq8 b_leq8r b_leq8l b_gtr8 b_gtr8r b_gtr8l b_geq8 b_geq8r b_geq8l b_quo8r b_rem8r b_shl8r b_shr8r b_shl8l b_shr8l u_xor8 g_eql8 g_neq8 g_eql8' g_neq8' one32 st32 cm32 b_and32 b_and32r b_and32l b_or32 b_or32r b_or32l b_xor32 b_xor32r b_xor32l b_andNot32 b_andNot32r b_andNot32l b_add32 b_add32r b_add32l b_sub32 b_sub32r b_sub32l b_mul32 b_mul32r b_mul32l b_eql32 b_eql32r b_eql32l b_neq32 b_neq32r b_neq32l b_lss32 b_lss32r b_lss32l b_leq32 b_leq32r b_leq32l b_gtr32 b_gtr32r b_gtr32l b_geq32 b_geq32r b_geq32l b_quo32r b_rem32r b_shl32r b_shr32r b_shl32l b_shr32l u_xor32 g_eql32 g_neq32 g_eql32' g_neq32' one64 st64 cm64 b_and64 b_and64r b_and64l b_or64 b_or64r b_or64l b_xor64 b_xor64r b_xor64l b_andNot64 b_andNot64r b_andNot64l b_add64 b_add64r b_add64l b_sub64 b_sub64r b_sub64l b_mul64 b_mul64r b_mul64l b_eql64 b_eql64r b_eql64l b_neq64 b_neq64r b_neq64l b_lss64 b_lss64r b_lss64l b_leq64 b_leq64r b_leq64l b_gtr64 b_gtr64r b_gtr64l b_geq64 b_geq64r b_geq64l b_quo64r b_rem64r b_shl64r b_shr64r b_shl64l b_shr64l u_xor64 g_eql64 g_neq64 g_eql64' g_neq64' c_u8_u8 c_u8_u32 c_u8_u64 c_i_u8 c_u32_u8 c_u32_u32 c_u32_u64 c_i_u32 c_u64_u8 c_u64_u32 c_u64_u64 c_i_u64 c_u8_i c_u32_i
attribute [local go_sem ↓] ce8 ce32 ce64
theorem loadO66 (p : Value) : Instr.loadAt 128 p = LoadO 128 p := rfl
theorem storeO66 (p v : Value) : Instr.storeAt 128 p v = StoreO 128 p v := rfl
attribute [local go_sem ↓] sliced_slp loadO62 loadO64 storeO62 storeO64 loadO26 storeO26 loadO66 storeO66
attribute [local irreducible] compress hst pad1 fin
/-- A digest. -/
def dv (d : List UInt8) : Value := .agg (d.map V8).toArray
theorem storeDv {w : World} {b : Nat} {C : Array Value} (p : List UInt8) (hp : p.length = 32) (hg : w.heap[b]? = some (.cells C 24 (0, 0))) (hC : C.size = 32) :
    (StoreO 24 (.pointer (some ⟨b, 0, none⟩)) (dv p)).run Tryd.prog w = .ok () (w.setRow b (p.map V8).toArray) := storeD p hp hg hC
theorem out_length (s : St) : (out s).length = 32 := by simp [out]
theorem fin_length (l : List UInt8) (x : UInt8) (m : Nat) : (fin l x m).length = 32 := by unfold fin; exact out_length _
theorem results_dv {fn : Func} {p : Tmp} (h : fn.results = #[.cell p 24]) (tmps : Array Value) (w : World) (b : Nat) (d : List UInt8) (hd : d.length = 32) (fr : Nat × Nat)
    (hp : tmps.getD p undef = .pointer (some ⟨b, 0, none⟩)) (hg : w.heap[b]? = some (.cells (d.map V8).toArray 24 fr)) : (results fn tmps).run Tryd.prog w = .ok (dv d) w :=
  results_cell_row h tmps w b _ _ fr _ hp hg Tryd.underlying24 rfl (by simpa [hd] using info26)

set_option maxRecDepth 100000 in
theorem sum_any (g : Nat) (l : List UInt8) (w : World) (h : IsHash w g l) (ht : Tab w) :
    Calls Tryd.prog 61 #[.pointer (some ⟨g, 0, none⟩)] w fun e w' => e = .returned (dv (fin l 0 0)) ∧ Mod [] w w' := by
  have H := Lib.hid h
  have HT := Lib.hid ht
  clear h ht
  go_enter Tryd.func61, Tryd.ntmps61
  go_wp2_with (go_at_call 74; refine (end_any g l 0 0 _ (H.out.mod ((Mod.refl [] w).alloc _) (by simp)) (Tab.mod ((Mod.refl [] w).alloc _) HT.out (by simp)) (by omega)).mono ?_; rintro e w1 ⟨rfl, hm1⟩
               have hS := storeDv (fin l 0 0) (fin_length _ _ _) (hm1.get0 (hp_new _ _ _ rfl)) rfl
               have HR := Lib.hid (hm1.get0 (hp_new _ _ _ rfl))
               change (StoreO _ _ (.agg _)).run _ _ = _ at hS)
  exact bodyPost_ret (results_dv rfl _ _ _ _ (fin_length _ _ _) _ rfl (hp_setRow HR.out)) rfl ⟨rfl, (((Mod.refl [] w).alloc _).trans0 hm1).setRow (.inr (Nat.le_refl _)) _⟩

set_option maxRecDepth 100000 in
theorem parts_any (pp : Option Addr) (cp : Nat) (xs : List SlR) (w : World) (hr : Rd SlR.v w pp cp xs) (hx : ∀ x ∈ xs, Rd V8 w x.p x.cap x.d) (ht : Tab w) (hg1 : 1 < w.heap.size)
    (hl : xs.length < 4611686018427387904) (hlen : total xs < 4611686018427387904) :
    Calls Tryd.prog 36 #[.slice pp xs.length cp] w fun e w' => e = .returned (dv (fin (joined xs) 0 0)) ∧ Mod [] w w' := by
  have HR := Lib.hid hr
  have HX := Lib.hid hx
  have HT := Lib.hid ht
  clear hr hx ht
  go_enter Tryd.func36, Tryd.ntmps36
  go_wp2_with (go_at_call 59; refine (new_any _).mono ?_; rintro e w1 ⟨g, rfl, hgw, hh, hm1⟩)
  have hm2 := Lib.hid (((Mod.refl [] w).alloc _).trans0 hm1)
  have HRES := Lib.hid (hm1.get0 (hp_new _ _ _ rfl))
  have HH := Lib.hid hh
  have hgw' : w.heap.size < g := by have := hgw; simp at this; omega
  clear hh hm1
  go_loopw [9] (fun v wr => ∃ k : Nat, k ≤ xs.length ∧ v = .int .i64 k ∧ IsHash wr g (joined (xs.take k)) ∧ (∃ Z : Array Value, Z.size = 32 ∧ wr.heap[w.heap.size]? = some (.cells Z 24 (0, 0))) ∧ Mod [] w wr) (fun v _ => xs.length - (intOf v).toNat)
  case atStart => exact ⟨0, by omega, rfl, HH.out, ⟨_, by rfl, HRES.out⟩, hm2.out⟩
  case round =>
    obtain ⟨k, hk, rfl, hh, ⟨Z, hZ, hres⟩, hm⟩ := hrel
    have HH := Lib.hid hh
    have HZ := Lib.hid hZ
    have HRES := Lib.hid hres
    clear hh hZ hres
    by_cases hlt : k < xs.length
    · obtain ⟨x, hxk⟩ : ∃ x, xs[k]? = some x := ⟨xs[k], List.getElem?_eq_getElem hlt⟩
      have hxd := HX.out x (List.mem_of_getElem? hxk)
      obtain ⟨b, o, rfl, hc⟩ := HR.out.cell k x hxk
      have hb : b < w.heap.size := block_lt_of_cell hc
      have hcr : wr.cell? ⟨b, o + k, none⟩ = some x.v := by
        rw [World.cell?_of_block (w := w) (hm.block b hb (by simp))]; exact hc
      have HXK := Lib.hid hxk
      have HXD := Lib.hid hxd
      clear hxk hxd hc
      have hjl := joined_take_length xs (k + 1)
      go_wp2_with (go_at_call 60; refine (write_any g (joined (xs.take k)) x.p x.cap x.d _ HH.out (HXD.out.mod0 hm) (HXD.out.off (by omega)) (Tab.mod hm HT.out (by simp)) (by omega) (by
                       rw [joined_take_succ xs k x HXK.out, List.length_append] at hjl; omega)).mono ?_; rintro e w5 ⟨rfl, hh5, hm5⟩)
      go_roundw
      case rel =>
        refine ⟨k + 1, by omega, by go_num, ?_, ⟨Z, HZ.out, hm5.get HRES.out (by simp; omega)⟩, hm.trans hm5 (fun y hy => .inr (by simp at hy; omega))⟩
        rw [joined_take_succ xs k x HXK.out]; exact hh5
      case measure => simp [intOf]; omega
    · have hkk : k = xs.length := by omega
      have hd : decide ((k : Int) < (xs.length : Int)) = false := by simp; omega
      have HK := Lib.hid hkk
      clear hkk
      go_wp2_with (go_at_call 61; refine (sum_any g _ _ HH.out (Tab.mod hm HT.out (by simp))).mono ?_; rintro e w5 ⟨rfl, hm5⟩
                   have hS := storeDv (fin (joined (xs.take k)) 0 0) (fin_length _ _ _) (hm5.get0 HRES.out) HZ.out)
      refine bodyPost_ret (results_dv rfl _ _ _ _ (fin_length _ _ _) _ rfl (hp_setRow (hm5.get0 HRES.out))) rfl ⟨?_, (hm.trans0 hm5).setRow (.inr (Nat.le_refl _)) _⟩
      rw [HK.out, List.take_length]
theorem results_dv2 {fn : Func} {p u : Tmp} (h : fn.results = #[.cell p 24, .tmp u]) (tmps : Array Value) (w : World) (b : Nat) (d : List UInt8) (hd : d.length = 32) (fr : Nat × Nat)
    (hp : tmps.getD p undef = .pointer (some ⟨b, 0, none⟩)) (hg : w.heap[b]? = some (.cells (d.map V8).toArray 24 fr)) : (results fn tmps).run Tryd.prog w = .ok (.tuple #[dv d, tmps.getD u undef]) w := by
  have hp' : tmps[p]?.getD undef = .pointer (some ⟨b, 0, none⟩) := by simpa using hp
  have hrun := run_loadVar_row (P := Tryd.prog) w b _ 24 (d.map V8).toArray fr _ hg Tryd.underlying24 rfl (by simpa [hd] using info26)
  simp [results, h, hp', asAddr, hrun]; rfl
theorem built26 : Tryd.prog.built 24 [] = some ((zeros 32).map V8).toArray := by kernel_rfl
theorem Tab.lt {w : World} (h : Tab w) : 1 < w.heap.size := block_lt_of_cell (h 0 _ (cell_map V32 steps 0 0 (by rw [steps_length]; omega)))
theorem eqD (w : World) (a b : List UInt8) (ha : a.length = 32) (hb : b.length = 32) : (binOp .eql 24 (dv a) (dv b)).run Tryd.prog w = .ok (.bool (a == b)) w :=
  run_eql_bytes w _ 5 32 Tryd.underlying24 Tryd.underlying5 Tryd.sizeOf5 a b ha hb
theorem eqFin (w : World) (l l' : List UInt8) : (binOp .eql 24 (dv (fin l 0 0)) (dv (fin l' 0 0))).run Tryd.prog w = .ok (.bool (fin l 0 0 == fin l' 0 0)) w := eqD w _ _ (fin_length _ _ _) (fin_length _ _ _)
theorem eqGuardD (w : World) (op : BinOp) (x y : Operand) (a b : List UInt8) : (eqGuard op 24 x y (dv a) (dv b)).run Tryd.prog w = .ok () w :=
  run_eqGuard_agg w op _ x y _ _ Tryd.eqGuardType24
theorem loadDv {w : World} {b : Nat} (p : List UInt8) (hp : p.length = 32) (hg : w.heap[b]? = some (.cells (p.map V8).toArray 24 (0, 0))) :
    (LoadO 24 (.pointer (some ⟨b, 0, none⟩))).run Tryd.prog w = .ok (dv p) w := loadD p hp hg
/-- A digest goes into the variable that has just been made for it. -/
theorem storeNewD (w : World) (d : List UInt8) (hd : d.length = 32) : (StoreO 24 (.pointer (some ⟨w.heap.size, 0, none⟩)) (dv d)).run Tryd.prog (w.alloc (.cells #[Value.int .u8 0, Value.int .u8 0, Value.int .u8 0, Value.int .u8 0, Value.int .u8 0, Value.int .u8 0, Value.int .u8 0, Value.int .u8 0, Value.int .u8 0, Value.int .u8 0, Value.int .u8 0, Value.int .u8 0, Value.int .u8 0, Value.int .u8 0, Value.int .u8 0, Value.int .u8 0, Value.int .u8 0, Value.int .u8 0, Value.int .u8 0, Value.int .u8 0, Value.int .u8 0, Value.int .u8 0, Value.int .u8 0, Value.int .u8 0, Value.int .u8 0, Value.int .u8 0, Value.int .u8 0, Value.int .u8 0, Value.int .u8 0, Value.int .u8 0, Value.int .u8 0, Value.int .u8 0] 24)) = .ok () (w.alloc (.cells (d.map V8).toArray 24)) := by
  have h := storeDv (w := w.alloc (.cells #[Value.int .u8 0, Value.int .u8 0, Value.int .u8 0, Value.int .u8 0, Value.int .u8 0, Value.int .u8 0, Value.int .u8 0, Value.int .u8 0, Value.int .u8 0, Value.int .u8 0, Value.int .u8 0, Value.int .u8 0, Value.int .u8 0, Value.int .u8 0, Value.int .u8 0, Value.int .u8 0, Value.int .u8 0, Value.int .u8 0, Value.int .u8 0, Value.int .u8 0, Value.int .u8 0, Value.int .u8 0, Value.int .u8 0, Value.int .u8 0, Value.int .u8 0, Value.int .u8 0, Value.int .u8 0, Value.int .u8 0, Value.int .u8 0, Value.int .u8 0, Value.int .u8 0, Value.int .u8 0] 24)) d hd (hp_new w _ _ rfl) rfl
  rw [setRow_alloc_at _ _ _ _ _ rfl] at h
  exact h
theorem alloc_hs (w : World) (o : Obj) : (w.alloc o).heap.size = w.heap.size + 1 := by simp
theorem rd_front {w : World} {g cap : Nat} {x y : List UInt8} {t : TypeId} {fr : Nat × Nat} (h : w.heap[g]? = some (.cells ((x ++ y).map V8).toArray t fr)) (hc : x.length ≤ cap) : Rd V8 w (some ⟨g, 0, none⟩) cap x :=
  Rd.of_blk h (fun j v hj => by
    have hj' : j < (x.map V8).length := (List.getElem?_eq_some_iff.1 hj).1
    rw [Nat.zero_add, List.getElem?_toArray, List.map_append, List.getElem?_append_left hj']
    exact hj) hc
theorem rd_whole {w : World} {g cap : Nat} {x : List UInt8} {t : TypeId} {fr : Nat × Nat} (h : w.heap[g]? = some (.cells (x.map V8).toArray t fr)) (hc : x.length ≤ cap) : Rd V8 w (some ⟨g, 0, none⟩) cap x :=
  rd_front (y := []) (by simpa using h) hc
end Go.Proofs.YtmdgefiojapogaaDoor
