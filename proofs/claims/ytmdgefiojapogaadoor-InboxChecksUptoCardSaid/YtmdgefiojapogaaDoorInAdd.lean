/- Add of a box. Condition: at most 2^20 entries. -/
import Derived.Test.YtmdgefiojapogaaDoorInBoxM
namespace Go.Proofs.YtmdgefiojapogaaDoor
open Go.RowKit
attribute [local go_sem high] one8 st8 cm8 b_and8 b_and8r b_and8l b_or8 b_or8r b_or8l b_xor8 b_xor8r b_xor8l b_andNot8 b_andNot8r b_andNot8l b_add8 b_add8r b_add8l b_sub8 b_sub8r b_sub8l b_mul8 b_mul8r b_mul8l b_eql8 b_eql8r b_eql8l b_neq8 b_neq8r b_neq8l b_lss8 b_lss8r b_lss8l b_leq8 b_leq8r b_leq8l b_gtr8 b_gtr8r b_gtr8l b_geq8 b_geq8r b_geq8l b_quo8r b_rem8r b_shl8r b_shr8r b_shl8l b_shr8l u_xor8 g_eql8 g_neq8 g_eql8' g_neq8' one32 st32 cm32 b_and32 b_and32r b_and32l b_or32 b_or32r b_or32l b_xor32 b_xor32r b_xor32l b_andNot32 b_andNot32r b_andNot32l b_add32 b_add32r b_add32l b_sub32 b_sub32r b_sub32l b_mul32 b_mul32r b_mul32l b_eql32 b_eql32r b_eql32l b_neq32 b_neq32r b_neq32l b_lss32 b_lss32r b_lss32l b_leq32 b_leq32r b_leq32l b_gtr32 b_gtr32r b_gtr32l b_geq32 b_geq32r b_geq32l b_quo32r b_rem32r b_shl32r b_shr32r b_shl32l b_shr32l u_xor32 g_eql32 g_neq32 g_eql32' g_neq32' one64 st64 cm64 b_and64 b_and64r b_and64l b_or64 b_or64r b_or64l b_xor64 b_xor64r b_xor64l b_andNot64 b_andNot64r b_andNot64l b_add64 b_add64r b_add64l b_sub64 b_sub64r b_sub64l b_mul64 b_mul64r b_mul64l b_eql64 b_eql64r b_eql64l b_neq64 b_neq64r b_neq64l b_lss64 b_lss64r b_lss64l b_leq64 b_leq64r b_leq64l b_gtr64 b_gtr64r b_gtr64l b_geq64 b_geq64r b_geq64l b_quo64r b_rem64r b_shl64r b_shr64r b_shl64l b_shr64l u_xor64 g_eql64 g_neq64 g_eql64' g_neq64' c_u8_u8 c_u8_u32 c_u8_u64 c_i_u8 c_u32_u8 c_u32_u32 c_u32_u64 c_i_u32 c_u64_u8 c_u64_u32 c_u64_u64 c_i_u64 c_u8_i c_u32_i
attribute [local go_sem ↓] ce8 ce32 ce64
attribute [local go_sem ↓] sliced_slp loadO26 storeO26 loadOEn storeOEn buildZDg buildZEn
/-- Is it earlier than the last one? -/
def early (es : List Ev) (x : En) : Bool := match es.getLast? with | none => false | some y => decide (x.time < y.1.time)
theorem infoEnZ : (Tryd.prog.info? 35).map (fun i => (i.zero, i.size, i.bytes)) = some (some (.agg zeroEn.cells.toArray), 49, 136) := by kernel_rfl
theorem buildSlEn (n : Nat) (parts : Array (Nat × Value)) : Instr.buildSlice 25 n parts = BuildSlO 25 n parts := rfl
attribute [local go_sem ↓] buildSlEn buildSlO42
theorem evc_one (x : Ev) : ∀ u ∈ evc x, u.oneCell' = true := en_one x.1
set_option maxRecDepth 100000 in
theorem run_buildEn (w : World) (x : En) (hl : x.Ln) : (BuildSlO 25 1 #[(0, .agg x.cells.toArray)]).run Tryd.prog w = .ok (.slice (some ⟨w.heap.size, 0, none⟩) 1 1) (w.alloc (.cells x.cells.toArray 35)) := by
  have hu := Tryd.underlying25
  obtain ⟨i0, hi, hz0, hz1, hz2⟩ := info_parts infoEnZ
  obtain ⟨Z, hZ⟩ : ∃ Z : Value, Z = .agg zeroEn.cells.toArray := ⟨_, rfl⟩
  obtain ⟨s, hs⟩ : ∃ s : Nat, s = 49 := ⟨_, rfl⟩
  rw [← hZ] at hz0
  rw [← hs] at hz1
  have hz49 := En.cells_len zeroEn_ln
  have hx49 := En.cells_len hl
  have hfill : Instr.fill (fun i => some (i * s, s)) ((Array.range (1 * s)).map (Z.cells[· % Z.cells.size]!)) [(0, .agg x.cells.toArray)] = some x.cells.toArray := by
    have e : ((Array.range (1 * s)).map (Z.cells[· % Z.cells.size]!)) = ([] ++ (zeroEn.cells ++ [])).toArray := by subst hZ hs; kernel_rfl
    rw [e, fill_part _ [] zeroEn.cells [] 0 (.agg x.cells.toArray) [] x.cells rfl (by simp [hz49, hs]) (by rw [hx49, hz49])]
    simp [Instr.fill]
  have hsz : (sizeOf 35).run Tryd.prog w = .ok s w := run_sizeOf (by rw [hi]; simp [hz1]) w
  have hzv : (zeroValue 35).run Tryd.prog w = .ok Z w := by simp [zeroValue, typeInfo, hi, hz0]
  have c1 : ¬ (1 * s > 2 ^ 24) := by omega
  have c2 : ¬ (1 * s = 0) := by omega
  clear hs
  unfold BuildSlO Instr.buildSlice
  rw [Sem.run_bind, run_underlying hu]
  simp only [Result.andThen_ok]
  rw [Sem.run_bind, hsz]
  simp only [Result.andThen_ok]
  rw [if_neg c1, if_neg c2, Sem.run_bind, hzv]
  simp only [Result.andThen_ok, pure_bind, hfill]
  simp [newRow]
theorem appE3 {ops : Array Oper} {o : Oper} {a : Act} {Q : Exit → Act → World → Prop} {w : World} {K : Act → World → Prop} {EE : Prop} (hgd : o.guard = none) (so x : Operand)
    (ho : o.op = .call { callee := .builtin .append, args := #[so, x], argTypes := #[25, 25] })
    (B : Nat) (v : Value) (l : List Ev) (hown : OwnEn w B v l) (hs : a.eval so = v) (b : Nat) (d : Ev) (hx : a.eval x = .slice (some ⟨b, 0, none⟩) 1 1)
    (hr : w.heap[b]? = some (.cells d.1.cells.toArray 35)) (hlen : l.length ≤ 1048577) (hbase : B ≤ w.heap.size)
    (h : ∀ v' w', OwnEn w' B v' (l ++ [d]) → w.grownBy w' v.ownBlock → (v'.ownBlock = v.ownBlock ∨ v'.ownBlock = some w.heap.size) → K (a.put o.dst v') w') : if Region.wanted o (yielded ops a.tmps) = true then Oper.wp Tryd.prog o a w K Q else EE :=
  step_pushN (.agg zeroEn.cells.toArray) 136 Tryd.underlying25 infoEnZ (by simp [Value.cells, En.cells_len zeroEn_ln]) (by decide) evc_len evc_one hgd so x ho B v l hown hs b 0 1 1 [d] hx rfl (range_blk hr 0 _ (fun j v hv => by simpa [evc] using hv)) (by unfold maxLen; simp; omega) (by simp; omega) hbase h
theorem appD3 {ops : Array Oper} {o : Oper} {a : Act} {Q : Exit → Act → World → Prop} {w : World} {K : Act → World → Prop} {EE : Prop} (hgd : o.guard = none) (so x : Operand)
    (ho : o.op = .call { callee := .builtin .append, args := #[so, x], argTypes := #[36, 36] })
    (B : Nat) (v : Value) (l : List Bs) (hown : OwnD w B v l) (hs : a.eval so = v) (b : Nat) (d : Bs) (hx : a.eval x = .slice (some ⟨b, 0, none⟩) 1 1)
    (hr : w.heap[b]? = some (.cells (dgc d).toArray 24)) (hlen : l.length ≤ 4294967296) (hbase : B ≤ w.heap.size)
    (h : ∀ v' w', OwnD w' B v' (l ++ [d]) → w.grownBy w' v.ownBlock → (v'.ownBlock = v.ownBlock ∨ v'.ownBlock = some w.heap.size) → K (a.put o.dst v') w') : if Region.wanted o (yielded ops a.tmps) = true then Oper.wp Tryd.prog o a w K Q else EE :=
  step_pushN (dv (zeros 32)) 32 Tryd.underlying36 infoD rfl (by decide) dgc_len dgc_one hgd so x ho B v l hown hs b 0 1 1 [d] hx rfl (range_blk hr 0 _ (fun j v hv => by simpa using hv)) (by unfold maxLen; simp; omega) (by simp; omega) hbase h
theorem early_get {es : List Ev} {x : En} {m : Nat} {y : Ev} (hl : es.length = m + 1) (hy : es[m]? = some y) : early es x = decide (x.time < y.1.time) := by
  unfold early
  have h : es.getLast? = some y := by rw [List.getLast?_eq_getElem?, hl]; exact hy
  rw [h]
def addE (es : List Ev) (x : En) : Int := if x.fine then (if early es x then 153 else 0) else 150
set_option maxRecDepth 100000 in
theorem add_bad {hf : Bs → Bs} (B g : Nat) (ve vl : Value) (es : List Ev) (ks : List Bs) (x : En) (w : World) (h : IsBox w B g ve vl es ks) (hl : x.Ln) (hr : Rd V8 w x.body.p x.body.cap x.body.d) (H : Hs hf w) (hc : x.fine = false) :
    Calls Tryd.prog 23 #[.pointer (some ⟨g, 0, none⟩), .agg x.cells.toArray] w fun e w' => e = .returned (.tuple #[.int .i64 0, .int .i64 150]) ∧ Mod [] w w' := by
  have m1 := (Mod.refl [] w).alloc (.cells x.cells.toArray 35)
  have HI := Lib.hid (h.mod0 m1)
  obtain ⟨pe, ce, hve, hre, _⟩ := h.own.rd
  have c0 := HI.out.c0
  rw [hve] at c0
  have HVE := Lib.hid hve
  have HRE := Lib.hid hre
  have HEL := Lib.hid hl
  have HER := Lib.hid hr
  have HE := Lib.hid (fun (V : World) (m : Mod [] (w.alloc (.cells x.cells.toArray 35)) V) => enBox hl (m.get0 (hp_new w (.cells x.cells.toArray 35) _ rfl)))
  have hkl := lk_len h.k32 es.length
  have HNE := Lib.hid (fun (V : World) (m : Mod [] w V) => next_any (hf := hf) (lk ks es.length) hkl x V hl (hr.mod0 m) (H.mod0 m))
  have hE : nextE x = 150 := by unfold nextE; rw [hc]; rfl
  rw [hE] at HNE
  have HN32 := Lib.hid (show (nextH hf (lk ks es.length) x).length = 32 by unfold nextH; rw [hc]; exact zeros_length 32)
  obtain ⟨l, hl2⟩ : ∃ l, l = es.length := ⟨_, rfl⟩
  have HLL := Lib.hid hl2
  have hsm : l ≤ 1048576 := by rw [hl2]; exact h.small
  have HLK := Lib.hid (link_any B g _ vl es ks _ HI.out es.length)
  rw [show lkE es.length es.length = 0 by unfold lkE; rw [if_pos (by omega)]] at HLK
  rw [← hl2] at c0 HLK HNE HN32 hkl
  obtain ⟨L, hL⟩ : ∃ L, L = lk ks l := ⟨_, rfl⟩
  have HLQ := Lib.hid hL
  rw [← hL] at HLK HNE HN32 hkl
  obtain ⟨X, hX⟩ : ∃ X, X = nextH hf L x := ⟨_, rfl⟩
  have HXQ := Lib.hid hX
  rw [← hX] at HNE HN32
  have HTM : ∀ V, Mod [] (w.alloc (.cells x.cells.toArray 35)) V → V.cell? ⟨w.heap.size, 21, none⟩ = some (.int .i64 x.time) := fun V m => (HE.out V m).c21
  have HTM := Lib.hid HTM
  obtain ⟨cs, hcs⟩ : ∃ cs, cs = x.cells.toArray := ⟨_, rfl⟩
  rw [← hcs] at c0 HE HNE HLK HI m1 HTM ⊢
  have HCS := Lib.hid hcs
  have HKL := Lib.hid hkl
  have M1 := Lib.hid m1
  have HB := Lib.hid h
  clear h hl hr H hc hE hcs hX hL hl2 hkl m1 hve hre
  go_enter Tryd.func23, Tryd.ntmps23
  go_wp2_with fail
  refine HLK.out.mono ?_
  rintro e w2 ⟨rfl, m2⟩
  have hS := storeNewD w2 L HKL.out
  have M3 := Lib.hid (m2.alloc (.cells (L.map V8).toArray 24))
  have hL7 := loadDv L HKL.out (hp_new w2 (.cells (L.map V8).toArray 24) _ rfl)
  have hLE := (HE.out _ M3.out).ln
  have HNN := Lib.hid (HNE.out _ (M1.out.trans0 M3.out))
  rw [← HCS.out] at hLE
  clear m2 c0
  go_wp2_with fail
  refine HNN.out.mono ?_
  rintro e w4 ⟨rfl, m4⟩
  have hS4 := storeNewD w4 X HN32.out
  have HM5 := Lib.hid (M3.out.trans0 (m4.alloc (.cells (X.map V8).toArray 24)))
  have HM := Lib.hid (M1.out.trans0 HM5.out)
  clear m4 hS hL7 hLE
  go_wp2_with fail
  go_ret2
  exact ⟨rfl, HM.out⟩
set_option maxRecDepth 100000 in
theorem add_early {hf : Bs → Bs} (B g : Nat) (ve vl : Value) (es : List Ev) (ks : List Bs) (x : En) (w : World) (h : IsBox w B g ve vl es ks) (hl : x.Ln) (hr : Rd V8 w x.body.p x.body.cap x.body.d) (H : Hs hf w) (hc : x.fine = true) (he : early es x = true) :
    Calls Tryd.prog 23 #[.pointer (some ⟨g, 0, none⟩), .agg x.cells.toArray] w fun e w' => e = .returned (.tuple #[.int .i64 0, .int .i64 153]) ∧ Mod [] w w' := by
  have m1 := (Mod.refl [] w).alloc (.cells x.cells.toArray 35)
  have HI := Lib.hid (h.mod0 m1)
  have HEA := Lib.hid he
  clear he
  obtain ⟨pe, ce, hve, hre, _⟩ := h.own.rd
  have c0 := HI.out.c0
  rw [hve] at c0
  have HVE := Lib.hid hve
  have HRE := Lib.hid hre
  have HEL := Lib.hid hl
  have HER := Lib.hid hr
  have HE := Lib.hid (fun (V : World) (m : Mod [] (w.alloc (.cells x.cells.toArray 35)) V) => enBox hl (m.get0 (hp_new w (.cells x.cells.toArray 35) _ rfl)))
  have hkl := lk_len h.k32 es.length
  have HNE := Lib.hid (fun (V : World) (m : Mod [] w V) => next_any (hf := hf) (lk ks es.length) hkl x V hl (hr.mod0 m) (H.mod0 m))
  have hE : nextE x = 0 := by unfold nextE; rw [hc]; rfl
  rw [hE] at HNE
  have HN32 := Lib.hid (show (nextH hf (lk ks es.length) x).length = 32 by unfold nextH; rw [hc]; exact H.len _)
  obtain ⟨l, hl2⟩ : ∃ l, l = es.length := ⟨_, rfl⟩
  have HLL := Lib.hid hl2
  have hsm : l ≤ 1048576 := by rw [hl2]; exact h.small
  have HLK := Lib.hid (link_any B g _ vl es ks _ HI.out es.length)
  rw [show lkE es.length es.length = 0 by unfold lkE; rw [if_pos (by omega)]] at HLK
  rw [← hl2] at c0 HLK HNE HN32 hkl
  obtain ⟨L, hL⟩ : ∃ L, L = lk ks l := ⟨_, rfl⟩
  have HLQ := Lib.hid hL
  rw [← hL] at HLK HNE HN32 hkl
  obtain ⟨X, hX⟩ : ∃ X, X = nextH hf L x := ⟨_, rfl⟩
  have HXQ := Lib.hid hX
  rw [← hX] at HNE HN32
  have HTM : ∀ V, Mod [] (w.alloc (.cells x.cells.toArray 35)) V → V.cell? ⟨w.heap.size, 21, none⟩ = some (.int .i64 x.time) := fun V m => (HE.out V m).c21
  have HTM := Lib.hid HTM
  obtain ⟨cs, hcs⟩ : ∃ cs, cs = x.cells.toArray := ⟨_, rfl⟩
  rw [← hcs] at c0 HE HNE HLK HI m1 HTM ⊢
  have HCS := Lib.hid hcs
  have HKL := Lib.hid hkl
  have M1 := Lib.hid m1
  have HB := Lib.hid h
  clear h hl hr H hc hE hcs hX hL hl2 hkl m1 hve hre
  go_enter Tryd.func23, Tryd.ntmps23
  go_wp2_with fail
  refine HLK.out.mono ?_
  rintro e w2 ⟨rfl, m2⟩
  have hS := storeNewD w2 L HKL.out
  have M3 := Lib.hid (m2.alloc (.cells (L.map V8).toArray 24))
  have hL7 := loadDv L HKL.out (hp_new w2 (.cells (L.map V8).toArray 24) _ rfl)
  have hLE := (HE.out _ M3.out).ln
  have HNN := Lib.hid (HNE.out _ (M1.out.trans0 M3.out))
  rw [← HCS.out] at hLE
  clear m2 c0
  go_wp2_with fail
  refine HNN.out.mono ?_
  rintro e w4 ⟨rfl, m4⟩
  have hS4 := storeNewD w4 X HN32.out
  have HM5 := Lib.hid (M3.out.trans0 (m4.alloc (.cells (X.map V8).toArray 24)))
  have HM := Lib.hid (M1.out.trans0 HM5.out)
  obtain ⟨w5, hw5⟩ : ∃ w5, w5 = w4.alloc (.cells (X.map V8).toArray 24) := ⟨_, rfl⟩
  obtain ⟨b9, hb9⟩ : ∃ b9, b9 = w4.heap.size := ⟨_, rfl⟩
  have HX9 := Lib.hid (show w5.heap[b9]? = some (.cells (X.map V8).toArray 24) from by rw [hw5, hb9]; exact hp_new _ _ _ rfl)
  have HB9 := Lib.hid (show w.heap.size ≤ b9 from by rw [hb9]; exact Nat.le_trans (M1.out.trans0 M3.out).size m4.size)
  rw [← hb9] at hS4
  rw [← hw5] at hS4 HM5 HM
  have HW5 := Lib.hid hw5
  have HBQ := Lib.hid hb9
  rw [hb9] at hS4
  clear m4 hw5 hb9
  go_wp2_with fail
  rw [← HBQ.out]
  clear hS4 hS hL7 hLE
  have HI5 := Lib.hid (HI.out.mod0 HM5.out)
  have k0 := HI5.out.c0
  rw [HVE.out, ← HLL.out] at k0
  have k0d : w5.drew.cell? ⟨g, 0, none⟩ = some (.slice pe l ce) := k0
  have t0d : w5.drew.cell? ⟨w.heap.size, 21, none⟩ = some (.int .i64 x.time) := HTM.out _ HM5.out.drew
  go_cut [32] from 33 to 48 (fun v wx => v = .bool true ∧ wx = w5.drew)
  case first =>
    by_cases hl0 : l = 0
    · exfalso
      subst hl0
      have h1 := HEA.out
      have h2 := HLL.out
      rw [List.eq_nil_of_length_eq_zero h2.symm] at h1
      cases h1
    · obtain ⟨m, rfl⟩ : ∃ m, l = m + 1 := ⟨l - 1, by omega⟩
      have hml : m < es.length := by have := HLL.out; omega
      obtain ⟨y, hy⟩ : ∃ y, es[m]? = some y := ⟨_, List.getElem?_eq_getElem hml⟩
      have hcmp := early_get (x := x) HLL.out.symm hy
      rw [HEA.out] at hcmp
      obtain ⟨b, o, hpe, hrg⟩ := HRE.out.elem evc_len m y hy
      have t1 := (enAt y.2 (range_mod HM.out hrg (by simp))).c21
      have t1d : w5.drew.cell? ⟨b, o + m * 49 + 21, none⟩ = some (.int .i64 y.1.time) := t1
      subst hpe
      have hcmp2 : decide (x.time < y.1.time) = true := hcmp.symm
      have q1 : (0 : Int) < (m : Int) + 1 := by omega
      have q2 : (0 : Int) ≤ (m : Int) := by omega
      have q3 : (m : Int) < (m : Int) + 1 := by omega
      clear hy hrg t1 hml hcmp hl0
      go_region
      all_goals
        go_wp2_with fail
        go_meet
        case rel => exact ⟨rfl, rfl⟩
  case rest =>
    obtain ⟨rfl, hwc⟩ := hcut
    have hwc2 := hwc.symm
    clear hwc
    subst hwc2
    clear k0 k0d t0d
    go_wp2_with fail
    go_ret2
    exact ⟨rfl, HM.out.drew⟩
set_option maxRecDepth 100000 in
theorem add_ok {hf : Bs → Bs} (B g : Nat) (ve vl : Value) (es : List Ev) (ks : List Bs) (x : En) (w : World) (h : IsBox w B g ve vl es ks) (hl : x.Ln) (hr : Rd V8 w x.body.p x.body.cap x.body.d) (H : Hs hf w) (hc : x.fine = true) (he : early es x = false) (hsp : es.length < 1048576) (hbb : x.body.d.length ≤ 1099511627776) :
    Calls Tryd.prog 23 #[.pointer (some ⟨g, 0, none⟩), .agg x.cells.toArray] w fun e w' => e = .returned (.tuple #[.int .i64 es.length, .int .i64 0]) ∧ ∃ (ve' vl' : Value) (y : SlR), y.d = x.body.d ∧ ∃ z : Ev, z.1 = x.wb y ∧ IsBox w' B g ve' vl' (es ++ [z]) (ks ++ [nextH hf (lk ks es.length) x]) ∧ Mod (g :: (ve.ownBlock.toList ++ vl.ownBlock.toList)) w w' := by
  have m1 := (Mod.refl [] w).alloc (.cells x.cells.toArray 35)
  have HI := Lib.hid (h.mod0 m1)
  have HEA := Lib.hid he
  clear he
  have HBB := Lib.hid hbb
  clear hbb
  have HSP := Lib.hid hsp
  clear hsp
  obtain ⟨pe, ce, hve, hre, _⟩ := h.own.rd
  have c0 := HI.out.c0
  rw [hve] at c0
  have HVE := Lib.hid hve
  have HRE := Lib.hid hre
  have HEL := Lib.hid hl
  have HER := Lib.hid hr
  have HE := Lib.hid (fun (V : World) (m : Mod [] (w.alloc (.cells x.cells.toArray 35)) V) => enBox hl (m.get0 (hp_new w (.cells x.cells.toArray 35) _ rfl)))
  have hkl := lk_len h.k32 es.length
  have HNE := Lib.hid (fun (V : World) (m : Mod [] w V) => next_any (hf := hf) (lk ks es.length) hkl x V hl (hr.mod0 m) (H.mod0 m))
  have hE : nextE x = 0 := by unfold nextE; rw [hc]; rfl
  rw [hE] at HNE
  have HN32 := Lib.hid (show (nextH hf (lk ks es.length) x).length = 32 by unfold nextH; rw [hc]; exact H.len _)
  obtain ⟨l, hl2⟩ : ∃ l, l = es.length := ⟨_, rfl⟩
  have HLL := Lib.hid hl2
  have hsm : l ≤ 1048576 := by rw [hl2]; exact h.small
  have HLK := Lib.hid (link_any B g _ vl es ks _ HI.out es.length)
  rw [show lkE es.length es.length = 0 by unfold lkE; rw [if_pos (by omega)]] at HLK
  rw [← hl2] at c0 HLK HNE HN32 hkl
  obtain ⟨L, hL⟩ : ∃ L, L = lk ks l := ⟨_, rfl⟩
  have HLQ := Lib.hid hL
  rw [← hL] at HLK HNE HN32 hkl
  obtain ⟨X, hX⟩ : ∃ X, X = nextH hf L x := ⟨_, rfl⟩
  have HXQ := Lib.hid hX
  rw [← hX] at HNE HN32
  have HTM : ∀ V, Mod [] (w.alloc (.cells x.cells.toArray 35)) V → V.cell? ⟨w.heap.size, 21, none⟩ = some (.int .i64 x.time) := fun V m => (HE.out V m).c21
  have HTM := Lib.hid HTM
  obtain ⟨cs, hcs⟩ : ∃ cs, cs = x.cells.toArray := ⟨_, rfl⟩
  rw [← hcs] at c0 HE HNE HLK HI m1 HTM ⊢
  have HCS := Lib.hid hcs
  have HKL := Lib.hid hkl
  have M1 := Lib.hid m1
  have HB := Lib.hid h
  clear h hl hr H hc hE hcs hX hL hl2 hkl m1 hve hre
  go_enter Tryd.func23, Tryd.ntmps23
  go_wp2_with fail
  refine HLK.out.mono ?_
  rintro e w2 ⟨rfl, m2⟩
  have hS := storeNewD w2 L HKL.out
  have M3 := Lib.hid (m2.alloc (.cells (L.map V8).toArray 24))
  have hL7 := loadDv L HKL.out (hp_new w2 (.cells (L.map V8).toArray 24) _ rfl)
  have hLE := (HE.out _ M3.out).ln
  have HNN := Lib.hid (HNE.out _ (M1.out.trans0 M3.out))
  rw [← HCS.out] at hLE
  clear m2 c0
  go_wp2_with fail
  refine HNN.out.mono ?_
  rintro e w4 ⟨rfl, m4⟩
  have hS4 := storeNewD w4 X HN32.out
  have HM5 := Lib.hid (M3.out.trans0 (m4.alloc (.cells (X.map V8).toArray 24)))
  have HM := Lib.hid (M1.out.trans0 HM5.out)
  obtain ⟨w5, hw5⟩ : ∃ w5, w5 = w4.alloc (.cells (X.map V8).toArray 24) := ⟨_, rfl⟩
  obtain ⟨b9, hb9⟩ : ∃ b9, b9 = w4.heap.size := ⟨_, rfl⟩
  have HX9 := Lib.hid (show w5.heap[b9]? = some (.cells (X.map V8).toArray 24) from by rw [hw5, hb9]; exact hp_new _ _ _ rfl)
  have HB9 := Lib.hid (show w.heap.size ≤ b9 from by rw [hb9]; exact Nat.le_trans (M1.out.trans0 M3.out).size m4.size)
  rw [← hb9] at hS4
  rw [← hw5] at hS4 HM5 HM
  have HW5 := Lib.hid hw5
  have HBQ := Lib.hid hb9
  rw [hb9] at hS4
  clear m4 hw5 hb9
  go_wp2_with fail
  rw [← HBQ.out]
  clear hS4 hS hL7 hLE
  have HI5 := Lib.hid (HI.out.mod0 HM5.out)
  have k0 := HI5.out.c0
  rw [HVE.out, ← HLL.out] at k0
  have k0d : w5.drew.cell? ⟨g, 0, none⟩ = some (.slice pe l ce) := k0
  have t0d : w5.drew.cell? ⟨w.heap.size, 21, none⟩ = some (.int .i64 x.time) := HTM.out _ HM5.out.drew
  go_cut [32] from 33 to 48 (fun v wx => v = .bool false ∧ wx = w5.drew)
  case first =>
    by_cases hl0 : l = 0
    · subst hl0
      go_region
      go_wp2_with fail
      go_meet
      case rel => exact ⟨rfl, rfl⟩
    · obtain ⟨m, rfl⟩ : ∃ m, l = m + 1 := ⟨l - 1, by omega⟩
      have hml : m < es.length := by have := HLL.out; omega
      obtain ⟨y, hy⟩ : ∃ y, es[m]? = some y := ⟨_, List.getElem?_eq_getElem hml⟩
      have hcmp := early_get (x := x) HLL.out.symm hy
      rw [HEA.out] at hcmp
      obtain ⟨b, o, hpe, hrg⟩ := HRE.out.elem evc_len m y hy
      have t1 := (enAt y.2 (range_mod HM.out hrg (by simp))).c21
      have t1d : w5.drew.cell? ⟨b, o + m * 49 + 21, none⟩ = some (.int .i64 y.1.time) := t1
      subst hpe
      have hcmp2 : decide (x.time < y.1.time) = false := hcmp.symm
      have q1 : (0 : Int) < (m : Int) + 1 := by omega
      have q2 : (0 : Int) ≤ (m : Int) := by omega
      have q3 : (m : Int) < (m : Int) + 1 := by omega
      clear hy hrg t1 hml hcmp hl0
      go_region
      all_goals
        go_wp2_with fail
        go_meet
        case rel => exact ⟨rfl, rfl⟩
  case rest =>
    obtain ⟨rfl, hwc⟩ := hcut
    have hwc2 := hwc.symm
    clear hwc
    subst hwc2
    clear k0 k0d t0d
    have d40 : decide ((1099511627776 : Int) ≤ (l : Int)) = false := by simp; omega
    go_wp2_with fail
    have HOW := Lib.hid (fun (V : World) (m : Mod [] w V) => own_any x V HEL.out (HER.out.mod0 m) HBB.out)
    rw [← HCS.out] at HOW
    have hmd := HM.out.drew.drew
    have kd : w5.drew.drew.cell? ⟨g, 0, none⟩ = some (.slice pe l ce) := by
      have k0 := HI5.out.c0
      rw [HVE.out, ← HLL.out] at k0
      exact k0
    have hLE : (LoadO 35 (.pointer (some ⟨w.heap.size, 0, none⟩))).run Tryd.prog w5.drew.drew = .ok (.agg cs) w5.drew.drew := by
      have h := (HE.out _ HM5.out.drew.drew).ln
      rw [← HCS.out] at h
      exact h
    have HSZ5 := Lib.hid (show B ≤ w5.heap.size from Nat.le_trans HB.out.base (Nat.le_of_lt (Nat.lt_of_lt_of_le HB.out.lt HM.out.size)))
    go_cut [] from 52 to 62 (fun wx => ∃ (ve' : Value) (y : SlR) (z : Ev), y.d = x.body.d ∧ z.1 = x.wb y ∧ wx.heap[g]? = some (.cells #[ve', vl] 93 (0, 0)) ∧ OwnEn wx B ve' (es ++ [z]) ∧ Own wx B y.v x.body.d ∧ Mod (g :: ve.ownBlock.toList) w5 wx)
    case first =>
      go_region_law (first
        | (refine appE3 rfl (.tmp 56) (.tmp 59) rfl B (.slice pe l ce) es HIO.out rfl w8.heap.size ⟨x.wb y, HEL.out.wb y⟩ rfl HBN.out (by have := HSP.out; omega) (Nat.le_trans HSZ5.out (M8.out.alloc (.cells ys 35)).size) ?_
           intro v4 w10 ho4 hg4 h4
           have G4 := Lib.hid ((hg4.block g (lt_of_block HIW.out.blk) (fun hx => ownEn_ne HIO.out HIW.out.blk (by decide) hx.symm)).trans HIW.out.blk)
           obtain ⟨p4, c4, e4, _, _⟩ := ho4.rd
           subst e4
           have c14 := cell_blk G4.out 0
           have f14 := frozen_blk G4.out 0
           have HO4 := Lib.hid ho4
           have HG4 := Lib.hid hg4
           clear ho4 hg4 h4)
        | (go_simp; go_at_call 40; with_reducible refine (HOW.out _ hmd).mono ?_
           rintro _ w8 ⟨y, hyd, rfl, ho8, m8⟩
           have HYD := Lib.hid hyd
           have HO8 := Lib.hid ho8
           have M8 := Lib.hid ((Mod.refl [] w5).drew.drew.trans0 m8)
           have k8 := cell_mod0 m8 kd
           have hBS := run_buildEn w8 (x.wb y) (HEL.out.wb y)
           obtain ⟨ys, hys⟩ : ∃ ys, ys = (x.wb y).cells.toArray := ⟨_, rfl⟩
           rw [← hys] at hBS ⊢
           have HYS := Lib.hid hys
           have k8b := cell_mod0 ((Mod.refl [] w8).alloc (.cells ys 35)) k8
           have HBN := Lib.hid (show (w8.alloc (.cells ys 35)).heap[w8.heap.size]? = some (.cells (x.wb y).cells.toArray 35) from by rw [hys]; exact hp_new _ _ _ rfl)
           have HIW := Lib.hid (HI5.out.mod0 (M8.out.alloc (.cells ys 35)))
           have HIO := Lib.hid (show OwnEn (w8.alloc (.cells ys 35)) B (.slice pe l ce) es from by have h := HIW.out.own; rw [HVE.out, ← HLL.out] at h; exact h)
           clear hyd ho8 m8 hys))
      all_goals
        obtain ⟨u4, hu4⟩ : ∃ u4, u4 = Value.slice p4 (es ++ [(⟨x.wb y, HEL.out.wb y⟩ : Ev)]).length c4 := ⟨_, rfl⟩
        have hu4' : Value.slice p4 (es.length + 1) c4 = u4 := by rw [hu4]; simp
        rw [← hu4] at HO4
        rw [hu4']
        have hne4 := ownEn_ne HO4.out G4.out (by decide)
        obtain ⟨w11, hw11⟩ : ∃ w11, w11 = w10.setCell ⟨g, 0, none⟩ u4 := ⟨_, rfl⟩
        rw [← hw11]
        have g11 : w11.heap[g]? = some (.cells #[u4, vl] 93 (0, 0)) := by
          rw [hw11]; exact hp_sc (j := 0) (v := u4) G4.out
        have mg : Mod [g] w10 w11 := by rw [hw11]; exact (Mod.refl [g] w10).setCell (.inl (by simp)) _
        have o11 : OwnEn w11 B u4 (es ++ [(⟨x.wb y, HEL.out.wb y⟩ : Ev)]) := HO4.out.mod mg (fun z hz => by rw [List.mem_singleton.1 hz]; exact hne4)
        have hvb : (Value.slice pe l ce).ownBlock = ve.ownBlock := by rw [HVE.out, ← HLL.out]
        have M11 : Mod (g :: ve.ownBlock.toList) w5 w11 := by
          have k1 := ((M8.out.alloc (.cells ys 35)).mono (S' := g :: ve.ownBlock.toList) (by simp)).of_grown HG4.out (fun z hz => .inl (List.mem_cons_of_mem _ (by rw [← hvb, hz]; simp)))
          rw [hw11]
          exact k1.setCell (.inl (List.mem_cons_self ..)) _
        have ob11 : Own w11 B y.v x.body.d := by
          have k1 := (HO8.out.mono (B' := B) (Nat.le_trans HSZ5.out (Nat.le_refl _))).alloc (.cells ys 35)
          have ms : Mod (g :: ve.ownBlock.toList) (w8.alloc (.cells ys 35)) w11 := by
            have k2 : Mod (g :: ve.ownBlock.toList) (w8.alloc (.cells ys 35)) w10 := (Mod.refl (g :: ve.ownBlock.toList) _).of_grown HG4.out (fun z hz => .inl (List.mem_cons_of_mem _ (by rw [← hvb, hz]; simp)))
            rw [hw11]
            exact k2.setCell (p := ⟨g, 0, none⟩) (.inl (List.mem_cons_self ..)) _
          refine k1.mod ms (fun z hz => ?_)
          rcases List.mem_cons.1 hz with rfl | hz
          · exact ownB_ne k1 HIW.out.blk (by decide)
          · rw [← hvb, Option.mem_toList] at hz
            obtain ⟨C, hC⟩ := HIO.out.type z hz
            exact ownB_ne k1 hC (by decide)
        have HCUT := Lib.hid (show ∃ (ve' : Value) (y : SlR) (z : Ev), y.d = x.body.d ∧ z.1 = x.wb y ∧ w11.heap[g]? = some (.cells #[ve', vl] 93 (0, 0)) ∧ OwnEn w11 B ve' (es ++ [z]) ∧ Own w11 B y.v x.body.d ∧ Mod (g :: ve.ownBlock.toList) w5 w11 from ⟨u4, y, ⟨x.wb y, HEL.out.wb y⟩, HYD.out, rfl, g11, o11, ob11, M11⟩)
        clear g11 mg o11 hvb M11 ob11 hw11 hne4 hu4' hu4
        go_wp2_with fail
        go_meet
        case rel => exact HCUT.out
    case rest =>
      obtain ⟨ve', y, z, hyd, hz1, hg, hoe, hob, hm⟩ := hcut
      have HYD := Lib.hid hyd
      have HZ1 := Lib.hid hz1
      have HG := Lib.hid hg
      have HOE := Lib.hid hoe
      have HOB := Lib.hid hob
      have HMC := Lib.hid hm
      have hgl := HI5.out.lt
      have hxn : b9 ∉ g :: ve.ownBlock.toList := by
        intro hx
        have h1 := HB9.out
        rcases List.mem_cons.1 hx with rfl | hx
        · have h2 := HB.out.lt; omega
        · rw [Option.mem_toList] at hx
          have h2 := HB.out.own.lt _ hx; omega
      have hx9 := hm.get HX9.out hxn
      have hvl : ∀ q ∈ g :: ve.ownBlock.toList, vl.ownBlock ≠ some q := by
        intro q hq
        rcases List.mem_cons.1 hq with rfl | hq
        · exact ownD_ne HI5.out.links HI5.out.blk (by decide)
        · rw [Option.mem_toList] at hq
          obtain ⟨C, hC⟩ := HI5.out.own.type q hq
          exact ownD_ne HI5.out.links hC (by decide)
      have hlk := HI5.out.links.mod hm hvl
      have HLC := Lib.hid hlk
      obtain ⟨pl, cl, hvle, hrl, _⟩ := hlk.rd
      have HVL := Lib.hid hvle
      have hll : ks.length = l := by rw [HLL.out]; exact HB.out.len
      rw [hll] at hvle
      have kc1 : wc.drew.cell? ⟨g, 1, none⟩ = some (.slice pl l cl) := by
        rw [← hvle]
        exact (cell_blk (hp_drew hg) 1).trans rfl
      have hX := HN32.out
      have hL9 := loadDv (w := wc.drew) X hX (hp_drew hx9)
      have hBS := run_buildD wc.drew X hX
      have kc1b : (wc.alloc (.cells (dgc X).toArray 24)).cell? ⟨g, 1, none⟩ = some (.slice pl l cl) := cell_mod0 ((Mod.refl [] wc).alloc (.cells (dgc X).toArray 24)) kc1
      have m13 := Lib.hid (((Mod.refl [] wc).alloc (.cells (dgc X).toArray 24)).drew)
      have HOL := Lib.hid (show OwnD ((wc.alloc (.cells (dgc X).toArray 24)).drew) B (.slice pl l cl) ks from by rw [← hvle]; exact HLC.out.mod0 m13.out)
      have hB13 : B ≤ ((wc.alloc (.cells (dgc X).toArray 24)).drew).heap.size := Nat.le_trans HSZ5.out (Nat.le_trans hm.size m13.out.size)
      have HG13 := Lib.hid (m13.out.get0 hg)
      have hkl2 : ks.length ≤ 4294967296 := by omega
      have HVQ := Lib.hid hvle
      have HKK := Lib.hid hll
      clear hyd hz1 hg hoe hob hm hx9 hxn hvl hlk hrl hvle hX hll hmd kd hLE
      go_wp2_with fail
      go_region_law (refine appD3 rfl (.tmp 67) (.tmp 69) rfl B (.slice pl l cl) ks HOL.out rfl wc.heap.size X rfl (hp_drew (hp_new wc _ _ rfl)) hkl2 hB13 ?_
                     intro v4 w14 ho4 hg4 h4
                     have G4 := Lib.hid ((hg4.block g (lt_of_block HG13.out) (fun hx => ownD_ne HOL.out HG13.out (by decide) hx.symm)).trans HG13.out)
                     obtain ⟨p4, c4, e4, _, _⟩ := ho4.rd
                     subst e4
                     have c14 := cell_blk G4.out 1
                     have f14 := frozen_blk G4.out 1
                     have HO4 := Lib.hid ho4
                     have HG4 := Lib.hid hg4
                     clear ho4 hg4 h4)
      all_goals
        obtain ⟨u4, hu4⟩ : ∃ u4, u4 = Value.slice p4 (ks ++ [X]).length c4 := ⟨_, rfl⟩
        have hu4' : Value.slice p4 (ks.length + 1) c4 = u4 := by rw [hu4]; simp
        rw [← hu4] at HO4
        rw [hu4']
        have hne4 := ownD_ne HO4.out G4.out (by decide)
        obtain ⟨w15, hw15⟩ : ∃ w15, w15 = w14.setCell ⟨g, 1, none⟩ u4 := ⟨_, rfl⟩
        rw [← hw15]
        have g15 : w15.heap[g]? = some (.cells #[ve', u4] 93 (0, 0)) := by
          rw [hw15]; exact hp_sc (j := 1) (v := u4) G4.out
        have mg : Mod [g] w14 w15 := by rw [hw15]; exact (Mod.refl [g] w14).setCell (.inl (by simp)) _
        have o15 : OwnD w15 B u4 (ks ++ [X]) := HO4.out.mod mg (fun z hz => by rw [List.mem_singleton.1 hz]; exact hne4)
        have hvb : (Value.slice pl l cl).ownBlock = vl.ownBlock := by rw [HVQ.out]
        have M15 : Mod (g :: vl.ownBlock.toList) wc w15 := by
          have k1 := (m13.out.mono (S' := g :: vl.ownBlock.toList) (by simp)).of_grown HG4.out (fun z hz => .inl (List.mem_cons_of_mem _ (by rw [← hvb, hz]; simp)))
          rw [hw15]
          exact k1.setCell (p := ⟨g, 1, none⟩) (.inl (List.mem_cons_self ..)) _
        have e15 : OwnEn w15 B ve' (es ++ [z]) := HOE.out.mod M15 (fun q hq => by
          rcases List.mem_cons.1 hq with rfl | hq
          · exact ownEn_ne HOE.out HG.out (by decide)
          · rw [Option.mem_toList] at hq
            obtain ⟨C, hC⟩ := HLC.out.type q hq
            exact ownEn_ne HOE.out hC (by decide))
        have bdy : ∀ (u : Value) (d : Bs), Own wc B u d → Own w15 B u d := fun u d hu => hu.mod M15 (fun q hq => by
          rcases List.mem_cons.1 hq with rfl | hq
          · exact ownB_ne hu HG.out (by decide)
          · rw [Option.mem_toList] at hq
            obtain ⟨C, hC⟩ := HLC.out.type q hq
            exact ownB_ne hu hC (by decide))
        have bdy5 : ∀ (u : Value) (d : Bs), Own w5 B u d → Own wc B u d := fun u d hu => hu.mod HMC.out (fun q hq => by
          rcases List.mem_cons.1 hq with rfl | hq
          · exact ownB_ne hu HI5.out.blk (by decide)
          · rw [Option.mem_toList] at hq
            obtain ⟨C, hC⟩ := HI5.out.own.type q hq
            exact ownB_ne hu hC (by decide))
        have HBOX := Lib.hid (show IsBox w15 B g ve' u4 (es ++ [z]) (ks ++ [X]) from ⟨g15, HB.out.base, e15, o15, by rw [List.length_append, List.length_append, HKK.out, HLL.out]; rfl, fun k hk => by
          rcases List.mem_append.1 hk with hk | hk
          · exact HB.out.k32 k hk
          · rw [List.mem_singleton.1 hk]; exact HN32.out, by rw [List.length_append]; exact HSP.out, fun q hq => by
          rcases List.mem_append.1 hq with hq | hq
          · have h := HI5.out.body q hq
            exact ⟨bdy _ _ (bdy5 _ _ h.1), h.2⟩
          · rw [List.mem_singleton.1 hq, HZ1.out]
            refine ⟨?_, ?_⟩
            · have h := bdy _ _ HOB.out
              rw [← HYD.out] at h
              exact h
            · show y.d.length ≤ _
              rw [HYD.out]; exact HBB.out⟩)
        have HMF := Lib.hid (show Mod (g :: (ve.ownBlock.toList ++ vl.ownBlock.toList)) w w15 from
          ((HM.out.mono (S' := g :: (ve.ownBlock.toList ++ vl.ownBlock.toList)) (by simp)).trans HMC.out (fun q hq => .inl (by
            rcases List.mem_cons.1 hq with rfl | hq
            · exact List.mem_cons_self ..
            · exact List.mem_cons_of_mem _ (List.mem_append_left _ hq)))).trans M15 (fun q hq => .inl (by
            rcases List.mem_cons.1 hq with rfl | hq
            · exact List.mem_cons_self ..
            · exact List.mem_cons_of_mem _ (List.mem_append_right _ hq))))
        clear g15 mg o15 hvb M15 e15 bdy bdy5 hw15 hne4 hu4' hu4
        go_wp2_with fail
        go_ret2
        refine ⟨by rw [HLL.out]; rfl, ve', u4, y, HYD.out, ⟨z, HZ1.out, ?_⟩⟩
        have hbx := HBOX.out
        rw [HXQ.out, HLQ.out, HLL.out] at hbx
        exact ⟨hbx, HMF.out⟩
end Go.Proofs.YtmdgefiojapogaaDoor
