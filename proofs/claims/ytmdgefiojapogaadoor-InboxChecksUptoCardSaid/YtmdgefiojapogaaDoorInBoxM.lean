/- Lists of digests in memory. No condition. -/
import Derived.Test.YtmdgefiojapogaaDoorInNext
import Derived.Test.YtmdgefiojapogaaDoorOwnN
import Derived.Laws.Tables
namespace Go.Proofs.YtmdgefiojapogaaDoor
open Go.RowKit
theorem cell_mod0 {a w : World} (m : Mod [] a w) {p : Addr} {v : Value} (h : a.cell? p = some v) : w.cell? p = some v := by
  rw [World.cell?_of_block (w := a) (m.block p.block (block_lt_of_cell h) (by simp))]; exact h
/-- The cells of a digest. -/
def dgc (x : Bs) : List Value := ((x ++ zeros 32).take 32).map V8
theorem dgc_len (x : Bs) : (dgc x).length = 32 := by simp [dgc, zeros_length]
theorem dgc_of {x : Bs} (h : x.length = 32) : dgc x = x.map V8 := by
  unfold dgc
  rw [List.take_left' h]
theorem dgc_one (x : Bs) : ∀ u ∈ dgc x, u.oneCell' = true := by
  intro u hu
  obtain ⟨b, _, rfl⟩ := List.mem_map.1 hu
  exact one8 b
theorem infoD : (Tryd.prog.info? 24).map (fun i => (i.zero, i.size, i.bytes)) = some (some (dv (zeros 32)), 32, 32) := by kernel_rfl
theorem dv_cells (d : Bs) : (dv d).cells = (d.map V8).toArray := rfl
def BuildSlO (t : TypeId) (n : Nat) (parts : Array (Nat × Value)) : Sem Value := Instr.buildSlice t n parts
theorem buildSlO42 (n : Nat) (parts : Array (Nat × Value)) : Instr.buildSlice 36 n parts = BuildSlO 36 n parts := rfl
def BuildO (t : TypeId) (parts : Array (Nat × Value)) : Sem Value := Instr.build t parts
theorem buildO24 (parts : Array (Nat × Value)) : Instr.build 24 parts = BuildO 24 parts := rfl
theorem fold_set : ∀ (l : List Value) (k off : Nat) (cs : List Value), off + k + l.length ≤ cs.length → (l.zipIdx k).foldl (fun cs (p : Value × Nat) => cs.set (off + p.2) p.1) cs = cs.take (off + k) ++ (l ++ cs.drop (off + k + l.length))
  | [], k, off, cs, h => by simp
  | x :: l, k, off, cs, h => by
    simp only [List.length_cons] at h
    rw [List.zipIdx_cons, List.foldl_cons]
    rw [fold_set l (k + 1) off (cs.set (off + k) x) (by rw [List.length_set]; omega)]
    have e1 : (cs.set (off + k) x).take (off + (k + 1)) = cs.take (off + k) ++ [x] := by
      rw [show off + (k + 1) = (off + k) + 1 by omega, List.take_add_one, List.getElem?_set, if_pos rfl, if_pos (by omega), List.take_set_of_le (Nat.le_refl _)]
      rfl
    have e2 : (cs.set (off + k) x).drop (off + (k + 1) + l.length) = cs.drop (off + k + (l.length + 1)) := by
      rw [List.drop_set_of_lt (by omega), show off + (k + 1) + l.length = off + k + (l.length + 1) by omega]
    rw [e1, e2]
    simp
theorem foldA : ∀ (l : List (Value × Nat)) (off : Nat) (cs : List Value), l.foldl (fun (cs : Array Value) (p : Value × Nat) => cs.setIfInBounds (off + p.2) p.1) cs.toArray = (l.foldl (fun (cs : List Value) (p : Value × Nat) => cs.set (off + p.2) p.1) cs).toArray
  | [], _, _ => rfl
  | x :: l, off, cs => by
    rw [List.foldl_cons, List.foldl_cons, List.setIfInBounds_toArray]
    exact foldA l off _
theorem fill_part (place : Nat → Option (Nat × Nat)) (A X Bs : List Value) (i : Nat) (v : Value) (rest : List (Nat × Value)) (vs : List Value) (hv : v.cells = vs.toArray) (hp : place i = some (A.length, X.length)) (hx : vs.length = X.length) :
    Instr.fill place (A ++ (X ++ Bs)).toArray ((i, v) :: rest) = Instr.fill place (A ++ (vs ++ Bs)).toArray rest := by
  rw [Instr.fill, hp]
  simp only [hv]
  rw [if_neg (by simp [hx])]
  congr 1
  have h0 : vs.toArray.zipIdx = (vs.zipIdx 0).toArray := by simp
  rw [h0]
  have h1 := foldA (vs.zipIdx 0) A.length (A ++ (X ++ Bs))
  have h2 := fold_set vs 0 A.length (A ++ (X ++ Bs)) (by simp; omega)
  rw [List.foldl_toArray']
  · rw [h1, h2]
    rw [Nat.add_zero, List.take_left' rfl, hx, ← List.drop_drop, List.drop_left' rfl, List.drop_left' rfl]
  · simp
set_option maxRecDepth 100000 in
/-- A list of one digest. -/
theorem run_buildD (w : World) (d : Bs) (hd : d.length = 32) : (BuildSlO 36 1 #[(0, dv d)]).run Tryd.prog w = .ok (.slice (some ⟨w.heap.size, 0, none⟩) 1 1) (w.alloc (.cells (dgc d).toArray 24)) := by
  have hu := Tryd.underlying36
  obtain ⟨i0, hi, hz0, hz1, hz2⟩ := info_parts infoD
  obtain ⟨Z, hZ⟩ : ∃ Z, Z = dv (zeros 32) := ⟨_, rfl⟩
  obtain ⟨s, hs⟩ : ∃ s : Nat, s = 32 := ⟨_, rfl⟩
  rw [← hZ] at hz0
  rw [← hs] at hz1
  have hfill : Instr.fill (fun i => some (i * s, s)) ((Array.range (1 * s)).map (Z.cells[· % Z.cells.size]!)) [(0, dv d)] = some (dgc d).toArray := by
    have e : ((Array.range (1 * s)).map (Z.cells[· % Z.cells.size]!)) = ([] ++ (((zeros 32).map V8) ++ [])).toArray := by subst hZ hs; kernel_rfl
    rw [e, fill_part _ [] ((zeros 32).map V8) [] 0 (dv d) [] (dgc d) (by rw [dgc_of hd]; rfl) (by simp [zeros_length, hs]) (by rw [dgc_len]; simp [zeros_length])]
    simp [Instr.fill]
  have hsz : (sizeOf 24).run Tryd.prog w = .ok s w := run_sizeOf (by rw [hi]; simp [hz1]) w
  have hzv : (zeroValue 24).run Tryd.prog w = .ok Z w := by simp [zeroValue, typeInfo, hi, hz0]
  have c1 : ¬ (1 * s > 2 ^ 24) := by omega
  have c2 : ¬ (1 * s = 0) := by omega
  clear hs
  unfold BuildSlO Instr.buildSlice
  rw [Sem.run_bind, run_underlying hu]
  simp only [Result.andThen_ok]
  rw [Sem.run_bind, hsz]
  simp only [Result.andThen_ok]
  rw [if_neg c1, if_neg c2, Sem.run_bind, hzv]
  simp only [Result.andThen_ok, pure_bind, hfill]
  simp [newRow]
abbrev OwnD (w : World) (B : Nat) (v : Value) (l : List Bs) : Prop := OwnN 24 32 dgc w B v l
abbrev RdD (w : World) (p : Option Addr) (c : Nat) (l : List Bs) : Prop := RdN 32 dgc w p c l
/-- A list of digests is handed back, the call's own. -/
def DgPost (B : Nat) (l : List Bs) (w : World) (v : Value) (w' : World) : Prop := OwnD w' B v l ∧ Mod [] w w'
/-- A digest out of a list of them. -/
theorem loadD_at {w : World} {b o i : Nat} {c : Nat} {l : List Bs} (h : RdD w (some ⟨b, o, none⟩) c l) (x : Bs) (hi : l[i]? = some x) (hx : x.length = 32) :
    (LoadO 24 (.pointer (some ⟨b, o + i * 32, none⟩))).run Tryd.prog w = .ok (dv x) w := by
  obtain ⟨b', o', e, hr⟩ := h.elem dgc_len i x hi
  simp only [Option.some.injEq, Addr.mk.injEq] at e
  obtain ⟨rfl, rfl, _⟩ := e
  rw [dgc_of hx] at hr
  have h1 : (Tryd.prog.info? 24).map (·.size) = some (x.map V8).length := by rw [List.length_map, hx]; exact info26
  have h2 := loadO_mid hr Tryd.underlying24 rfl h1
  exact h2
end Go.Proofs.YtmdgefiojapogaaDoor
namespace Go.Proofs.YtmdgefiojapogaaDoor
open Go.RowKit
attribute [local go_sem high] one8 st8 cm8 b_and8 b_and8r b_and8l b_or8 b_or8r b_or8l b_xor8 b_xor8r b_xor8l b_andNot8 b_andNot8r b_andNot8l b_add8 b_add8r b_add8l b_sub8 b_sub8r b_sub8l b_mul8 b_mul8r b_mul8l b_eql8 b_eql8r b_eql8l b_neq8 b_neq8r b_neq8l b_lss8 b_lss8r b_lss8l b_leq8 b_leq8r b_leq8l b_gtr8 b_gtr8r b_gtr8l b_geq8 b_geq8r b_geq8l b_quo8r b_rem8r b_shl8r b_shr8r b_shl8l b_shr8l u_xor8 g_eql8 g_neq8 g_eql8' g_neq8' one32 st32 cm32 b_and32 b_and32r b_and32l b_or32 b_or32r b_or32l b_xor32 b_xor32r b_xor32l b_andNot32 b_andNot32r b_andNot32l b_add32 b_add32r b_add32l b_sub32 b_sub32r b_sub32l b_mul32 b_mul32r b_mul32l b_eql32 b_eql32r b_eql32l b_neq32 b_neq32r b_neq32l b_lss32 b_lss32r b_lss32l b_leq32 b_leq32r b_leq32l b_gtr32 b_gtr32r b_gtr32l b_geq32 b_geq32r b_geq32l b_quo32r b_rem32r b_shl32r b_shr32r b_shl32l b_shr32l u_xor32 g_eql32 g_neq32 g_eql32' g_neq32' one64 st64 cm64 b_and64 b_and64r b_and64l b_or64 b_or64r b_or64l b_xor64 b_xor64r b_xor64l b_andNot64 b_andNot64r b_andNot64l b_add64 b_add64r b_add64l b_sub64 b_sub64r b_sub64l b_mul64 b_mul64r b_mul64l b_eql64 b_eql64r b_eql64l b_neq64 b_neq64r b_neq64l b_lss64 b_lss64r b_lss64l b_leq64 b_leq64r b_leq64l b_gtr64 b_gtr64r b_gtr64l b_geq64 b_geq64r b_geq64l b_quo64r b_rem64r b_shl64r b_shr64r b_shl64l b_shr64l u_xor64 g_eql64 g_neq64 g_eql64' g_neq64' c_u8_u8 c_u8_u32 c_u8_u64 c_i_u8 c_u32_u8 c_u32_u32 c_u32_u64 c_i_u32 c_u64_u8 c_u64_u32 c_u64_u64 c_i_u64 c_u8_i c_u32_i
attribute [local go_sem ↓] ce8 ce32 ce64
attribute [local go_sem ↓] sliced_slp loadO26 storeO26 loadOEn storeOEn buildZDg
theorem one64' (x : UInt64) : (V64 x).oneCell' = true := rfl
theorem en_one (x : En) : ∀ u ∈ x.cells, u.oneCell' = true := by
  intro u hu
  simp only [En.cells, List.mem_append, List.mem_cons, List.mem_map, List.not_mem_nil, or_false] at hu
  rcases hu with rfl | ⟨y, _, rfl⟩ | (rfl | rfl) | ⟨y, _, rfl⟩ | ⟨y, _, rfl⟩ | rfl | rfl
  · rfl
  · exact one8 y
  · rfl
  · rfl
  · exact one8 y
  · exact one64' y
  · rfl
  · rfl
theorem storeEn {w : World} {b : Nat} {C : Array Value} (x : En) (hl : x.Ln) (hg : w.heap[b]? = some (.cells C 35 (0, 0))) (hC : C.size = 49) :
    (StoreO 35 (.pointer (some ⟨b, 0, none⟩)) (.agg x.cells.toArray)).run Tryd.prog w = .ok () (w.setRow b x.cells.toArray) :=
  storeO_row (P := Tryd.prog) hg (by simp [En.cells_len hl, hC]) (by simpa [En.cells_len hl] using infoEn) (by rw [Array.all_eq_true_iff_forall_mem]; intro v hv; exact en_one x v (by simpa using hv))
theorem results_en {fn : Func} {p : Tmp} (h : fn.results = #[.cell p 35]) (tmps : Array Value) (w : World) (b : Nat) (x : En) (hl : x.Ln) (fr : Nat × Nat)
    (hp : tmps.getD p undef = .pointer (some ⟨b, 0, none⟩)) (hg : w.heap[b]? = some (.cells x.cells.toArray 35 fr)) : (results fn tmps).run Tryd.prog w = .ok (.agg x.cells.toArray) w :=
  results_cell_row h tmps w b _ _ fr _ hp hg Tryd.underlying35 rfl (by simpa [En.cells_len hl] using infoEn)
theorem results_en2 {fn : Func} {p u : Tmp} (h : fn.results = #[.cell p 35, .tmp u]) (tmps : Array Value) (w : World) (b : Nat) (x : En) (hl : x.Ln) (fr : Nat × Nat)
    (hp : tmps.getD p undef = .pointer (some ⟨b, 0, none⟩)) (hg : w.heap[b]? = some (.cells x.cells.toArray 35 fr)) : (results fn tmps).run Tryd.prog w = .ok (.tuple #[.agg x.cells.toArray, tmps.getD u undef]) w := by
  have hp' : tmps[p]?.getD undef = .pointer (some ⟨b, 0, none⟩) := by simpa using hp
  have hrun := run_loadVar_row (P := Tryd.prog) w b _ 35 x.cells.toArray fr _ hg Tryd.underlying35 rfl (by simpa [En.cells_len hl] using infoEn)
  simp [results, h, hp', asAddr, hrun]
namespace En
/-- With another body. -/
def wb (x : En) (y : SlR) : En := { x with body := y }
theorem Ln.wb {x : En} (h : x.Ln) (y : SlR) : (x.wb y).Ln := ⟨h.s20, h.t20, h.a4⟩
theorem cells_wb {x : En} (h : x.Ln) (y : SlR) : x.cells.toArray.setIfInBounds 48 y.v = (x.wb y).cells.toArray := by
  have e : ∀ z : SlR, (x.wb z).cells = ([.int .i64 x.kind] ++ (x.snd.map V8 ++ ([.int .i64 x.time, .int .i64 x.tok] ++ (x.to.map V8 ++ (x.amt.map V64 ++ [.int .i64 x.gas]))))) ++ [z.v] := by
    intro z; simp [En.cells, En.wb]
  have e0 : x.cells = ([.int .i64 x.kind] ++ (x.snd.map V8 ++ ([.int .i64 x.time, .int .i64 x.tok] ++ (x.to.map V8 ++ (x.amt.map V64 ++ [.int .i64 x.gas]))))) ++ [x.body.v] := e x.body
  have hl : ([.int .i64 x.kind] ++ (x.snd.map V8 ++ ([.int .i64 x.time, .int .i64 x.tok] ++ (x.to.map V8 ++ (x.amt.map V64 ++ [.int .i64 x.gas])))) : List Value).length = 48 := by simp [h.s20, h.t20, h.a4]
  rw [e, e0, List.setIfInBounds_toArray, List.set_append_right _ _ (by omega), hl]
  rfl
theorem fine_wb (x : En) (y : SlR) (h : y.d = x.body.d) : (x.wb y).fine = x.fine := by
  unfold En.fine En.timeOk En.tokOk En.gasOk En.wb
  simp only [h]
theorem bytes_wb (x : En) (y : SlR) (h : y.d = x.body.d) : (x.wb y).bytes = x.bytes := by
  unfold En.bytes En.wb
  simp only [h]
end En
/-- An entry of one's own is handed back. -/
def OwnPost (x : En) (w : World) (e : Ending) (w' : World) : Prop :=
  ∃ y : SlR, y.d = x.body.d ∧ e = .returned (.agg (x.wb y).cells.toArray) ∧ Own w' w.heap.size y.v x.body.d ∧ Mod [] w w'
set_option maxRecDepth 100000 in
theorem own_any (x : En) (w : World) (hl : x.Ln) (hr : Rd V8 w x.body.p x.body.cap x.body.d) (hb : x.body.d.length ≤ 1099511627776) :
    Calls Tryd.prog 40 #[.agg x.cells.toArray] w (OwnPost x w) := by
  have c48 : ∀ Z : Obj, ((w.alloc (.cells x.cells.toArray 35)).alloc Z).cell? ⟨w.heap.size, 48, none⟩ = some (.slice x.body.p x.body.d.length x.body.cap) := fun Z => (enBox hl (hp_old (o := Z) (hp_new w (.cells x.cells.toArray 35) _ rfl))).c48
  have HCL := Lib.hid (fun (V : World) (m : Mod [] w V) => cloneB_any x.body.p x.body.cap _ x.body.d V (hr.mod0 m) rfl hb)
  have HL := Lib.hid hl
  obtain ⟨cs, hcs⟩ : ∃ cs, cs = x.cells.toArray := ⟨_, rfl⟩
  rw [← hcs] at c48 ⊢
  have HCS := Lib.hid hcs
  obtain ⟨n, hn⟩ : ∃ n, n = x.body.d.length := ⟨_, rfl⟩
  rw [← hn] at c48 HCL
  have HN := Lib.hid hn
  clear hl hr hb hcs hn
  go_enter Tryd.func40, Tryd.ntmps40
  go_wp2_with fail
  refine (HCL.out _ (((Mod.refl [] w).alloc _).alloc _)).mono ?_
  rintro e w1 ⟨v, rfl, ho, m1⟩
  obtain ⟨q, c, hv, _, _⟩ := ho.rd
  subst hv
  have hb0 := m1.get0 (hp_old (hp_new w (.cells cs 35) _ rfl))
  have hb1 : ∃ C1 : Array Value, C1.size = 49 ∧ w1.heap[w.heap.size + 1]? = some (.cells C1 35 (0, 0)) := ⟨_, by rfl, m1.get0 (hp_new (w.alloc (.cells cs 35)) _ (w.heap.size + 1) (by simp))⟩
  obtain ⟨C1, hC1, hb1⟩ := hb1
  have c48' := cell_blk hb0 48
  have f48 := frozen_blk hb0 48
  have hc48 : cs[48]? = some (.slice x.body.p x.body.d.length x.body.cap) := by
    have h := c48 (.cells #[] 0)
    rw [cell_blk (hp_old (hp_new w (.cells cs 35) _ rfl)), HN.out] at h
    exact h
  rw [hc48] at c48'
  have hy := En.cells_wb HL.out ⟨q, c, x.body.d⟩
  have e0 := hp_sc (j := 48) (v := .slice q x.body.d.length c) hb0
  rw [HCS.out, show (Value.slice q x.body.d.length c) = SlR.v ⟨q, c, x.body.d⟩ from rfl, hy] at e0
  have HO := Lib.hid (ho.mono (B' := w.heap.size) (by simp; omega))
  have HM := Lib.hid ((((Mod.refl [] w).alloc _).alloc _).trans0 m1)
  have hL := (enBox (HL.out.wb ⟨q, c, x.body.d⟩) e0).ln
  have hb1' := hp_sc_ne (j := 48) (v := SlR.v ⟨q, c, x.body.d⟩) (g := w.heap.size) hb1 (by omega)
  have hS := storeEn (x.wb ⟨q, c, x.body.d⟩) (HL.out.wb _) hb1' hC1
  have HR := Lib.hid (hp_setRow (cs := (x.wb ⟨q, c, x.body.d⟩).cells.toArray) hb1')
  obtain ⟨ys, hys⟩ : ∃ ys, ys = (x.wb ⟨q, c, x.body.d⟩).cells.toArray := ⟨_, rfl⟩
  rw [← hys] at hL hS
  have HYS := Lib.hid hys
  have HMZ := Lib.hid ((HM.out.setCell (p := ⟨w.heap.size, 48, none⟩) (.inr (Nat.le_refl _)) (SlR.v ⟨q, c, x.body.d⟩)).setRow (g := w.heap.size + 1) (.inr (by omega)) (x.wb ⟨q, c, x.body.d⟩).cells.toArray)
  have HOZ := Lib.hid (show Own ((w1.setCell ⟨w.heap.size, 48, none⟩ (SlR.v ⟨q, c, x.body.d⟩)).setRow (w.heap.size + 1) (x.wb ⟨q, c, x.body.d⟩).cells.toArray) w.heap.size (.slice q x.body.d.length c) x.body.d from by
    have mm : Mod [w.heap.size, w.heap.size + 1] w1 ((w1.setCell ⟨w.heap.size, 48, none⟩ (SlR.v ⟨q, c, x.body.d⟩)).setRow (w.heap.size + 1) (x.wb ⟨q, c, x.body.d⟩).cells.toArray) := ((Mod.refl _ w1).setCell (.inl (by simp)) _).setRow (.inl (by simp)) _
    refine HO.out.mod mm (fun z hz hzb => ?_)
    have h1 := ho.row z hzb
    simp at h1 hz
    omega)
  unfold SlR.v at hL hS
  simp only at hL hS
  clear c48 m1 ho hb0 hb1 hb1' hc48 hy e0 hys hC1
  go_wp2_with fail
  rw [HYS.out]
  exact bodyPost_ret (results_en rfl _ _ _ (x.wb ⟨q, c, x.body.d⟩) (HL.out.wb _) _ rfl HR.out) rfl ⟨⟨q, c, x.body.d⟩, rfl, rfl, HOZ.out, HMZ.out⟩
/-- A box in memory: its block, its lists. -/
abbrev Ev := {x : En // x.Ln}
def evc (x : Ev) : List Value := x.1.cells
theorem evc_len (x : Ev) : (evc x).length = 49 := En.cells_len x.2
abbrev OwnEn (w : World) (B : Nat) (v : Value) (l : List Ev) : Prop := OwnN 35 49 evc w B v l
structure IsBox (w : World) (B g : Nat) (ve vl : Value) (es : List Ev) (ks : List Bs) : Prop where
  blk : w.heap[g]? = some (.cells #[ve, vl] 93)
  base : B ≤ g
  own : OwnEn w B ve es
  links : OwnD w B vl ks
  len : ks.length = es.length
  k32 : ∀ k ∈ ks, k.length = 32
  small : es.length ≤ 1048576
  body : ∀ x ∈ es, Own w B x.1.body.v x.1.body.d ∧ x.1.body.d.length ≤ 1099511627776
theorem ownEn_ne {w : World} {B g : Nat} {v : Value} {l : List Ev} {C : Array Value} {t : TypeId} (h : OwnEn w B v l) (hg : w.heap[g]? = some (.cells C t (0, 0))) (ht : t ≠ 35) : v.ownBlock ≠ some g := by
  intro hx
  obtain ⟨C', hC⟩ := h.type g hx
  rw [hg] at hC
  injection hC with hC
  injection hC with _ h2 _
  exact ht h2
theorem ownD_ne {w : World} {B g : Nat} {v : Value} {l : List Bs} {C : Array Value} {t : TypeId} (h : OwnD w B v l) (hg : w.heap[g]? = some (.cells C t (0, 0))) (ht : t ≠ 24) : v.ownBlock ≠ some g := by
  intro hx
  obtain ⟨C', hC⟩ := h.type g hx
  rw [hg] at hC
  injection hC with hC
  injection hC with _ h2 _
  exact ht h2
theorem ownB_ne {w : World} {B g : Nat} {v : Value} {l : Bs} {C : Array Value} {t : TypeId} (h : Own w B v l) (hg : w.heap[g]? = some (.cells C t (0, 0))) (ht : t ≠ 5) : v.ownBlock ≠ some g := by
  intro hx
  obtain ⟨C', hC⟩ := h.type g hx
  rw [hg] at hC
  injection hC with hC
  injection hC with _ h2 _
  exact ht h2
namespace IsBox
variable {a w : World} {B g : Nat} {ve vl : Value} {es : List Ev} {ks : List Bs}
theorem mod0 (h : IsBox a B g ve vl es ks) (m : Mod [] a w) : IsBox w B g ve vl es ks :=
  ⟨m.get0 h.blk, h.base, h.own.mod0 m, h.links.mod0 m, h.len, h.k32, h.small, fun x hx => ⟨(h.body x hx).1.mod0 m, (h.body x hx).2⟩⟩
theorem c0 (h : IsBox w B g ve vl es ks) : w.cell? ⟨g, 0, none⟩ = some ve := by rw [cell_blk h.blk]; rfl
theorem c1 (h : IsBox w B g ve vl es ks) : w.cell? ⟨g, 1, none⟩ = some vl := by rw [cell_blk h.blk]; rfl
theorem lt (h : IsBox w B g ve vl es ks) : g < w.heap.size := lt_of_block h.blk
end IsBox
theorem newBox_any (B : Nat) (w : World) (hB : B ≤ w.heap.size) :
    Calls Tryd.prog 28 #[] w fun e w' => ∃ g, e = .returned (.pointer (some ⟨g, 0, none⟩)) ∧ w.heap.size ≤ g ∧ IsBox w' B g (.slice none 0 0) (.slice none 0 0) [] [] ∧ Mod [] w w' := by
  go_enter Tryd.func28, Tryd.ntmps28
  go_wp2_with fail
  go_ret
  exact ⟨_, rfl, Nat.le_refl _, ⟨hp_new _ _ _ rfl, hB, OwnN.nil _ _ _ _ _, OwnN.nil _ _ _ _ _, rfl, by simp, by simp, by simp⟩, (Mod.refl [] w).alloc _⟩
theorem boxLen_any (B g : Nat) (ve vl : Value) (es : List Ev) (ks : List Bs) (w : World) (h : IsBox w B g ve vl es ks) :
    Calls Tryd.prog 22 #[.pointer (some ⟨g, 0, none⟩)] w fun e w' => e = .returned (.int .i64 es.length) ∧ w' = w := by
  obtain ⟨p, c, rfl, _⟩ := h.own.rd
  have c0 := h.c0
  clear h
  go_enter Tryd.func22, Tryd.ntmps22
  go_wp2_with fail
  go_ret
  exact ⟨rfl, rfl⟩
/-- The link behind the first n, and whether there is one. -/
def lk (ks : List Bs) (n : Int) : Bs := if 1 ≤ n ∧ n ≤ ks.length then ks.getD (n.toNat - 1) [] else zeros 32
def lkE (l : Nat) (n : Int) : Int := if 0 ≤ n ∧ n ≤ l then 0 else 151
theorem lk_len {ks : List Bs} (h : ∀ k ∈ ks, k.length = 32) (n : Int) : (lk ks n).length = 32 := by
  unfold lk
  split
  · rename_i hn
    rw [List.getD_eq_getElem?_getD, List.getElem?_eq_getElem (by omega)]
    exact h _ (List.getElem_mem _)
  · exact zeros_length 32
set_option maxRecDepth 100000 in
theorem link_any (B g : Nat) (ve vl : Value) (es : List Ev) (ks : List Bs) (w : World) (h : IsBox w B g ve vl es ks) (n : Int) :
    Calls Tryd.prog 20 #[.pointer (some ⟨g, 0, none⟩), .int .i64 n] w fun e w' => e = .returned (.tuple #[dv (lk ks n), .int .i64 (lkE es.length n)]) ∧ Mod [] w w' := by
  obtain ⟨pe, ce, rfl, _⟩ := h.own.rd
  have c0 := ((Mod.refl [] w).alloc (.cells #[.int .u8 0, .int .u8 0, .int .u8 0, .int .u8 0, .int .u8 0, .int .u8 0, .int .u8 0, .int .u8 0, .int .u8 0, .int .u8 0, .int .u8 0, .int .u8 0, .int .u8 0, .int .u8 0, .int .u8 0, .int .u8 0, .int .u8 0, .int .u8 0, .int .u8 0, .int .u8 0, .int .u8 0, .int .u8 0, .int .u8 0, .int .u8 0, .int .u8 0, .int .u8 0, .int .u8 0, .int .u8 0, .int .u8 0, .int .u8 0, .int .u8 0, .int .u8 0] 24) |> h.mod0).c0
  have hsm := h.small
  have hlen := h.len
  have bz : ∀ w, (BuildZ 24 #[]).run Tryd.prog w = .ok (.agg ((zeros 32).map V8).toArray) w := fun w => run_buildZ w 24 #[] _ builtDg
  have hS := storeNewD w (zeros 32) (zeros_length 32)
  unfold dv at hS
  obtain ⟨Z, hZ⟩ : ∃ Z : Array Value, Z = ((zeros 32).map V8).toArray := ⟨_, rfl⟩
  rw [← hZ] at bz hS
  have HZ := Lib.hid hZ
  obtain ⟨l, hl⟩ : ∃ l, l = es.length := ⟨_, rfl⟩
  rw [← hl] at c0 hsm hlen ⊢
  have HH := Lib.hid h
  have hfin : ∀ (e : Int) (d : Bs), d = zeros 32 → lk ks n = zeros 32 → lkE l n = e → dv (lk ks n) = dv d ∧ lkE l n = e := fun e d h1 h2 h3 => ⟨by rw [h1, h2], h3⟩
  by_cases h0 : n < 0
  · have d0 : decide (n < 0) = true := by simpa using h0
    have HF := Lib.hid (show lk ks n = zeros 32 ∧ lkE l n = 151 by unfold lk lkE; rw [if_neg (by omega), if_neg (by omega)]; exact ⟨rfl, rfl⟩)
    clear hZ hl h hfin
    go_enter Tryd.func20, Tryd.ntmps20
    go_wp2_with fail
    rw [HF.out.1, HF.out.2]
    exact bodyPost_ret (results_dv2 rfl _ _ _ (zeros 32) (zeros_length 32) _ rfl (by rw [HZ.out]; exact hp_new w _ _ rfl)) rfl ⟨rfl, (Mod.refl [] w).alloc _⟩
  · by_cases h1 : n > l
    · have d0 : decide (n < 0) = false := by simpa using h0
      have d1 : decide ((l : Int) < n) = true := by simpa using h1
      have HF := Lib.hid (show lk ks n = zeros 32 ∧ lkE l n = 151 by unfold lk lkE; rw [if_neg (by omega), if_neg (by omega)]; exact ⟨rfl, rfl⟩)
      clear hZ hl h hfin
      go_enter Tryd.func20, Tryd.ntmps20
      go_wp2_with fail
      rw [HF.out.1, HF.out.2]
      exact bodyPost_ret (results_dv2 rfl _ _ _ (zeros 32) (zeros_length 32) _ rfl (by rw [HZ.out]; exact hp_new w _ _ rfl)) rfl ⟨rfl, (Mod.refl [] w).alloc _⟩
    · by_cases h2 : n = 0
      · subst h2
        have d1 : decide ((l : Int) < 0) = false := by simp
        have HF := Lib.hid (show lk ks 0 = zeros 32 ∧ lkE l 0 = 0 by unfold lk lkE; rw [if_neg (by omega), if_pos (by omega)]; exact ⟨rfl, rfl⟩)
        clear hZ hl h hfin
        go_enter Tryd.func20, Tryd.ntmps20
        go_wp2_with fail
        rw [HF.out.1, HF.out.2]
        exact bodyPost_ret (results_dv2 rfl _ _ _ (zeros 32) (zeros_length 32) _ rfl (by rw [HZ.out]; exact hp_new w _ _ rfl)) rfl ⟨rfl, (Mod.refl [] w).alloc _⟩
      · obtain ⟨m, hm⟩ : ∃ m : Nat, n = ((m + 1 : Nat) : Int) := ⟨n.toNat - 1, by omega⟩
        subst hm
        have hml : m < ks.length := by omega
        obtain ⟨x, hx⟩ : ∃ x, ks[m]? = some x := ⟨_, List.getElem?_eq_getElem hml⟩
        have hx32 := h.k32 x (List.mem_of_getElem? hx)
        obtain ⟨pl, cl, rfl, hrl, _⟩ := h.links.rd
        obtain ⟨b, o, rfl, _⟩ := hrl.elem dgc_len m x hx
        have c1 := ((Mod.refl [] w).alloc (.cells #[.int .u8 0, .int .u8 0, .int .u8 0, .int .u8 0, .int .u8 0, .int .u8 0, .int .u8 0, .int .u8 0, .int .u8 0, .int .u8 0, .int .u8 0, .int .u8 0, .int .u8 0, .int .u8 0, .int .u8 0, .int .u8 0, .int .u8 0, .int .u8 0, .int .u8 0, .int .u8 0, .int .u8 0, .int .u8 0, .int .u8 0, .int .u8 0, .int .u8 0, .int .u8 0, .int .u8 0, .int .u8 0, .int .u8 0, .int .u8 0, .int .u8 0, .int .u8 0] 24) |> h.mod0).c1
        have hL := fun Zo => loadD_at (w := w.alloc Zo) (hrl.mod0 ((Mod.refl [] w).alloc Zo)) (i := m) x hx hx32
        have hSx := storeNewD w x hx32
        have d1 : decide ((l : Int) < (m : Int) + 1) = false := by simp; omega
        have d2 : ((m : Int) + 1 == 0) = false := by simp; omega
        have HF := Lib.hid (show lk ks ((m + 1 : Nat) : Int) = x ∧ lkE l ((m + 1 : Nat) : Int) = 0 by
          unfold lk lkE
          rw [if_pos (by omega), if_pos (by omega)]
          refine ⟨?_, rfl⟩
          rw [List.getD_eq_getElem?_getD, show ((m + 1 : Nat) : Int).toNat - 1 = m by omega, hx]; rfl)
        have f2 : (0 : Int) ≤ (m : Int) := by omega
        have f3 : (m : Int) < (ks.length : Int) := by omega
        have hm20 : m ≤ 1048576 := by omega
        have HX := Lib.hid hx32
        obtain ⟨kl, hkl⟩ : ∃ kl, kl = ks.length := ⟨_, rfl⟩
        rw [← hkl] at c1 f3
        clear hZ hl h hfin hx hx32 hrl hS bz hlen hml hkl h0 h1 h2
        go_enter Tryd.func20, Tryd.ntmps20
        go_wp2_with fail
        rw [HF.out.1, HF.out.2]
        exact bodyPost_ret (results_dv2 rfl _ _ _ x HX.out _ rfl (hp_new w _ _ rfl)) rfl ⟨rfl, (Mod.refl [] w).alloc _⟩
end Go.Proofs.YtmdgefiojapogaaDoor
namespace Go.Proofs.YtmdgefiojapogaaDoor
open Go.RowKit
attribute [local go_sem high] one8 st8 cm8 b_and8 b_and8r b_and8l b_or8 b_or8r b_or8l b_xor8 b_xor8r b_xor8l b_andNot8 b_andNot8r b_andNot8l b_add8 b_add8r b_add8l b_sub8 b_sub8r b_sub8l b_mul8 b_mul8r b_mul8l b_eql8 b_eql8r b_eql8l b_neq8 b_neq8r b_neq8l b_lss8 b_lss8r b_lss8l b_leq8 b_leq8r b_leq8l b_gtr8 b_gtr8r b_gtr8l b_geq8 b_geq8r b_geq8l b_quo8r b_rem8r b_shl8r b_shr8r b_shl8l b_shr8l u_xor8 g_eql8 g_neq8 g_eql8' g_neq8' one32 st32 cm32 b_and32 b_and32r b_and32l b_or32 b_or32r b_or32l b_xor32 b_xor32r b_xor32l b_andNot32 b_andNot32r b_andNot32l b_add32 b_add32r b_add32l b_sub32 b_sub32r b_sub32l b_mul32 b_mul32r b_mul32l b_eql32 b_eql32r b_eql32l b_neq32 b_neq32r b_neq32l b_lss32 b_lss32r b_lss32l b_leq32 b_leq32r b_leq32l b_gtr32 b_gtr32r b_gtr32l b_geq32 b_geq32r b_geq32l b_quo32r b_rem32r b_shl32r b_shr32r b_shl32l b_shr32l u_xor32 g_eql32 g_neq32 g_eql32' g_neq32' one64 st64 cm64 b_and64 b_and64r b_and64l b_or64 b_or64r b_or64l b_xor64 b_xor64r b_xor64l b_andNot64 b_andNot64r b_andNot64l b_add64 b_add64r b_add64l b_sub64 b_sub64r b_sub64l b_mul64 b_mul64r b_mul64l b_eql64 b_eql64r b_eql64l b_neq64 b_neq64r b_neq64l b_lss64 b_lss64r b_lss64l b_leq64 b_leq64r b_leq64l b_gtr64 b_gtr64r b_gtr64l b_geq64 b_geq64r b_geq64l b_quo64r b_rem64r b_shl64r b_shr64r b_shl64l b_shr64l u_xor64 g_eql64 g_neq64 g_eql64' g_neq64' c_u8_u8 c_u8_u32 c_u8_u64 c_i_u8 c_u32_u8 c_u32_u32 c_u32_u64 c_i_u32 c_u64_u8 c_u64_u32 c_u64_u64 c_i_u64 c_u8_i c_u32_i
attribute [local go_sem ↓] ce8 ce32 ce64
theorem buildZEn (parts : Array (Nat × Value)) : Instr.build 35 parts = BuildZ 35 parts := rfl
attribute [local go_sem ↓] sliced_slp loadO26 storeO26 loadOEn storeOEn buildZDg buildZEn
def zeroEn : En := ⟨0, zeros 20, 0, 0, zeros 20, [0, 0, 0, 0], 0, ⟨none, 0, []⟩⟩
theorem zeroEn_ln : zeroEn.Ln := ⟨zeros_length 20, zeros_length 20, rfl⟩
theorem builtEn : Tryd.prog.built 35 [] = some (zeroEn.cells.toArray) := by kernel_rfl
theorem storeNewEn (w : World) (x : En) (hl : x.Ln) : (StoreO 35 (.pointer (some ⟨w.heap.size, 0, none⟩)) (.agg x.cells.toArray)).run Tryd.prog (w.alloc (.cells #[.int .i64 0, .int .u8 0, .int .u8 0, .int .u8 0, .int .u8 0, .int .u8 0, .int .u8 0, .int .u8 0, .int .u8 0, .int .u8 0, .int .u8 0, .int .u8 0, .int .u8 0, .int .u8 0, .int .u8 0, .int .u8 0, .int .u8 0, .int .u8 0, .int .u8 0, .int .u8 0, .int .u8 0, .int .i64 0, .int .i64 0, .int .u8 0, .int .u8 0, .int .u8 0, .int .u8 0, .int .u8 0, .int .u8 0, .int .u8 0, .int .u8 0, .int .u8 0, .int .u8 0, .int .u8 0, .int .u8 0, .int .u8 0, .int .u8 0, .int .u8 0, .int .u8 0, .int .u8 0, .int .u8 0, .int .u8 0, .int .u8 0, .int .u64 0, .int .u64 0, .int .u64 0, .int .u64 0, .int .i64 0, .slice none 0 0] 35)) = .ok () (w.alloc (.cells x.cells.toArray 35)) := by
  have h := storeEn (w := w.alloc (.cells #[.int .i64 0, .int .u8 0, .int .u8 0, .int .u8 0, .int .u8 0, .int .u8 0, .int .u8 0, .int .u8 0, .int .u8 0, .int .u8 0, .int .u8 0, .int .u8 0, .int .u8 0, .int .u8 0, .int .u8 0, .int .u8 0, .int .u8 0, .int .u8 0, .int .u8 0, .int .u8 0, .int .u8 0, .int .i64 0, .int .i64 0, .int .u8 0, .int .u8 0, .int .u8 0, .int .u8 0, .int .u8 0, .int .u8 0, .int .u8 0, .int .u8 0, .int .u8 0, .int .u8 0, .int .u8 0, .int .u8 0, .int .u8 0, .int .u8 0, .int .u8 0, .int .u8 0, .int .u8 0, .int .u8 0, .int .u8 0, .int .u8 0, .int .u64 0, .int .u64 0, .int .u64 0, .int .u64 0, .int .i64 0, .slice none 0 0] 35)) x hl (hp_new w _ _ rfl) rfl
  rw [setRow_alloc_at _ _ _ _ _ rfl] at h
  exact h
theorem own_rd {w : World} {B : Nat} {y : SlR} (h : Own w B y.v y.d) : Rd V8 w y.p y.cap y.d := by
  obtain ⟨p, c, hv, hrd, _⟩ := h.rd
  unfold SlR.v at hv
  injection hv with h1 _ h2
  rw [h1, h2]
  exact hrd
/-- What Entry hands back. -/
def EntryPost (es : List Ev) (n : Int) (w : World) (e : Ending) (w' : World) : Prop :=
  ∃ x' : En, x'.Ln ∧ e = .returned (.tuple #[.agg x'.cells.toArray, .int .i64 (if 0 ≤ n ∧ n < es.length then 0 else 151)]) ∧
    (if 0 ≤ n ∧ n < es.length then ∃ x y, es[n.toNat]? = some x ∧ y.d = x.1.body.d ∧ x' = x.1.wb y ∧ Own w' w.heap.size y.v x.1.body.d else x' = zeroEn) ∧ Mod [] w w'
set_option maxRecDepth 100000 in
theorem entry_any (B g : Nat) (ve vl : Value) (es : List Ev) (ks : List Bs) (w : World) (h : IsBox w B g ve vl es ks) (n : Int) :
    Calls Tryd.prog 24 #[.pointer (some ⟨g, 0, none⟩), .int .i64 n] w (EntryPost es n w) := by
  obtain ⟨pe, ce, rfl, hre, _⟩ := h.own.rd
  have c0 := (h.mod0 ((Mod.refl [] w).alloc (.cells #[.int .i64 0, .int .u8 0, .int .u8 0, .int .u8 0, .int .u8 0, .int .u8 0, .int .u8 0, .int .u8 0, .int .u8 0, .int .u8 0, .int .u8 0, .int .u8 0, .int .u8 0, .int .u8 0, .int .u8 0, .int .u8 0, .int .u8 0, .int .u8 0, .int .u8 0, .int .u8 0, .int .u8 0, .int .i64 0, .int .i64 0, .int .u8 0, .int .u8 0, .int .u8 0, .int .u8 0, .int .u8 0, .int .u8 0, .int .u8 0, .int .u8 0, .int .u8 0, .int .u8 0, .int .u8 0, .int .u8 0, .int .u8 0, .int .u8 0, .int .u8 0, .int .u8 0, .int .u8 0, .int .u8 0, .int .u8 0, .int .u8 0, .int .u64 0, .int .u64 0, .int .u64 0, .int .u64 0, .int .i64 0, .slice none 0 0] 35))).c0
  have hsm := h.small
  by_cases h0 : 0 ≤ n ∧ n < es.length
  · obtain ⟨m, hm⟩ : ∃ m : Nat, n = (m : Int) := ⟨n.toNat, by omega⟩
    subst hm
    have hml : m < es.length := by omega
    obtain ⟨x, hx⟩ : ∃ x, es[m]? = some x := ⟨_, List.getElem?_eq_getElem hml⟩
    have hbd := h.body x (List.mem_of_getElem? hx)
    obtain ⟨b, o, rfl, hrg⟩ := hre.elem evc_len m x hx
    have hL := (enAt x.2 (range_mod ((Mod.refl [] w).alloc (.cells #[.int .i64 0, .int .u8 0, .int .u8 0, .int .u8 0, .int .u8 0, .int .u8 0, .int .u8 0, .int .u8 0, .int .u8 0, .int .u8 0, .int .u8 0, .int .u8 0, .int .u8 0, .int .u8 0, .int .u8 0, .int .u8 0, .int .u8 0, .int .u8 0, .int .u8 0, .int .u8 0, .int .u8 0, .int .i64 0, .int .i64 0, .int .u8 0, .int .u8 0, .int .u8 0, .int .u8 0, .int .u8 0, .int .u8 0, .int .u8 0, .int .u8 0, .int .u8 0, .int .u8 0, .int .u8 0, .int .u8 0, .int .u8 0, .int .u8 0, .int .u8 0, .int .u8 0, .int .u8 0, .int .u8 0, .int .u8 0, .int .u8 0, .int .u64 0, .int .u64 0, .int .u64 0, .int .u64 0, .int .i64 0, .slice none 0 0] 35)) hrg (by simp))).ln
    have HOW := Lib.hid (fun (V : World) (m : Mod [] w V) => own_any x.1 V x.2 ((own_rd hbd.1).mod0 m) hbd.2)
    have HX := Lib.hid hx
    have f0 : decide ((m : Int) < 0) = false := by simp
    have f1 : decide ((es.length : Int) ≤ (m : Int)) = false := by simp; omega
    have f2 : (0 : Int) ≤ (m : Int) := by omega
    have f3 : (m : Int) < (es.length : Int) := by omega
    have HML := Lib.hid h0
    obtain ⟨l, hl⟩ : ∃ l, l = es.length := ⟨_, rfl⟩
    rw [← hl] at c0 f1 f3 hsm
    obtain ⟨xs, hxs⟩ : ∃ xs, xs = x.1.cells.toArray := ⟨_, rfl⟩
    rw [← hxs] at hL HOW
    have hle : m ≤ 1048576 := by omega
    clear hl hxs hx hbd hre hrg h h0 hml
    go_enter Tryd.func24, Tryd.ntmps24
    go_wp2_with fail
    refine (HOW.out _ ((Mod.refl [] w).alloc _)).mono ?_
    rintro e w1 ⟨y, hyd, rfl, ho, m1⟩
    have hb1 : ∃ C1 : Array Value, C1.size = 49 ∧ w1.heap[w.heap.size]? = some (.cells C1 35 (0, 0)) := ⟨_, by rfl, m1.get0 (hp_new w _ _ rfl)⟩
    obtain ⟨C1, hC1, hb1⟩ := hb1
    have hS := storeEn (x.1.wb y) (x.2.wb y) hb1 hC1
    have HR := Lib.hid (hp_setRow (cs := (x.1.wb y).cells.toArray) hb1)
    have HO := Lib.hid ((ho.mono (B' := w.heap.size) (by rw [alloc_hs]; exact Nat.le_succ _)).mod ((Mod.refl [w.heap.size] w1).setRow (g := w.heap.size) (.inl (by simp)) (x.1.wb y).cells.toArray) (fun z hz hzb => by
      have h1 := ho.row z hzb
      rw [List.mem_singleton] at hz
      rw [alloc_hs] at h1
      omega))
    have HM := Lib.hid ((((Mod.refl [] w).alloc _).trans0 m1).setRow (g := w.heap.size) (.inr (Nat.le_refl _)) (x.1.wb y).cells.toArray)
    have HY := Lib.hid hyd
    clear m1 ho hb1 hC1 hL hyd
    obtain ⟨ys, hys⟩ : ∃ ys, ys = (x.1.wb y).cells.toArray := ⟨_, rfl⟩
    rw [← hys] at hS HR HO HM ⊢
    have HYS := Lib.hid hys
    clear hys
    go_wp2_with fail
    refine bodyPost_ret (results_en2 rfl _ _ _ (x.1.wb y) (x.2.wb y) _ rfl (by rw [← HYS.out]; exact HR.out)) rfl ⟨x.1.wb y, x.2.wb y, ?_, ?_, HM.out⟩
    · rw [if_pos HML.out]; rfl
    · rw [if_pos HML.out]; exact ⟨x, y, HX.out, HY.out, rfl, HO.out⟩
  · have bz : ∀ w, (BuildZ 35 #[]).run Tryd.prog w = .ok (.agg zeroEn.cells.toArray) w := fun w => run_buildZ w 35 #[] _ builtEn
    have hS := storeNewEn w zeroEn zeroEn_ln
    obtain ⟨Z, hZ⟩ : ∃ Z : Array Value, Z = zeroEn.cells.toArray := ⟨_, rfl⟩
    rw [← hZ] at bz hS
    have HZ := Lib.hid hZ
    have HN := Lib.hid h0
    obtain ⟨l, hl⟩ : ∃ l, l = es.length := ⟨_, rfl⟩
    rw [← hl] at c0 hsm h0
    by_cases h1 : n < 0
    · have d0 : decide (n < 0) = true := by simpa using h1
      clear hZ hl h hre h0 h1
      go_enter Tryd.func24, Tryd.ntmps24
      go_wp2_with fail
      exact bodyPost_ret (results_en2 rfl _ _ _ zeroEn zeroEn_ln _ rfl (by rw [HZ.out]; exact hp_new w _ _ rfl)) rfl ⟨zeroEn, zeroEn_ln, by rw [if_neg HN.out]; rfl, by rw [if_neg HN.out], (Mod.refl [] w).alloc _⟩
    · have d0 : decide (n < 0) = false := by simpa using h1
      have d1 : decide ((l : Int) ≤ n) = true := by simp; omega
      clear hZ hl h hre h0 h1
      go_enter Tryd.func24, Tryd.ntmps24
      go_wp2_with fail
      exact bodyPost_ret (results_en2 rfl _ _ _ zeroEn zeroEn_ln _ rfl (by rw [HZ.out]; exact hp_new w _ _ rfl)) rfl ⟨zeroEn, zeroEn_ln, by rw [if_neg HN.out]; rfl, by rw [if_neg HN.out], (Mod.refl [] w).alloc _⟩
end Go.Proofs.YtmdgefiojapogaaDoor
