/- Entries that are put together of parts, written field by field; what entries are made of. No condition. -/
import Derived.Test.YtmdgefiojapogaaDoorInAdd
import Derived.Test.YtmdgefiojapogaaDoorInChk
namespace Go.Proofs.YtmdgefiojapogaaDoor
open Go.RowKit
attribute [local go_sem high] one8 st8 cm8 b_and8 b_and8r b_and8l b_or8 b_or8r b_or8l b_xor8 b_xor8r b_xor8l b_andNot8 b_andNot8r b_andNot8l b_add8 b_add8r b_add8l b_sub8 b_sub8r b_sub8l b_mul8 b_mul8r b_mul8l b_eql8 b_eql8r b_eql8l b_neq8 b_neq8r b_neq8l b_lss8 b_lss8r b_lss8l b_leq8 b_leq8r b_leq8l b_gtr8 b_gtr8r b_gtr8l b_geq8 b_geq8r b_geq8l b_quo8r b_rem8r b_shl8r b_shr8r b_shl8l b_shr8l u_xor8 g_eql8 g_neq8 g_eql8' g_neq8' one32 st32 cm32 b_and32 b_and32r b_and32l b_or32 b_or32r b_or32l b_xor32 b_xor32r b_xor32l b_andNot32 b_andNot32r b_andNot32l b_add32 b_add32r b_add32l b_sub32 b_sub32r b_sub32l b_mul32 b_mul32r b_mul32l b_eql32 b_eql32r b_eql32l b_neq32 b_neq32r b_neq32l b_lss32 b_lss32r b_lss32l b_leq32 b_leq32r b_leq32l b_gtr32 b_gtr32r b_gtr32l b_geq32 b_geq32r b_geq32l b_quo32r b_rem32r b_shl32r b_shr32r b_shl32l b_shr32l u_xor32 g_eql32 g_neq32 g_eql32' g_neq32' one64 st64 cm64 b_and64 b_and64r b_and64l b_or64 b_or64r b_or64l b_xor64 b_xor64r b_xor64l b_andNot64 b_andNot64r b_andNot64l b_add64 b_add64r b_add64l b_sub64 b_sub64r b_sub64l b_mul64 b_mul64r b_mul64l b_eql64 b_eql64r b_eql64l b_neq64 b_neq64r b_neq64l b_lss64 b_lss64r b_lss64l b_leq64 b_leq64r b_leq64l b_gtr64 b_gtr64r b_gtr64l b_geq64 b_geq64r b_geq64l b_quo64r b_rem64r b_shl64r b_shr64r b_shl64l b_shr64l u_xor64 g_eql64 g_neq64 g_eql64' g_neq64' c_u8_u8 c_u8_u32 c_u8_u64 c_i_u8 c_u32_u8 c_u32_u32 c_u32_u64 c_i_u32 c_u64_u8 c_u64_u32 c_u64_u64 c_i_u64 c_u8_i c_u32_i
attribute [local go_sem ↓] ce8 ce32 ce64
def enPlaces : Array (Nat × Nat) := #[(0, 1), (1, 20), (21, 1), (22, 1), (23, 20), (43, 4), (47, 1), (48, 1)]
theorem builtE (parts : List (Nat × Value)) : Tryd.prog.built 35 parts = Instr.fill (fun i => enPlaces[i]?) zeroEn.cells.toArray parts := by kernel_rfl
def callEn (snd : Bs) (t : Int) : En := ⟨2, snd, t, 0, zeros 20, [0, 0, 0, 0], 0, ⟨none, 0, []⟩⟩
theorem callEn_ln {snd : Bs} (h : snd.length = 20) (t : Int) : (callEn snd t).Ln := ⟨h, zeros_length 20, rfl⟩
theorem built_call (snd : Bs) (h : snd.length = 20) (t : Int) : Tryd.prog.built 35 [(0, .int .i64 2), (1, .agg (snd.map V8).toArray), (2, .int .i64 t)] = some (callEn snd t).cells.toArray := by
  rw [builtE]
  have hz : (zeros 20).length = 20 := zeros_length 20
  have e0 : zeroEn.cells = [.int .i64 0] ++ ((zeros 20).map V8 ++ ([.int .i64 0, .int .i64 0] ++ ((zeros 20).map V8 ++ (([0, 0, 0, 0] : List UInt64).map V64 ++ [.int .i64 0, .slice none 0 0])))) := rfl
  generalize hT : ((zeros 20).map V8 ++ (([0, 0, 0, 0] : List UInt64).map V64 ++ [Value.int .i64 0, .slice none 0 0])) = T at e0
  rw [e0]
  have h0 := fill_part (fun i => enPlaces[i]?) [] [Value.int .i64 0] ((zeros 20).map V8 ++ ([.int .i64 0, .int .i64 0] ++ T)) 0 (.int .i64 2) [(1, .agg (snd.map V8).toArray), (2, .int .i64 t)] [.int .i64 2] rfl rfl rfl
  have h1 := fill_part (fun i => enPlaces[i]?) [Value.int .i64 2] ((zeros 20).map V8) ([.int .i64 0, .int .i64 0] ++ T) 1 (.agg (snd.map V8).toArray) [(2, .int .i64 t)] (snd.map V8) rfl (by rw [List.length_map, hz]; rfl) (by rw [List.length_map, List.length_map, h, hz])
  have h2 := fill_part (fun i => enPlaces[i]?) (Value.int .i64 2 :: snd.map V8) [Value.int .i64 0] ([.int .i64 0] ++ T) 2 (.int .i64 t) [] [.int .i64 t] rfl (by rw [List.length_cons, List.length_map, h]; rfl) rfl
  simp only [List.cons_append, List.nil_append, List.append_assoc] at h0 h1 h2 ⊢
  refine h0.trans (h1.trans (h2.trans ?_))
  simp only [Instr.fill]
  congr 2
  unfold En.cells callEn
  rw [← hT]
  simp [SlR.v]
namespace En
/-- One's cells, parted at a field. -/
theorem cells_k (x : En) (k : Int) : x.cells.toArray.setIfInBounds 0 (.int .i64 k) = ({ x with kind := k } : En).cells.toArray := by
  rw [List.setIfInBounds_toArray]; rfl
theorem set_mid (A B : List Value) (u v : Value) (n : Nat) (h : A.length = n) : (A ++ (u :: B)).set n v = A ++ (v :: B) := by
  rw [List.set_append_right _ _ (by omega), h, Nat.sub_self, List.set_cons_zero]
theorem cells_t {x : En} (h : x.Ln) (z : Int) : x.cells.toArray.setIfInBounds 22 (.int .i64 z) = ({ x with tok := z } : En).cells.toArray := by
  have e : ∀ z : Int, ({ x with tok := z } : En).cells = ([.int .i64 x.kind] ++ (x.snd.map V8 ++ [.int .i64 x.time])) ++ (.int .i64 z :: (x.to.map V8 ++ (x.amt.map V64 ++ [.int .i64 x.gas, x.body.v]))) := by intro z; simp [En.cells]
  rw [List.setIfInBounds_toArray, show x.cells = _ from e x.tok, set_mid _ _ _ _ 22 (by simp [h.s20]), ← e z]
theorem cells_g {x : En} (h : x.Ln) (z : Int) : x.cells.toArray.setIfInBounds 47 (.int .i64 z) = ({ x with gas := z } : En).cells.toArray := by
  have e : ∀ z : Int, ({ x with gas := z } : En).cells = ([.int .i64 x.kind] ++ (x.snd.map V8 ++ ([.int .i64 x.time, .int .i64 x.tok] ++ (x.to.map V8 ++ x.amt.map V64)))) ++ (.int .i64 z :: [x.body.v]) := by intro z; simp [En.cells]
  rw [List.setIfInBounds_toArray, show x.cells = _ from e x.gas, set_mid _ _ _ _ 47 (by simp [h.s20, h.t20, h.a4]), ← e z]
theorem cells_m {x : En} (h : x.Ln) (z : UInt64) : x.cells.toArray.setIfInBounds 44 (V64 z) = ({ x with amt := x.amt.set 1 z } : En).cells.toArray := by
  have e : ∀ a : List UInt64, ({ x with amt := a } : En).cells = ([.int .i64 x.kind] ++ (x.snd.map V8 ++ ([.int .i64 x.time, .int .i64 x.tok] ++ x.to.map V8))) ++ (a.map V64 ++ [.int .i64 x.gas, x.body.v]) := by intro z; simp [En.cells]
  have hl : ([Value.int .i64 x.kind] ++ (x.snd.map V8 ++ ([Value.int .i64 x.time, Value.int .i64 x.tok] ++ x.to.map V8))).length = 43 := by simp [h.s20, h.t20]
  rw [List.setIfInBounds_toArray, show x.cells = _ from e x.amt, List.set_append_right _ _ (by omega), hl, List.set_append_left _ _ (by simp [h.a4]), e (x.amt.set 1 z), List.map_set]
theorem to_cells {x : En} (h : x.Ln) (d : Bs) (hd : d.length = 20) : (x.cells.toArray.toList.take 23 ++ ((d.map V8).toArray.toList ++ x.cells.toArray.toList.drop (23 + (d.map V8).toArray.size))).toArray = ({ x with «to» := d } : En).cells.toArray := by
  have e : ∀ d : Bs, ({ x with «to» := d } : En).cells = ([.int .i64 x.kind] ++ (x.snd.map V8 ++ [.int .i64 x.time, .int .i64 x.tok])) ++ (d.map V8 ++ (x.amt.map V64 ++ [.int .i64 x.gas, x.body.v])) := by intro z; simp [En.cells]
  have hl : ([Value.int .i64 x.kind] ++ (x.snd.map V8 ++ [Value.int .i64 x.time, Value.int .i64 x.tok])).length = 23 := by simp [h.s20]
  have e2 : x.cells = _ := e x.to
  rw [e d, e2, List.take_left' hl, List.size_toArray, List.length_map, hd, ← List.drop_drop, List.drop_left' hl, List.drop_left' (by rw [List.length_map, h.t20])]
theorem amt_cells {x : En} (h : x.Ln) (a : List UInt64) (ha : a.length = 4) : (x.cells.toArray.toList.take 43 ++ ((a.map V64).toArray.toList ++ x.cells.toArray.toList.drop (43 + (a.map V64).toArray.size))).toArray = ({ x with amt := a } : En).cells.toArray := by
  have e : ∀ a : List UInt64, ({ x with amt := a } : En).cells = ([.int .i64 x.kind] ++ (x.snd.map V8 ++ ([.int .i64 x.time, .int .i64 x.tok] ++ x.to.map V8))) ++ (a.map V64 ++ [.int .i64 x.gas, x.body.v]) := by intro z; simp [En.cells]
  have hl : ([Value.int .i64 x.kind] ++ (x.snd.map V8 ++ ([Value.int .i64 x.time, Value.int .i64 x.tok] ++ x.to.map V8))).length = 43 := by simp [h.s20, h.t20]
  have e2 : x.cells = _ := e x.amt
  rw [e a, e2, List.take_left' hl, List.size_toArray, List.length_map, ha, ← List.drop_drop, List.drop_left' hl, List.drop_left' (by rw [List.length_map, h.a4])]
end En
/-- To, Amount of an entry are written. -/
theorem storeTo {w : World} {b : Nat} (x : En) (hl : x.Ln) (d : Bs) (hd : d.length = 20) (hg : w.heap[b]? = some (.cells x.cells.toArray 35 (0, 0))) :
    (StoreO 30 (.pointer (some ⟨b, 23, none⟩)) (.agg (d.map V8).toArray)).run Tryd.prog w = .ok () (w.setRow b ({ x with «to» := d } : En).cells.toArray) := by
  rw [← En.to_cells hl d hd]
  exact storeO_blk (P := Tryd.prog) (o := 23) hg (by simp [hd, En.cells_len hl]) (by simpa [hd] using infoAd) (by simp [one8])
theorem storeAmt {w : World} {b : Nat} (x : En) (hl : x.Ln) (a : List UInt64) (ha : a.length = 4) (hg : w.heap[b]? = some (.cells x.cells.toArray 35 (0, 0))) :
    (StoreO 33 (.pointer (some ⟨b, 43, none⟩)) (.agg (a.map V64).toArray)).run Tryd.prog w = .ok () (w.setRow b ({ x with amt := a } : En).cells.toArray) := by
  rw [← En.amt_cells hl a ha]
  exact storeO_blk (P := Tryd.prog) (o := 43) hg (by simp [ha, En.cells_len hl]) (by simpa [ha] using infoWd) (by simp [one64'])
/-- What an entry is made of. -/
structure Rw where
  dep : Bool
  snd : Bs
  later : Int
  tok : Int
  «to» : Bs
  amt : List UInt64
  gas : Int
  body : SlR
namespace Rw
def cells (x : Rw) : List Value := [.bool x.dep] ++ (x.snd.map V8 ++ ([.int .i64 x.later, .int .i64 x.tok] ++ (x.to.map V8 ++ (x.amt.map V64 ++ [.int .i64 x.gas, x.body.v]))))
structure Ln (x : Rw) : Prop where
  s20 : x.snd.length = 20
  t20 : x.to.length = 20
  a4 : x.amt.length = 4
theorem cells_len {x : Rw} (h : x.Ln) : x.cells.length = 49 := by simp [cells, h.s20, h.t20, h.a4]
end Rw
structure RwAt (w : World) (b o : Nat) (x : Rw) : Prop where
  c0 : w.cell? ⟨b, o, none⟩ = some (.bool x.dep)
  l1 : (LoadO 30 (.pointer (some ⟨b, o + 1, none⟩))).run Tryd.prog w = .ok (.agg (x.snd.map V8).toArray) w
  c21 : w.cell? ⟨b, o + 21, none⟩ = some (.int .i64 x.later)
  c22 : w.cell? ⟨b, o + 22, none⟩ = some (.int .i64 x.tok)
  l23 : (LoadO 30 (.pointer (some ⟨b, o + 23, none⟩))).run Tryd.prog w = .ok (.agg (x.to.map V8).toArray) w
  l43 : (LoadO 33 (.pointer (some ⟨b, o + 43, none⟩))).run Tryd.prog w = .ok (.agg (x.amt.map V64).toArray) w
  c47 : w.cell? ⟨b, o + 47, none⟩ = some (.int .i64 x.gas)
  c48 : w.cell? ⟨b, o + 48, none⟩ = some x.body.v
theorem rwAt {w : World} {b o : Nat} {x : Rw} (hl : x.Ln) (h : w.rangeAt b o x.cells) : RwAt w b o x := by
  have l1 := hl.s20
  have l2 := hl.t20
  have l3 := hl.a4
  have hc : ∀ j v, x.cells[j]? = some v → w.cell? ⟨b, o + j, none⟩ = some v := h
  have e1 : x.cells[21]? = some (.int .i64 x.later) := by
    unfold Rw.cells
    rw [List.getElem?_append_right (by simp), List.getElem?_append_right (by simp [l1])]
    simp [l1]
  have e2 : x.cells[22]? = some (.int .i64 x.tok) := by
    unfold Rw.cells
    rw [List.getElem?_append_right (by simp), List.getElem?_append_right (by simp [l1])]
    simp [l1]
  have e3 : x.cells[47]? = some (.int .i64 x.gas) := by
    unfold Rw.cells
    simp [List.getElem?_append_right, l1, l2, l3]
  have e4 : x.cells[48]? = some x.body.v := by
    unfold Rw.cells
    simp [List.getElem?_append_right, l1, l2, l3]
  have p1 : x.cells = [.bool x.dep] ++ (x.snd.map V8 ++ ([.int .i64 x.later, .int .i64 x.tok] ++ (x.to.map V8 ++ (x.amt.map V64 ++ [.int .i64 x.gas, x.body.v])))) := rfl
  have p2 : x.cells = ([.bool x.dep] ++ (x.snd.map V8 ++ [.int .i64 x.later, .int .i64 x.tok])) ++ (x.to.map V8 ++ (x.amt.map V64 ++ [.int .i64 x.gas, x.body.v])) := by simp [Rw.cells]
  have p3 : x.cells = ([.bool x.dep] ++ (x.snd.map V8 ++ ([.int .i64 x.later, .int .i64 x.tok] ++ x.to.map V8))) ++ (x.amt.map V64 ++ [.int .i64 x.gas, x.body.v]) := by simp [Rw.cells]
  refine ⟨hc 0 _ rfl, ?_, hc 21 _ e1, hc 22 _ e2, ?_, ?_, hc 47 _ e3, hc 48 _ e4⟩
  · rw [p1] at h
    exact loadO_mid (range_part (k := 1) h rfl) Tryd.underlying30 rfl (by rw [List.length_map, l1]; exact infoAd)
  · rw [p2] at h
    exact loadO_mid (range_part (k := 23) h (by simp [l1])) Tryd.underlying30 rfl (by rw [List.length_map, l2]; exact infoAd)
  · rw [p3] at h
    exact loadO_mid (range_part (k := 43) h (by simp [l1, l2])) Tryd.underlying33 rfl (by rw [List.length_map, l3]; exact infoWd)
end Go.Proofs.YtmdgefiojapogaaDoor
namespace Go.Proofs.YtmdgefiojapogaaDoor
open Go.RowKit
attribute [local go_sem high] one8 st8 cm8 b_and8 b_and8r b_and8l b_or8 b_or8r b_or8l b_xor8 b_xor8r b_xor8l b_andNot8 b_andNot8r b_andNot8l b_add8 b_add8r b_add8l b_sub8 b_sub8r b_sub8l b_mul8 b_mul8r b_mul8l b_eql8 b_eql8r b_eql8l b_neq8 b_neq8r b_neq8l b_lss8 b_lss8r b_lss8l b_leq8 b_leq8r b_leq8l b_gtr8 b_gtr8r b_gtr8l b_geq8 b_geq8r b_geq8l b_quo8r b_rem8r b_shl8r b_shr8r b_shl8l b_shr8l u_xor8 g_eql8 g_neq8 g_eql8' g_neq8' one32 st32 cm32 b_and32 b_and32r b_and32l b_or32 b_or32r b_or32l b_xor32 b_xor32r b_xor32l b_andNot32 b_andNot32r b_andNot32l b_add32 b_add32r b_add32l b_sub32 b_sub32r b_sub32l b_mul32 b_mul32r b_mul32l b_eql32 b_eql32r b_eql32l b_neq32 b_neq32r b_neq32l b_lss32 b_lss32r b_lss32l b_leq32 b_leq32r b_leq32l b_gtr32 b_gtr32r b_gtr32l b_geq32 b_geq32r b_geq32l b_quo32r b_rem32r b_shl32r b_shr32r b_shl32l b_shr32l u_xor32 g_eql32 g_neq32 g_eql32' g_neq32' one64 st64 cm64 b_and64 b_and64r b_and64l b_or64 b_or64r b_or64l b_xor64 b_xor64r b_xor64l b_andNot64 b_andNot64r b_andNot64l b_add64 b_add64r b_add64l b_sub64 b_sub64r b_sub64l b_mul64 b_mul64r b_mul64l b_eql64 b_eql64r b_eql64l b_neq64 b_neq64r b_neq64l b_lss64 b_lss64r b_lss64l b_leq64 b_leq64r b_leq64l b_gtr64 b_gtr64r b_gtr64l b_geq64 b_geq64r b_geq64l b_quo64r b_rem64r b_shl64r b_shr64r b_shl64l b_shr64l u_xor64 g_eql64 g_neq64 g_eql64' g_neq64' c_u8_u8 c_u8_u32 c_u8_u64 c_i_u8 c_u32_u8 c_u32_u32 c_u32_u64 c_i_u32 c_u64_u8 c_u64_u32 c_u64_u64 c_i_u64 c_u8_i c_u32_i
attribute [local go_sem ↓] ce8 ce32 ce64
attribute [local go_sem ↓] sliced_slp loadOAd storeOAd loadOWd storeOWd loadOEn storeOEn buildZWd buildZEn buildSlEn
theorem pick_any (c n : Int) (w : World) (h0 : -9223372036854775808 ≤ c) (h1 : c ≤ 9223372036854775807) (hn : 0 < n) (hn1 : n ≤ 9223372036854775807) :
    Calls Tryd.prog 25 #[.int .i64 c, .int .i64 n] w fun e w' => ∃ r : Nat, (r : Int) < n ∧ e = .returned (.int .i64 r) ∧ w' = w := by
  obtain ⟨k, rfl⟩ := Int.eq_ofNat_of_zero_le (show 0 ≤ n by omega)
  by_cases hc : c < 0
  · have h2 : 0 ≤ -(c + 1) := by omega
    obtain ⟨m, hm⟩ := Int.eq_ofNat_of_zero_le h2
    have hm1 : (m : Int) ≤ 9223372036854775807 := by omega
    have hmk : m % k < k := Nat.mod_lt _ (by omega)
    go_enter Tryd.func25, Tryd.ntmps25
    go_wp2_with fail
    go_ret
    exact ⟨m % k, by omega, by simp, rfl⟩
  · obtain ⟨m, rfl⟩ := Int.eq_ofNat_of_zero_le (show 0 ≤ c by omega)
    have hmk : m % k < k := Nat.mod_lt _ (by omega)
    go_enter Tryd.func25, Tryd.ntmps25
    go_wp2_with fail
    go_ret
    exact ⟨m % k, by omega, by simp, rfl⟩
abbrev Rv := {r : Rw // r.Ln}
def rvc (r : Rv) : List Value := r.1.cells
theorem rvc_len (r : Rv) : (rvc r).length = 49 := Rw.cells_len r.2
structure Raws (W : World) (p : Option Addr) (c : Nat) (rs : List Rv) : Prop where
  rd : RdN 49 rvc W p c rs
  body : ∀ r ∈ rs, Rd V8 W r.1.body.p r.1.body.cap r.1.body.d
  ints : ∀ r ∈ rs, (-9223372036854775808 ≤ r.1.later ∧ r.1.later ≤ 9223372036854775807) ∧ (-9223372036854775808 ≤ r.1.tok ∧ r.1.tok ≤ 9223372036854775807) ∧ (-9223372036854775808 ≤ r.1.gas ∧ r.1.gas ≤ 9223372036854775807)
  small : rs.length ≤ 1048576
  bl : ∀ r ∈ rs, r.1.body.d.length ≤ 1048576
/-- A row of entries that may be, one's own. -/
structure RowOf (w : World) (B : Nat) (v : Value) (t : Int) (es : List Ev) : Prop where
  own : OwnEn w B v es
  body : ∀ x ∈ es, Own w B x.1.body.v x.1.body.d ∧ x.1.body.d.length ≤ 4096
  fine : ∀ x ∈ es, x.1.fine = true
  small : es.length ≤ 100
  last : ∀ x ∈ es, x.1.time ≤ t
  sorted : ∀ (i : Nat) (y z : Ev), es[i]? = some y → es[i + 1]? = some z → y.1.time ≤ z.1.time
/-- An entry under way: in a block of its own. -/
structure Made (w : World) (B b : Nat) (t : Int) (x : En) : Prop where
  ln : x.Ln
  blk : w.heap[b]? = some (.cells x.cells.toArray 35 (0, 0))
  body : Own w B x.body.v x.body.d ∧ x.body.d.length ≤ 4096
  fine : x.fine = true
  time : x.time = t
theorem fine_callEn {x : En} {snd : Bs} {t : Int} {y : SlR} (hx : x = (callEn snd t).wb y) (h0 : 0 ≤ t) (h1 : t ≤ 4611686018427387904) (hl : y.d.length ≤ 4096) : x.fine = true := by
  subst hx
  unfold En.fine En.wb callEn En.timeOk
  simp [h0, h1, hl]
/-- A row is handed back. -/
def RowPost (w : World) (e : Ending) (w' : World) : Prop := ∃ v t es, e = .returned v ∧ RowOf w' w.heap.size v t es ∧ Mod [] w w'
theorem flat_one8 (l : Bs) : l.flatMap (fun x => [V8 x]) = l.map V8 := by
  induction l with
  | nil => rfl
  | cons x l ih => rw [List.flatMap_cons, ih]; rfl
theorem appB3 {ops : Array Oper} {o : Oper} {a : Act} {Q : Exit → Act → World → Prop} {w : World} {K : Act → World → Prop} {EE : Prop} (hgd : o.guard = none) (so x : Operand)
    (ho : o.op = .call { callee := .builtin .append, args := #[so, x], argTypes := #[27, 27] })
    (B : Nat) (v : Value) (l : Bs) (hown : Own w B v l) (hs : a.eval so = v) (b : Nat) (d : UInt8) (hx : a.eval x = .slice (some ⟨b, 0, none⟩) 1 1)
    (hr : w.heap[b]? = some (.cells #[V8 d] 5)) (hlen : l.length ≤ 4294967296) (hbase : B ≤ w.heap.size)
    (h : ∀ v' w', Own w' B v' (l ++ [d]) → w.grownBy w' v.ownBlock → (v'.ownBlock = v.ownBlock ∨ v'.ownBlock = some w.heap.size) → K (a.put o.dst v') w') : if Region.wanted o (yielded ops a.tmps) = true then Oper.wp Tryd.prog o a w K Q else EE := by
  refine step_pushN (f := fun x : UInt8 => [V8 x]) (.int .u8 0) 1 Tryd.underlying27 infoByte rfl (by decide) (fun _ => rfl) (fun x u hu => by rw [List.mem_singleton.1 hu]; exact one8 x) hgd so x ho B v l (by unfold OwnN; rw [flat_one8]; exact hown) hs b 0 1 1 [d] hx rfl (range_blk hr 0 _ (fun j v hv => by simpa using hv)) (by unfold maxLen; simp; omega) (by simp; omega) hbase (fun v' w' h1 h2 h3 => h v' w' ?_ h2 h3)
  unfold OwnN at h1
  rw [flat_one8] at h1
  exact h1
theorem fine_dep' {x : En} (hk : x.kind = 1) (h0 : 0 ≤ x.time) (h1 : x.time ≤ 4611686018427387904) (h2 : 0 ≤ x.tok) (h3 : x.tok ≤ 63) (h4 : (x.amt == [0, 0, 0, 0]) = false) (h5 : 0 ≤ x.gas) (h6 : x.gas ≤ 1099511627776) (h7 : x.body.d.length = 0) : x.fine = true := by
  unfold En.fine En.timeOk En.tokOk En.gasOk
  rw [if_pos hk, h4, decide_eq_true (And.intro h0 h1), decide_eq_true (And.intro h2 h3), decide_eq_true (And.intro h5 h6), decide_eq_true h7]
  rfl
theorem cell44 {x : En} (h : x.Ln) {a : UInt64} (ha : x.amt[1]? = some a) : x.cells[44]? = some (V64 a) := by
  have e : x.cells = ([.int .i64 x.kind] ++ (x.snd.map V8 ++ ([.int .i64 x.time, .int .i64 x.tok] ++ x.to.map V8))) ++ (x.amt.map V64 ++ [.int .i64 x.gas, x.body.v]) := by simp [En.cells]
  have hl : ([Value.int .i64 x.kind] ++ (x.snd.map V8 ++ ([Value.int .i64 x.time, Value.int .i64 x.tok] ++ x.to.map V8))).length = 43 := by simp [h.s20, h.t20]
  rw [e, List.getElem?_append_right (by omega), hl, List.getElem?_append_left (by simp [h.a4]), List.getElem?_map, ha]
  rfl
set_option maxRecDepth 100000 in
set_option maxHeartbeats 2000000 in
theorem row_any (p : Option Addr) (c n : Nat) (rs : List Rv) (w : World) (hn : n = rs.length) (h : Raws w p c rs) :
    Calls Tryd.prog 18 #[.slice p n c] w (RowPost w) := by
  have HR := Lib.hid h
  have HN := Lib.hid hn
  have hn20 : n ≤ 1048576 := by rw [hn]; exact h.small
  clear h hn
  go_enter Tryd.func18, Tryd.ntmps18
  go_wp2_with fail
  go_loopw [3, 4, 5] (fun ov tv iv wr => ∃ (i t : Nat) (es : List Ev), i ≤ n ∧ i ≤ 100 ∧ iv = .int .i64 i ∧ tv = .int .i64 t ∧ t ≤ i * 1000000 ∧ Hid (RowOf wr w.heap.size ov t es ∧ es.length = i) ∧ Mod [] w wr) (fun _ _ iv _ => n - (intOf iv).toNat)
  case atStart => exact ⟨0, 0, [], by omega, by omega, rfl, rfl, by omega, Lib.hid ⟨⟨OwnN.nil _ _ _ _ _, by simp, by simp, by simp, by simp, by simp⟩, rfl⟩, Mod.refl _ _⟩
  case round =>
    obtain ⟨i, t, es, hi, hi100, rfl, rfl, ht, HRO, hm⟩ := hrel
    have HM := Lib.hid hm
    clear hm
    by_cases hlt : i < n
    · by_cases hlt2 : i < 100
      · obtain ⟨r, hr⟩ : ∃ r, rs[i]? = some r := ⟨rs[i]'(by rw [← HN.out]; exact hlt), List.getElem?_eq_getElem _⟩
        have hrm := List.mem_of_getElem? hr
        have HI := Lib.hid (HR.out.ints r hrm)
        have HBD := Lib.hid (HR.out.body r hrm)
        have HBLN := Lib.hid (HR.out.bl r hrm)
        obtain ⟨b, o, hp, hrg⟩ := HR.out.rd.elem rvc_len i r hr
        have HRW := Lib.hid (fun (V : World) (m : Mod [] w V) => rwAt r.2 (range_mod m hrg (by simp)))
        have k21 := (HRW.out wr HM.out).c21
        have q0 : (0 : Int) ≤ (i : Int) := by omega
        have q1 : (i : Int) < (n : Int) := by omega
        have q2 : (i : Int) < 100 := by omega
        subst hp
        clear hrg hr hrm
        go_wp2_with fail
        refine (pick_any _ 1000000 _ HI.out.1.1 HI.out.1.2 (by decide) (by decide)).mono ?_
        rintro e w' ⟨r1, hr1, rfl, hw'⟩
        have hw2 := hw'.symm
        clear hw'
        subst hw2
        obtain ⟨t', ht'⟩ : ∃ t', t' = t + r1 := ⟨_, rfl⟩
        have hwr : IntKind.i64.wrap ((t : Int) + (r1 : Int)) = (t' : Int) := by rw [wrI _ (by omega) (by omega)]; omega
        have HTB := Lib.hid (show t' ≤ (i + 1) * 1000000 ∧ t ≤ t' from by omega)
        have hl1 := (HRW.out wr HM.out).l1
        have HLN := Lib.hid (callEn_ln r.2.s20 (t' : Int))
        have bz := fun w => run_buildZ w 35 #[(0, .int .i64 2), (1, .agg (r.1.snd.map V8).toArray), (2, .int .i64 (t' : Int))] _ (built_call r.1.snd r.2.s20 t')
        have hS := storeNewEn wr (callEn r.1.snd t') HLN.out
        obtain ⟨x0, hx0⟩ : ∃ x0, x0 = callEn r.1.snd (t' : Int) := ⟨_, rfl⟩
        have HX0 := Lib.hid hx0
        rw [← hx0] at bz hS HLN
        obtain ⟨sn, hsn⟩ : ∃ sn, sn = (r.1.snd.map V8).toArray := ⟨_, rfl⟩
        rw [← hsn] at bz hl1
        have HB0 := Lib.hid (hp_new wr (.cells x0.cells.toArray 35) _ rfl)
        have M1 := Lib.hid (HM.out.alloc (.cells x0.cells.toArray 35))
        have HWR := Lib.hid ht'
        clear hx0 hsn ht' k21 ht hr1
        have k0 := (HRW.out _ M1.out).c0
        obtain ⟨dp, hdp⟩ : ∃ dp, dp = r.1.dep := ⟨_, rfl⟩
        rw [← hdp] at k0
        clear hdp
        go_upto_if 37 with fail
        go_cut [] from 38 to 97 (fun wx => ∃ x : En, Made wx w.heap.size wr.heap.size t' x ∧ Mod [] wr wx)
        case first =>
          obtain ⟨w1, hw1⟩ : ∃ w1, w1 = wr.alloc (.cells x0.cells.toArray 35) := ⟨_, rfl⟩
          rw [← hw1] at HB0 M1 ⊢
          have MR1 := Lib.hid (show Mod [] wr w1 from by rw [hw1]; exact (Mod.refl [] wr).alloc _)
          clear hw1 hS bz hl1 k0 hwr
          cases dp
          · go_wp2_with fail
            obtain ⟨wo, hwo⟩ : ∃ wo, wo = wr := ⟨_, rfl⟩
            have HWO := Lib.hid hwo
            obtain ⟨e0, he0⟩ : ∃ e0, e0 = wr.heap.size := ⟨_, rfl⟩
            rw [← he0] at HB0 ⊢
            rw [← hwo] at HM MR1
            have HE0 := Lib.hid (show e0 = wo.heap.size from by rw [hwo]; exact he0)
            obtain ⟨bl, hbl⟩ : ∃ bl, bl = r.1.body.d.length := ⟨_, rfl⟩
            have HBL := Lib.hid hbl
            clear hwo he0 hbl
            go_loopw [7] (fun kv wi => ∃ (k : Nat) (y : SlR), k ≤ bl ∧ k ≤ 4096 ∧ kv = .int .i64 k ∧ Hid (wi.heap[e0]? = some (.cells (x0.wb y).cells.toArray 35 (0, 0)) ∧ Own wi wo.heap.size y.v y.d ∧ y.d.length = k) ∧ Mod [] wo wi) (fun kv _ => bl - (intOf kv).toNat)
            case atStart => exact ⟨0, ⟨none, 0, []⟩, by omega, by omega, rfl, Lib.hid ⟨by have h := HB0.out; rw [show x0 = x0.wb ⟨none, 0, []⟩ from by rw [HX0.out]; rfl] at h; exact h, Own.nil _ _, rfl⟩, MR1.out⟩
            case round =>
              obtain ⟨k, y, hkb, hk4, rfl, HIN, hmi⟩ := hrel
              have HMI := Lib.hid hmi
              have rb := (HRW.out _ (HM.out.trans0 hmi)).c48
              unfold SlR.v at rb
              rw [← HBL.out] at rb
              clear hmi
              by_cases hlb : k < bl
              · by_cases hl4 : k < 4096
                · obtain ⟨a, ha⟩ : ∃ a, r.1.body.d[k]? = some a := ⟨r.1.body.d[k]'(by rw [← HBL.out]; exact hlb), List.getElem?_eq_getElem _⟩
                  obtain ⟨bb, oo, hpb, hcb⟩ := HBD.out.cell k a ha
                  have hca := cell_mod0 (HM.out.trans0 HMI.out) hcb
                  obtain ⟨q, cq, hyv, hyr, _⟩ := HIN.out.2.1.rd
                  have hyl := HIN.out.2.2
                  rw [hyl] at hyv
                  have kb := (enBox (HLN.out.wb y) HIN.out.1).c48
                  have kb2 : wr.cell? ⟨e0, 48, none⟩ = some (.slice q k cq) := by rw [← hyv]; exact kb
                  have mA := (Mod.refl [] wr).alloc (.cells #[V8 a] 5)
                  have kb3 := cell_mod0 mA kb2
                  have hca3 := cell_mod0 mA hca
                  have rb3 := cell_mod0 mA rb
                  have HOA := Lib.hid (show Own ((wr.alloc (.cells #[V8 a] 5)).drew) wo.heap.size (.slice q k cq) y.d from by rw [← hyv]; exact (HIN.out.2.1.alloc _))
                  have HBA := Lib.hid (show ((wr.alloc (.cells #[V8 a] 5)).drew).heap[wr.heap.size]? = some (.cells #[V8 a] 5) from hp_drew (hp_new wr _ _ rfl))
                  have HEA := Lib.hid (show ((wr.alloc (.cells #[V8 a] 5)).drew).heap[e0]? = some (.cells (x0.wb y).cells.toArray 35 (0, 0)) from hp_drew (hp_old HIN.out.1))
                  have hyl4 : y.d.length ≤ 4294967296 := by omega
                  have hBB : wo.heap.size ≤ ((wr.alloc (.cells #[V8 a] 5)).drew).heap.size := Nat.le_trans HMI.out.size mA.size
                  have hpbn : r.1.body.p = some ⟨bb, oo, none⟩ := hpb
                  rw [hpbn] at rb rb3
                  have r0 : (0 : Int) ≤ (k : Int) := by omega
                  have r1' : (k : Int) < (bl : Int) := by omega
                  have r2' : (k : Int) < 4096 := by omega
                  have HYL := Lib.hid hyl
                  clear ha hcb hyv hyr kb mA hpb hpbn hyl
                  go_wp2_with fail
                  go_region_law (refine appB3 rfl (.tmp 86) (.tmp 95) rfl wo.heap.size (.slice q k cq) y.d HOA.out rfl wr.heap.size a rfl HBA.out hyl4 hBB ?_
                                 intro v4 w14 ho4 hg4 h4
                                 have G4 := Lib.hid ((hg4.block e0 (lt_of_block HEA.out) (fun hx => ownB_ne HOA.out HEA.out (by decide) hx.symm)).trans HEA.out)
                                 obtain ⟨p4, c4, e4, _, _⟩ := ho4.rd
                                 subst e4
                                 have c14 := (enBox (HLN.out.wb y) G4.out).c48
                                 have f14 := frozen_blk G4.out 48
                                 have HO4 := Lib.hid ho4
                                 have HG4 := Lib.hid hg4
                                 clear ho4 hg4 h4)
                  all_goals
                    obtain ⟨u4, hu4⟩ : ∃ u4, u4 = Value.slice p4 (y.d ++ [a]).length c4 := ⟨_, rfl⟩
                    have hu4' : Value.slice p4 (y.d.length + 1) c4 = u4 := by rw [hu4]; simp
                    have hu5 : u4 = SlR.v ⟨p4, c4, y.d ++ [a]⟩ := hu4
                    rw [← hu4] at HO4
                    rw [hu4']
                    obtain ⟨w15, hw15⟩ : ∃ w15, w15 = w14.setCell ⟨e0, 48, none⟩ u4 := ⟨_, rfl⟩
                    rw [← hw15]
                    have g15 : w15.heap[e0]? = some (.cells (x0.wb ⟨p4, c4, y.d ++ [a]⟩).cells.toArray 35 (0, 0)) := by
                      rw [hw15, hu5]
                      have h := hp_sc (j := 48) (v := SlR.v ⟨p4, c4, y.d ++ [a]⟩) G4.out
                      rw [En.cells_wb (HLN.out.wb y)] at h
                      exact h
                    have hne4 := ownB_ne HO4.out G4.out (by decide)
                    have mg : Mod [e0] w14 w15 := by rw [hw15]; exact (Mod.refl [e0] w14).setCell (.inl (by simp)) _
                    have o15 : Own w15 wo.heap.size u4 (y.d ++ [a]) := HO4.out.mod mg (fun z hz => by rw [List.mem_singleton.1 hz]; exact hne4)
                    have hbs : wo.heap.size ≤ e0 := by rw [HE0.out]; exact Nat.le_refl _
                    have M15 : Mod [] wo w15 := by
                      have k1 := ((HMI.out.alloc (.cells #[V8 a] 5)).drew).of_grown HG4.out (fun z hz => .inr (HOA.out.row z hz))
                      rw [hw15]
                      exact k1.setCell (p := ⟨e0, 48, none⟩) (.inr hbs) _
                    have HNEW := Lib.hid (And.intro g15 (And.intro (show Own w15 wo.heap.size (SlR.v ⟨p4, c4, y.d ++ [a]⟩) (y.d ++ [a]) from by rw [← hu5]; exact o15) (show (y.d ++ [a]).length = k + 1 from by rw [List.length_append, HYL.out]; rfl)))
                    have HM15 := Lib.hid M15
                    clear g15 hne4 mg o15 hbs M15 hw15 hu4' hu5 hu4
                    go_wp2_with fail
                    go_roundw
                    case rel => exact ⟨k + 1, ⟨p4, c4, y.d ++ [a]⟩, hlb, hl4, by go_num, HNEW.out, HM15.out⟩
                    case measure => simp [intOf]; omega
                · have hk5 : k = 4096 := by omega
                  subst hk5
                  go_wp2_with fail
                  rw [HE0.out, HWO.out]
                  go_meet
                  case rel =>
                    rw [← HWO.out, ← HE0.out]
                    obtain ⟨h1, h2, h3⟩ := HIN.out
                    have hx := congrArg (fun z : En => z.wb y) HX0.out
                    refine ⟨x0.wb y, ⟨HLN.out.wb y, h1, ⟨h2.mono HM.out.size, by show y.d.length ≤ _; rw [h3]; omega⟩, fine_callEn hx (by omega) (by have := HTB.out; omega) (by rw [h3]; omega), by rw [hx]; rfl⟩, HMI.out⟩
              · have hkb2 : k = bl := by omega
                subst hkb2
                go_wp2_with fail
                rw [HE0.out, HWO.out]
                go_meet
                case rel =>
                  rw [← HWO.out, ← HE0.out]
                  obtain ⟨h1, h2, h3⟩ := HIN.out
                  have hx := congrArg (fun z : En => z.wb y) HX0.out
                  refine ⟨x0.wb y, ⟨HLN.out.wb y, h1, ⟨h2.mono HM.out.size, by show y.d.length ≤ _; rw [h3]; omega⟩, fine_callEn hx (by omega) (by have := HTB.out; omega) (by rw [h3]; omega), by rw [hx]; rfl⟩, HMI.out⟩
          · have f0 := frozen_blk HB0.out 0
            have k0 := cell_blk HB0.out 0
            have k0' : w1.cell? ⟨wr.heap.size, 0, none⟩ = some (.int .i64 x0.kind) := k0.trans rfl
            have hb2 := hp_sc (j := 0) (v := .int .i64 1) HB0.out
            rw [En.cells_k] at hb2
            obtain ⟨x1, hx1⟩ : ∃ x1 : En, x1 = { x0 with kind := 1 } := ⟨_, rfl⟩
            rw [← hx1] at hb2
            have HX1 := Lib.hid hx1
            have HN1 := Lib.hid (show x1.Ln from by rw [hx1]; exact ⟨HLN.out.s20, HLN.out.t20, HLN.out.a4⟩)
            have m2 : Mod [] wr (w1.setCell ⟨wr.heap.size, 0, none⟩ (.int .i64 1)) := MR1.out.setCell (.inr (Nat.le_refl _)) _
            have HB2 := Lib.hid hb2
            have M2 := Lib.hid m2
            have kt := (HRW.out _ (HM.out.trans0 m2)).c22
            clear hb2 m2 k0 hx1
            go_wp2_with fail
            refine (pick_any _ 64 _ HI.out.2.1.1 HI.out.2.1.2 (by decide) (by decide)).mono ?_
            rintro e w' ⟨r2, hr2, rfl, hw'⟩
            subst hw'
            obtain ⟨w2, hw2⟩ : ∃ w2, w2 = w1.setCell ⟨wr.heap.size, 0, none⟩ (.int .i64 1) := ⟨_, rfl⟩
            rw [← hw2] at HB2 M2 ⊢
            have HR2 := Lib.hid hr2
            clear hw2 kt f0 k0' hr2
            have f22 := frozen_blk HB2.out 22
            have k22 : w2.cell? ⟨wr.heap.size, 22, none⟩ = some (.int .i64 x1.tok) := (enBox HN1.out HB2.out).c22
            have hb3 := hp_sc (j := 22) (v := .int .i64 (r2 : Int)) HB2.out
            rw [En.cells_t HN1.out] at hb3
            obtain ⟨x2, hx2⟩ : ∃ x2 : En, x2 = { x1 with tok := (r2 : Int) } := ⟨_, rfl⟩
            rw [← hx2] at hb3
            have HX2 := Lib.hid hx2
            have HN2 := Lib.hid (show x2.Ln from by rw [hx2]; exact ⟨HN1.out.s20, HN1.out.t20, HN1.out.a4⟩)
            have m3 : Mod [] wr (w2.setCell ⟨wr.heap.size, 22, none⟩ (.int .i64 (r2 : Int))) := M2.out.setCell (.inr (Nat.le_refl _)) _
            have l23 := (HRW.out _ (HM.out.trans0 m3)).l23
            have hS23 := storeTo x2 HN2.out r.1.to r.2.t20 hb3
            have hb4 := hp_setRow (cs := ({ x2 with «to» := r.1.to } : En).cells.toArray) hb3
            obtain ⟨x3, hx3⟩ : ∃ x3 : En, x3 = { x2 with «to» := r.1.to } := ⟨_, rfl⟩
            rw [← hx3] at hS23 hb4
            have HX3 := Lib.hid hx3
            have HN3 := Lib.hid (show x3.Ln from by rw [hx3]; exact ⟨HN2.out.s20, r.2.t20, HN2.out.a4⟩)
            have m4 := m3.setRow (g := wr.heap.size) (.inr (Nat.le_refl _)) x3.cells.toArray
            have l43 := (HRW.out _ (HM.out.trans0 m4)).l43
            have hS43 := storeAmt x3 HN3.out r.1.amt r.2.a4 hb4
            have hb5 := hp_setRow (cs := ({ x3 with amt := r.1.amt } : En).cells.toArray) hb4
            obtain ⟨x4, hx4⟩ : ∃ x4 : En, x4 = { x3 with amt := r.1.amt } := ⟨_, rfl⟩
            rw [← hx4] at hS43 hb5
            have HX4 := Lib.hid hx4
            have HN4 := Lib.hid (show x4.Ln from by rw [hx4]; exact ⟨HN3.out.s20, HN3.out.t20, r.2.a4⟩)
            have m5 := m4.setRow (g := wr.heap.size) (.inr (Nat.le_refl _)) x4.cells.toArray
            have k47 := (HRW.out _ (HM.out.trans0 m5)).c47
            have HB5 := Lib.hid hb5
            have M5 := Lib.hid m5
            obtain ⟨ta, hta⟩ : ∃ ta, ta = (r.1.to.map V8).toArray := ⟨_, rfl⟩
            rw [← hta] at l23 hS23
            obtain ⟨aa, haa⟩ : ∃ aa, aa = (r.1.amt.map V64).toArray := ⟨_, rfl⟩
            rw [← haa] at l43 hS43
            obtain ⟨c3, hc3⟩ : ∃ c3, c3 = x3.cells.toArray := ⟨_, rfl⟩
            rw [← hc3] at hS23 l43 hS43 k47 HB5 M5
            obtain ⟨c4, hc4⟩ : ∃ c4, c4 = x4.cells.toArray := ⟨_, rfl⟩
            have HC4 := Lib.hid hc4
            rw [← hc4] at hS43 k47 HB5 M5
            clear hb3 hb4 hb5 m3 m4 m5 hx2 hx3 hx4 hta haa hc3 hc4
            go_wp2_with fail
            refine (pick_any _ 1099511627777 _ HI.out.2.2.1 HI.out.2.2.2 (by decide) (by decide)).mono ?_
            rintro e w' ⟨r3, hr3, rfl, hw'⟩
            subst hw'
            obtain ⟨w5, hw5⟩ : ∃ w5, w5 = ((w2.setCell ⟨wr.heap.size, 22, none⟩ (.int .i64 (r2 : Int))).setRow wr.heap.size c3).setRow wr.heap.size c4 := ⟨_, rfl⟩
            have hb5 := HB5.out
            have m5 := M5.out
            rw [← hw5] at hb5 m5 ⊢
            rw [HC4.out] at hb5
            have HR3 := Lib.hid hr3
            have HB6 := Lib.hid hb5
            have M6 := Lib.hid m5
            clear hw5 hr3 l23 hS23 l43 hS43 k47 f22 k22 hb5 m5 HB5 M5
            have f47 := frozen_blk HB6.out 47
            have k47 : w5.cell? ⟨wr.heap.size, 47, none⟩ = some (.int .i64 x4.gas) := (enBox HN4.out HB6.out).c47
            have hb7 := hp_sc (j := 47) (v := .int .i64 (r3 : Int)) HB6.out
            rw [En.cells_g HN4.out] at hb7
            obtain ⟨x5, hx5⟩ : ∃ x5 : En, x5 = { x4 with gas := (r3 : Int) } := ⟨_, rfl⟩
            rw [← hx5] at hb7
            have HX5 := Lib.hid hx5
            have HN5 := Lib.hid (show x5.Ln from by rw [hx5]; exact ⟨HN4.out.s20, HN4.out.t20, HN4.out.a4⟩)
            have M7 := Lib.hid (M6.out.setCell (p := ⟨wr.heap.size, 47, none⟩) (.inr (Nat.le_refl _)) (.int .i64 (r3 : Int)))
            have la : (LoadO 33 (.pointer (some ⟨wr.heap.size, 43, none⟩))).run Tryd.prog (w5.setCell ⟨wr.heap.size, 47, none⟩ (.int .i64 (r3 : Int))) = .ok (.agg (x5.amt.map V64).toArray) _ := (enBox HN5.out hb7).l43
            have ha5 : x5.amt = r.1.amt := by rw [hx5, HX4.out]
            have ht5 : x5.time = (t' : Int) := by rw [hx5, HX4.out, HX3.out, HX2.out, HX1.out, HX0.out]; rfl
            have hk5 : x5.kind = 1 := by rw [hx5, HX4.out, HX3.out, HX2.out, HX1.out]
            have hto5 : x5.tok = (r2 : Int) := by rw [hx5, HX4.out, HX3.out, HX2.out]
            have hg5 : x5.gas = (r3 : Int) := by rw [hx5]
            have hbd5 : x5.body = ⟨none, 0, []⟩ := by rw [hx5, HX4.out, HX3.out, HX2.out, HX1.out, HX0.out]; rfl
            rw [ha5] at la
            have HF5 := Lib.hid (And.intro ht5 (And.intro hk5 (And.intro hto5 (And.intro hg5 (And.intro hbd5 ha5)))))
            have HB7 := Lib.hid hb7
            have bzw : ∀ w, (BuildZ 33 #[]).run Tryd.prog w = .ok (.agg (([0, 0, 0, 0] : List UInt64).map V64).toArray) w := fun w => run_buildZ w 33 #[] _ builtWd
            have e4 : ∀ w, (binOp .eql 33 (.agg (r.1.amt.map V64).toArray) (.agg (([0, 0, 0, 0] : List UInt64).map V64).toArray)).run Tryd.prog w = .ok (.bool (r.1.amt == [0, 0, 0, 0])) w := fun w => eqWide w ⟨r.1.amt, r.2.a4⟩ ⟨[0, 0, 0, 0], rfl⟩
            obtain ⟨z4, hz4⟩ : ∃ z4, z4 = (([0, 0, 0, 0] : List UInt64).map V64).toArray := ⟨_, rfl⟩
            rw [← hz4] at bzw e4
            obtain ⟨y4, hy4⟩ : ∃ y4, y4 = (r.1.amt.map V64).toArray := ⟨_, rfl⟩
            rw [← hy4] at la e4
            clear hz4 hy4 hx5 ha5 ht5 hk5 hto5 hg5 hbd5 hb7
            cases hz : r.1.amt == [0, 0, 0, 0]
            · simp only [hz] at e4
              have HZ := Lib.hid hz
              clear hz
              go_wp2_with fail
              go_meet
              case rel =>
                obtain ⟨a1, a2, a3, a4, a5, a6⟩ := HF5.out
                have h1 := HTB.out
                have h2 := HR2.out
                have h3 := HR3.out
                refine ⟨x5, ⟨HN5.out, HB7.out, ⟨by rw [a5]; exact Own.nil _ _, by rw [a5]; exact Nat.zero_le _⟩, fine_dep' a2 (by rw [a1]; omega) (by rw [a1]; omega) (by rw [a3]; omega) (by rw [a3]; omega) (by rw [a6]; exact HZ.out) (by rw [a4]; omega) (by rw [a4]; omega) (by rw [a5]; rfl), a1⟩, M7.out⟩
            · simp only [hz] at e4
              have hzl : r.1.amt = [0, 0, 0, 0] := by simpa using hz
              have HZ := Lib.hid hzl
              have f44 := frozen_blk HB7.out 44
              have k44 : (w5.setCell ⟨wr.heap.size, 47, none⟩ (.int .i64 (r3 : Int))).cell? ⟨wr.heap.size, 44, none⟩ = some (V64 0) := by
                rw [cell_blk HB7.out, List.getElem?_toArray]
                exact cell44 HN5.out (by rw [HF5.out.2.2.2.2.2, hzl]; rfl)
              have hb8 := hp_sc (j := 44) (v := V64 7) HB7.out
              rw [En.cells_m HN5.out] at hb8
              have HB8 := Lib.hid hb8
              have M8 := Lib.hid (M7.out.setCell (p := ⟨wr.heap.size, 44, none⟩) (.inr (Nat.le_refl _)) (V64 7))
              clear hz hzl hb8
              go_wp2_with fail
              go_meet
              case rel =>
                obtain ⟨a1, a2, a3, a4, a5, a6⟩ := HF5.out
                have h1 := HTB.out
                have h2 := HR2.out
                have h3 := HR3.out
                refine ⟨{ x5 with amt := x5.amt.set 1 7 }, ⟨⟨HN5.out.s20, HN5.out.t20, by show (x5.amt.set 1 7).length = 4; rw [List.length_set]; exact HN5.out.a4⟩, HB8.out, ⟨by show Own _ _ x5.body.v x5.body.d; rw [a5]; exact Own.nil _ _, by show x5.body.d.length ≤ _; rw [a5]; exact Nat.zero_le _⟩, fine_dep' a2 (by show 0 ≤ x5.time; rw [a1]; omega) (by show x5.time ≤ _; rw [a1]; omega) (by show 0 ≤ x5.tok; rw [a3]; omega) (by show x5.tok ≤ _; rw [a3]; omega) (by show (x5.amt.set 1 7 == [0, 0, 0, 0]) = false; rw [a6, HZ.out]; rfl) (by show 0 ≤ x5.gas; rw [a4]; omega) (by show x5.gas ≤ _; rw [a4]; omega) (by show x5.body.d.length = 0; rw [a5]; rfl), a1⟩, M8.out⟩
        case rest =>
          obtain ⟨x, hmade, hmx⟩ := hcut
          have HMD := Lib.hid hmade
          have HMX := Lib.hid hmx
          have hil := HRO.out.2
          have hLx := (enBox hmade.ln hmade.blk).ln
          have hBS := run_buildEn wc x hmade.ln
          obtain ⟨xs, hxs⟩ : ∃ xs, xs = x.cells.toArray := ⟨_, rfl⟩
          rw [← hxs] at hLx hBS
          have HXS := Lib.hid hxs
          have HRD := Lib.hid hil
          clear hil hS bz hl1 k0 hwr hmade hmx hxs
          go_wp2_with (at_builtin; with_reducible refine froz_app _ _ rfl ?_)
          unfold Froz
          have hOC : OwnEn (wc.alloc (.cells xs 35)) w.heap.size u3 es := (HRO.out.1.own.mod0 HMX.out).alloc _
          have hbn : (wc.alloc (.cells xs 35)).heap[wc.heap.size]? = some (.cells x.cells.toArray 35) := by rw [HXS.out]; exact hp_new wc _ _ rfl
          refine wpList_pushN (.agg zeroEn.cells.toArray) 136 Tryd.underlying25 infoEnZ (by simp [Value.cells, En.cells_len zeroEn_ln]) (by decide) evc_len evc_one rfl _ _ rfl w.heap.size u3 es hOC rfl wc.heap.size 0 1 1 [(⟨x, HMD.out.ln⟩ : Ev)] rfl rfl (range_blk hbn 0 _ (fun j v hv => by simpa [evc] using hv)) (by have := HRD.out; unfold maxLen; simp; omega) (by have := HRD.out; simp; omega) (Nat.le_trans (HM.out.trans0 HMX.out).size (by rw [alloc_hs]; exact Nat.le_succ _)) ?_
          intro v' w' ho hg
          have mG : Mod u3.ownBlock.toList (wc.alloc (.cells xs 35)) w' := (Mod.refl _ _).of_grown hg (fun z hz => .inl (by rw [hz]; simp))
          have bdy : ∀ (u : Value) (d : Bs), Own wc w.heap.size u d → Own w' w.heap.size u d := fun u d hu => (hu.alloc (.cells xs 35)).mod mG (fun q hq => by
            rw [Option.mem_toList] at hq
            obtain ⟨C, hC⟩ := hOC.type q hq
            exact ownB_ne (hu.alloc (.cells xs 35)) hC (by decide))
          have HNEW := Lib.hid (show RowOf w' w.heap.size v' t' (es ++ [(⟨x, HMD.out.ln⟩ : Ev)]) ∧ (es ++ [(⟨x, HMD.out.ln⟩ : Ev)]).length = i + 1 from by
            have htt := HTB.out
            refine ⟨⟨ho, fun q hq => ?_, fun q hq => ?_, ?_, fun q hq => ?_, fun j y z hy hz => ?_⟩, by rw [List.length_append, HRD.out]; rfl⟩
            · rcases List.mem_append.1 hq with hq | hq
              · have h := HRO.out.1.body q hq
                exact ⟨bdy _ _ (h.1.mod (HMX.out) (by simp)), h.2⟩
              · rw [List.mem_singleton.1 hq]
                exact ⟨bdy _ _ HMD.out.body.1, HMD.out.body.2⟩
            · rcases List.mem_append.1 hq with hq | hq
              · exact HRO.out.1.fine q hq
              · rw [List.mem_singleton.1 hq]; exact HMD.out.fine
            · rw [List.length_append, HRD.out]; exact hlt2
            · rcases List.mem_append.1 hq with hq | hq
              · have h := HRO.out.1.last q hq
                omega
              · rw [List.mem_singleton.1 hq]
                show x.time ≤ _
                rw [HMD.out.time]; exact Int.le_refl _
            · by_cases hj : j + 1 < es.length
              · rw [List.getElem?_append_left (by omega)] at hy
                rw [List.getElem?_append_left hj] at hz
                exact HRO.out.1.sorted j y z hy hz
              · by_cases hj2 : j + 1 = es.length
                · rw [List.getElem?_append_left (by omega)] at hy
                  rw [List.getElem?_append_right (by omega), hj2, Nat.sub_self] at hz
                  injection hz with hz
                  rw [← hz]
                  have h := HRO.out.1.last y (List.mem_of_getElem? hy)
                  show _ ≤ x.time
                  rw [HMD.out.time]
                  omega
                · rw [List.getElem?_append_right (by omega)] at hz
                  have hlz := (List.getElem?_eq_some_iff.1 hz).1
                  simp at hlz
                  omega)
          have HMW := Lib.hid (((HM.out.trans0 HMX.out).alloc (.cells xs 35)).of_grown hg (fun z hz => .inr (HRO.out.1.own.row z hz)))
          have HTE := Lib.hid (show t' ≤ (i + 1) * 1000000 from HTB.out.1)
          clear ho hg mG bdy hOC hbn
          go_wp2_with fail
          go_roundw
          case rel => exact ⟨i + 1, t', es ++ [(⟨x, HMD.out.ln⟩ : Ev)], hlt, hlt2, by go_num, rfl, HTE.out, HNEW.out |> Lib.hid, HMW.out⟩
          case measure => simp [intOf]; omega
      · have hi2 : i = 100 := by omega
        subst hi2
        have HRX := Lib.hid HRO.out.1
        go_wp2_with fail
        go_ret
        exact ⟨_, _, _, rfl, HRX.out, HM.out⟩
    · have hi2 : i = n := by omega
      have q9 : ¬ ((i : Int) < (n : Int)) := by omega
      have HRX := Lib.hid HRO.out.1
      go_wp2_with fail
      go_ret
      exact ⟨_, _, _, rfl, HRX.out, HM.out⟩
end Go.Proofs.YtmdgefiojapogaaDoor
namespace Go.Proofs.YtmdgefiojapogaaDoor
open Go.RowKit
attribute [local go_sem high] one8 st8 cm8 b_and8 b_and8r b_and8l b_or8 b_or8r b_or8l b_xor8 b_xor8r b_xor8l b_andNot8 b_andNot8r b_andNot8l b_add8 b_add8r b_add8l b_sub8 b_sub8r b_sub8l b_mul8 b_mul8r b_mul8l b_eql8 b_eql8r b_eql8l b_neq8 b_neq8r b_neq8l b_lss8 b_lss8r b_lss8l b_leq8 b_leq8r b_leq8l b_gtr8 b_gtr8r b_gtr8l b_geq8 b_geq8r b_geq8l b_quo8r b_rem8r b_shl8r b_shr8r b_shl8l b_shr8l u_xor8 g_eql8 g_neq8 g_eql8' g_neq8' one32 st32 cm32 b_and32 b_and32r b_and32l b_or32 b_or32r b_or32l b_xor32 b_xor32r b_xor32l b_andNot32 b_andNot32r b_andNot32l b_add32 b_add32r b_add32l b_sub32 b_sub32r b_sub32l b_mul32 b_mul32r b_mul32l b_eql32 b_eql32r b_eql32l b_neq32 b_neq32r b_neq32l b_lss32 b_lss32r b_lss32l b_leq32 b_leq32r b_leq32l b_gtr32 b_gtr32r b_gtr32l b_geq32 b_geq32r b_geq32l b_quo32r b_rem32r b_shl32r b_shr32r b_shl32l b_shr32l u_xor32 g_eql32 g_neq32 g_eql32' g_neq32' one64 st64 cm64 b_and64 b_and64r b_and64l b_or64 b_or64r b_or64l b_xor64 b_xor64r b_xor64l b_andNot64 b_andNot64r b_andNot64l b_add64 b_add64r b_add64l b_sub64 b_sub64r b_sub64l b_mul64 b_mul64r b_mul64l b_eql64 b_eql64r b_eql64l b_neq64 b_neq64r b_neq64l b_lss64 b_lss64r b_lss64l b_leq64 b_leq64r b_leq64l b_gtr64 b_gtr64r b_gtr64l b_geq64 b_geq64r b_geq64l b_quo64r b_rem64r b_shl64r b_shr64r b_shl64l b_shr64l u_xor64 g_eql64 g_neq64 g_eql64' g_neq64' c_u8_u8 c_u8_u32 c_u8_u64 c_i_u8 c_u32_u8 c_u32_u32 c_u32_u64 c_i_u32 c_u64_u8 c_u64_u32 c_u64_u64 c_i_u64 c_u8_i c_u32_i
attribute [local go_sem ↓] ce8 ce32 ce64
attribute [local go_sem ↓] sliced_slp loadO26 storeO26 loadOEn storeOEn buildZDg buildZEn
/-- The same entries, each with a body of its own. -/
structure Copies (es es' : List Ev) : Prop where
  len : es'.length = es.length
  each : ∀ (i : Nat) (x : Ev), es[i]? = some x → ∃ (z : Ev) (y : SlR), es'[i]? = some z ∧ z.1 = x.1.wb y ∧ y.d = x.1.body.d
theorem Copies.nil : Copies [] [] := ⟨rfl, fun i x h => by simp at h⟩
theorem Copies.snoc {es es' : List Ev} (h : Copies es es') (x z : Ev) (y : SlR) (h1 : z.1 = x.1.wb y) (h2 : y.d = x.1.body.d) : Copies (es ++ [x]) (es' ++ [z]) := by
  refine ⟨by rw [List.length_append, List.length_append, h.len]; rfl, fun i u hu => ?_⟩
  by_cases hi : i < es.length
  · rw [List.getElem?_append_left hi] at hu
    obtain ⟨z', y', k1, k2, k3⟩ := h.each i u hu
    exact ⟨z', y', by rw [List.getElem?_append_left (by rw [h.len]; exact hi)]; exact k1, k2, k3⟩
  · have hi2 : i = es.length := by
      have := (List.getElem?_eq_some_iff.1 hu).1
      simp at this; omega
    subst hi2
    rw [List.getElem?_append_right (Nat.le_refl _), Nat.sub_self] at hu
    injection hu with hu
    subst hu
    exact ⟨z, y, by rw [List.getElem?_append_right (by rw [h.len]; exact Nat.le_refl _), h.len, Nat.sub_self]; rfl, h1, h2⟩
theorem lk_snoc (ks : List Bs) (X : Bs) (j : Nat) (h : j ≤ ks.length) : lk (ks ++ [X]) j = lk ks j := by
  unfold lk
  by_cases h0 : 1 ≤ (j : Int)
  · rw [if_pos ⟨h0, by rw [List.length_append]; simp; omega⟩, if_pos ⟨h0, by omega⟩, List.getD_eq_getElem?_getD, List.getD_eq_getElem?_getD, List.getElem?_append_left (by omega)]
  · rw [if_neg (by omega), if_neg (by omega)]
theorem lk_last (ks : List Bs) (X : Bs) : lk (ks ++ [X]) ((ks.length + 1 : Nat) : Int) = X := by
  unfold lk
  rw [if_pos ⟨by omega, by rw [List.length_append]; simp⟩, show ((ks.length + 1 : Nat) : Int).toNat - 1 = ks.length by omega]
  simp
theorem lk_start (hf : Bs → Bs) (es : List Ev) : ∀ j : Nat, j ≤ 0 → lk [] j = linkI hf (zeros 32) (es.take j) := by
  intro j hj
  obtain rfl : j = 0 := by omega
  rfl
/-- A box of these entries. -/
def BoxOf (hf : Bs → Bs) (es : List Ev) (w : World) (B : Nat) (g : Nat) (w' : World) : Prop :=
  ∃ ve vl es' ks, IsBox w' B g ve vl es' ks ∧ Copies es es' ∧ ∀ j : Nat, j ≤ es.length → lk ks j = linkI hf (zeros 32) (es.take j)
def BoxedPost (hf : Bs → Bs) (es : List Ev) (w : World) (e : Ending) (w' : World) : Prop :=
  ∃ g, e = .returned (.pointer (some ⟨g, 0, none⟩)) ∧ BoxOf hf es w w.heap.size g w' ∧ Mod [] w w'
set_option maxRecDepth 100000 in
theorem boxed_any {hf : Bs → Bs} (p : Option Addr) (c n : Nat) (es : List Ev) (w : World) (hn : n = es.length) (h : Ents w p c es) (hsm : es.length ≤ 1000) (hfi : ∀ x ∈ es, x.1.fine = true) (hbl : ∀ x ∈ es, x.1.body.d.length ≤ 4096)
    (hso : ∀ (i : Nat) (y z : Ev), es[i]? = some y → es[i + 1]? = some z → y.1.time ≤ z.1.time) (H : Hs hf w) :
    Calls Tryd.prog 19 #[.slice p n c] w (BoxedPost hf es w) := by
  have HE := Lib.hid h
  have HH := Lib.hid H
  have HN := Lib.hid hn
  have HFI := Lib.hid hfi
  have HBLN := Lib.hid hbl
  have HSO := Lib.hid hso
  have hn20 : n ≤ 1000 := by omega
  clear h H hn hfi hbl hso hsm
  go_enter Tryd.func19, Tryd.ntmps19
  go_wp2_with fail
  refine (newBox_any w.heap.size w (Nat.le_refl _)).mono ?_
  rintro e w1 ⟨g, rfl, hg, hbx, m1⟩
  have HBX := Lib.hid hbx
  have M1 := Lib.hid m1
  clear hg hbx m1
  go_wp2_with fail
  go_loopw [4] (fun iv wr => ∃ (i : Nat) (ve vl : Value) (es' : List Ev) (ks : List Bs), i ≤ n ∧ iv = .int .i64 i ∧ Hid (IsBox wr w.heap.size g ve vl es' ks ∧ Copies (es.take i) es' ∧ es'.length = i ∧ ∀ j : Nat, j ≤ i → lk ks j = linkI hf (zeros 32) (es.take j)) ∧ Mod [] w wr) (fun iv _ => n - (intOf iv).toNat)
  case atStart => exact ⟨0, _, _, [], [], by omega, rfl, Lib.hid ⟨HBX.out, Copies.nil, rfl, lk_start hf es⟩, M1.out⟩
  case round =>
    clear HBX M1
    obtain ⟨i, ve, vl, es', ks, hi, rfl, HST, hm⟩ := hrel
    have HM := Lib.hid hm
    clear hm
    by_cases hlt : i < n
    · obtain ⟨x, hx⟩ : ∃ x, es[i]? = some x := ⟨es[i]'(by rw [← HN.out]; exact hlt), List.getElem?_eq_getElem _⟩
      have hxm := List.mem_of_getElem? hx
      obtain ⟨hbox, hcp, hel, hlk⟩ := HST.out
      obtain ⟨b, o, hp, hrg⟩ := HE.out.rd.elem evc_len i x hx
      have hL1 := (enAt x.2 (range_mod HM.out hrg (by simp))).ln
      have hea : early es' x.1 = false := by
        by_cases hi0 : i = 0
        · subst hi0
          rw [List.eq_nil_of_length_eq_zero hel]; rfl
        · obtain ⟨m, rfl⟩ : ∃ m, i = m + 1 := ⟨i - 1, by omega⟩
          obtain ⟨y, hy⟩ : ∃ y, es[m]? = some y := ⟨es[m]'(by have := HN.out; omega), List.getElem?_eq_getElem _⟩
          have hyt : (es.take (m + 1))[m]? = some y := by rw [List.getElem?_take, if_pos (by omega)]; exact hy
          obtain ⟨z, yy, hz, hz1, _⟩ := hcp.each m y hyt
          rw [early_get hel hz, hz1]
          have h1 := HSO.out m y x hy hx
          simp only [decide_eq_false_iff_not]
          show ¬ x.1.time < y.1.time
          omega
      have hadd := add_ok (hf := hf) w.heap.size g ve vl es' ks x.1 wr hbox x.2 ((HE.out.body x hxm).mod0 HM.out) (HH.out.mod0 HM.out) (HFI.out x hxm) hea (by omega) (by have := HBLN.out x hxm; omega)
      have HADD := Lib.hid hadd
      have HX := Lib.hid hx
      have HEL := Lib.hid hel
      obtain ⟨xs, hxs⟩ : ∃ xs, xs = x.1.cells.toArray := ⟨_, rfl⟩
      rw [← hxs] at hL1 HADD
      have q0 : (0 : Int) ≤ (i : Int) := by omega
      have q1 : (i : Int) < (n : Int) := by omega
      subst hp
      clear hadd hx hxm hrg hxs hbox hcp hel hlk hea
      go_wp2_with fail
      refine HADD.out.mono ?_
      rintro e w2 ⟨rfl, ve', vl', y, hyd, ⟨z, hz1, hbox', m2⟩⟩
      obtain ⟨hbox, hcp, hel, hlk⟩ := HST.out
      have hli := linkI_succ hf (zeros 32) es i x HX.out
      have hkl : ks.length = i := by rw [hbox.len, hel]
      have hX : nextH hf (lk ks es'.length) x.1 = linkI hf (zeros 32) (es.take (i + 1)) := by rw [hli, hel, hlk i (Nat.le_refl _)]
      rw [hX] at hbox'
      have HNEW := Lib.hid (show IsBox w2 w.heap.size g ve' vl' (es' ++ [z]) (ks ++ [linkI hf (zeros 32) (es.take (i + 1))]) ∧ Copies (es.take (i + 1)) (es' ++ [z]) ∧ (es' ++ [z]).length = i + 1 ∧ ∀ j : Nat, j ≤ i + 1 → lk (ks ++ [linkI hf (zeros 32) (es.take (i + 1))]) j = linkI hf (zeros 32) (es.take j) from by
        refine ⟨hbox', ?_, by rw [List.length_append, hel]; rfl, fun j hj => ?_⟩
        · have e : es.take (i + 1) = es.take i ++ [x] := by rw [List.take_add_one, HX.out]; rfl
          rw [e]
          exact hcp.snoc x z y hz1 hyd
        · by_cases hj2 : j ≤ i
          · rw [lk_snoc ks _ j (by omega)]; exact hlk j hj2
          · have hj3 : j = ks.length + 1 := by omega
            rw [hj3, lk_last, hkl])
      have HM2 := Lib.hid (HM.out.trans m2 (fun q hq => .inr (by
        rcases List.mem_cons.1 hq with rfl | hq
        · exact hbox.base
        · rcases List.mem_append.1 hq with hq | hq
          · rw [Option.mem_toList] at hq; exact hbox.own.row _ hq
          · rw [Option.mem_toList] at hq; exact hbox.links.row _ hq)))
      have hne : ((i : Int) != (i : Int)) = false := by simp
      rw [HEL.out]
      clear hbox' m2 hyd hz1 hbox hcp hel hlk hli hkl hX
      go_wp2_with fail
      go_roundw
      case rel => exact ⟨i + 1, ve', vl', _, _, hlt, by go_num, HNEW.out |> Lib.hid, HM2.out⟩
      case measure => simp [intOf]; omega
    · have hin : i = n := by omega
      have q9 : ¬ ((i : Int) < (n : Int)) := by omega
      have HEND := Lib.hid (show BoxOf hf es w w.heap.size g wr from by
        obtain ⟨hbox, hcp, hel, hlk⟩ := HST.out
        rw [hin, HN.out, List.take_length] at hcp
        rw [hin, HN.out] at hlk
        exact ⟨ve, vl, es', ks, hbox, hcp, hlk⟩)
      go_wp2_with fail
      go_ret
      exact ⟨g, rfl, HEND.out, HM.out⟩
end Go.Proofs.YtmdgefiojapogaaDoor
