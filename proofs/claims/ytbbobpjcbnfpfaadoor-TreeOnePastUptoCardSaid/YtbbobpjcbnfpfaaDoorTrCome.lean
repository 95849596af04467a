/- come: what the reference's Grew looks at (two digests and texts), in memory. No condition. -/
import Derived.Test.YtbbobpjcbnfpfaaDoorTrLong
import Derived.Test.YtbbobpjcbnfpfaaDoorTrTexts
import Derived.Test.YtbbobpjcbnfpfaaDoorTrMem
import Derived.Test.YtbbobpjcbnfpfaaDoorTrOne
namespace Go.Proofs.YtbbobpjcbnfpfaaDoor
open Go.RowKit
attribute [local go_sem high] one8 st8 cm8 b_and8 b_and8r b_and8l b_or8 b_or8r b_or8l b_xor8 b_xor8r b_xor8l b_andNot8 b_andNot8r b_andNot8l b_add8 b_add8r b_add8l b_sub8 b_sub8r b_sub8l b_mul8 b_mul8r b_mul8l b_eql8 b_eql8r b_eql8l b_neq8 b_neq8r b_neq8l b_lss8 b_lss8r b_lss8l b_leq8 b_leq8r b_leq8l b_gtr8 b_gtr8r b_gtr8l b_geq8 b_geq8r b_geq8l b_quo8r b_rem8r b_shl8r b_shr8r b_shl8l b_shr8l u_xor8 g_eql8 g_neq8 g_eql8' g_neq8' one32 st32 cm32 b_and32 b_and32r b_and32l b_or32 b_or32r b_or32l b_xor32 b_xor32r b_xor32l b_andNot32 b_andNot32r b_andNot32l b_add32 b_add32r b_add32l b_sub32 b_sub32r b_sub32l b_mul32 b_mul32r b_mul32l b_eql32 b_eql32r b_eql32l b_neq32 b_neq32r b_neq32l b_lss32 b_lss32r b_lss32l b_leq32 b_leq32r b_leq32l b_gtr32 b_gtr32r b_gtr32l b_geq32 b_geq32r b_geq32l b_quo32r b_rem32r b_shl32r b_shr32r b_shl32l b_shr32l u_xor32 g_eql32 g_neq32 g_eql32' g_neq32' one64 st64 cm64 b_and64 b_and64r b_and64l b_or64 b_or64r b_or64l b_xor64 b_xor64r b_xor64l b_andNot64 b_andNot64r b_andNot64l b_add64 b_add64r b_add64l b_sub64 b_sub64r b_sub64l b_mul64 b_mul64r b_mul64l b_eql64 b_eql64r b_eql64l b_neq64 b_neq64r b_neq64l b_lss64 b_lss64r b_lss64l b_leq64 b_leq64r b_leq64l b_gtr64 b_gtr64r b_gtr64l b_geq64 b_geq64r b_geq64l b_quo64r b_rem64r b_shl64r b_shr64r b_shl64l b_shr64l u_xor64 g_eql64 g_neq64 g_eql64' g_neq64' c_u8_u8 c_u8_u32 c_u8_u64 c_i_u8 c_u32_u8 c_u32_u32 c_u32_u64 c_i_u32 c_u64_u8 c_u64_u32 c_u64_u64 c_i_u64 c_u8_i c_u32_i
attribute [local go_sem ↓] ce8 ce32 ce64
/-- Its cells. -/
def comeC (a b : Bs) (v : Value) : List Value := a.map V8 ++ (b.map V8 ++ [v])
def comeV (a b : Bs) (v : Value) : Value := .agg (comeC a b v).toArray
theorem comeC_len {a b : Bs} {v : Value} (ha : a.length = 32) (hb : b.length = 32) : (comeC a b v).length = 65 := by simp [comeC, ha, hb]
theorem loadO110 (p : Value) : Instr.loadAt 110 p = LoadO 110 p := rfl
theorem storeO110 (p v : Value) : Instr.storeAt 110 p v = StoreO 110 p v := rfl
theorem buildO110 (parts : Array (Nat × Value)) : Instr.build 110 parts = BuildO 110 parts := rfl
theorem info110 : (Tryd.prog.info? 110).map (·.size) = some 65 := by kernel_rfl
def comePlaces : Array (Nat × Nat) := #[(0, 32), (32, 32), (64, 1)]
theorem built110 (parts : List (Nat × Value)) : Tryd.prog.built 110 parts = Instr.fill (fun i => comePlaces[i]?) ((zeros 32).map V8 ++ ((zeros 32).map V8 ++ ([.slice none 0 0] : List Value))).toArray parts := by kernel_rfl
theorem built_come (a b : Bs) (ha : a.length = 32) (hb : b.length = 32) : Tryd.prog.built 110 [(0, dv a), (1, dv b)] = some (comeC a b (.slice none 0 0)).toArray := by
  have hz := zeros_length 32
  rw [built110]
  have hp0 : comePlaces[0]? = some (0, 32) := rfl
  have hp1 : comePlaces[1]? = some (32, 32) := rfl
  generalize zeros 32 = z at hz ⊢
  have h1 := fill_part (fun i => comePlaces[i]?) [] (z.map V8) (z.map V8 ++ [.slice none 0 0]) 0 (dv a) [(1, dv b)] (a.map V8) rfl (by simp only [List.length_nil, List.length_map, hz]; exact hp0) (by rw [List.length_map, List.length_map, ha, hz])
  have h2 := fill_part (fun i => comePlaces[i]?) (a.map V8) (z.map V8) [.slice none 0 0] 1 (dv b) [] (b.map V8) rfl (by simp only [List.length_map, hz, ha]; exact hp1) (by rw [List.length_map, List.length_map, hb, hz])
  rw [List.nil_append, List.nil_append] at h1
  rw [h1, h2]
  rfl
theorem run_come (a b : Bs) (ha : a.length = 32) (hb : b.length = 32) (w : World) : (BuildO 110 #[(0, dv a), (1, dv b)]).run Tryd.prog w = .ok (comeV a b (.slice none 0 0)) w := run_build w _ _ _ (built_come a b ha hb)
theorem comeC_one (a b : Bs) (v : Value) (hv : v.oneCell' = true) : ∀ u ∈ comeC a b v, u.oneCell' = true := by
  intro u hu
  unfold comeC at hu
  rcases List.mem_append.1 hu with h | h
  · obtain ⟨x, _, rfl⟩ := List.mem_map.1 h; exact one8 x
  · rcases List.mem_append.1 h with h | h
    · obtain ⟨x, _, rfl⟩ := List.mem_map.1 h; exact one8 x
    · rw [List.mem_singleton.1 h]; exact hv
/-- A come in a variable. -/
structure ComeAt (w : World) (g : Nat) (a b : Bs) (v : Value) : Prop where
  blk : w.heap[g]? = some (.cells (comeC a b v).toArray 110)
  la : a.length = 32
  lb : b.length = 32
  one : v.oneCell' = true
namespace ComeAt
variable {x w : World} {g : Nat} {a b : Bs} {v : Value}
theorem mod {S : List Nat} (h : ComeAt x g a b v) (m : Mod S x w) (hg : g ∉ S) : ComeAt w g a b v := ⟨m.get h.blk hg, h.la, h.lb, h.one⟩
theorem mod0 (h : ComeAt x g a b v) (m : Mod [] x w) : ComeAt w g a b v := h.mod m (by simp)
theorem load (h : ComeAt w g a b v) : (LoadO 110 (.pointer (some ⟨g, 0, none⟩))).run Tryd.prog w = .ok (comeV a b v) w :=
  loadO_mid (cs := comeC a b v) (range_blk h.blk 0 _ (fun j u hj => by rw [Nat.zero_add, List.getElem?_toArray]; exact hj)) Tryd.underlying110 rfl (by rw [comeC_len h.la h.lb]; exact info110)
theorem load0 (h : ComeAt w g a b v) : (LoadO 24 (.pointer (some ⟨g, 0, none⟩))).run Tryd.prog w = .ok (dv a) w := by
  have e : (a.map V8).length = 32 := by rw [List.length_map, h.la]
  refine loadO_mid (cs := a.map V8) (range_blk h.blk 0 _ (fun j u hj => ?_)) Tryd.underlying24 rfl (by rw [e]; exact info26)
  rw [Nat.zero_add, List.getElem?_toArray]
  unfold comeC
  rw [List.getElem?_append_left (List.getElem?_eq_some_iff.1 hj).1]; exact hj
theorem load1 (h : ComeAt w g a b v) : (LoadO 24 (.pointer (some ⟨g, 32, none⟩))).run Tryd.prog w = .ok (dv b) w := by
  have e : (b.map V8).length = 32 := by rw [List.length_map, h.lb]
  have e0 : (a.map V8).length = 32 := by rw [List.length_map, h.la]
  refine loadO_mid (cs := b.map V8) (range_blk h.blk 32 _ (fun j u hj => ?_)) Tryd.underlying24 rfl (by rw [e]; exact info26)
  rw [List.getElem?_toArray]
  unfold comeC
  rw [List.getElem?_append_right (by omega), e0, Nat.add_sub_cancel_left, List.getElem?_append_left (List.getElem?_eq_some_iff.1 hj).1]; exact hj
theorem c64 (h : ComeAt w g a b v) : w.cell? ⟨g, 64, none⟩ = some v := by
  have e : (b.map V8).length = 32 := by rw [List.length_map, h.lb]
  have e0 : (a.map V8).length = 32 := by rw [List.length_map, h.la]
  rw [cell_blk h.blk, List.getElem?_toArray]
  unfold comeC
  rw [List.getElem?_append_right (by omega), e0, List.getElem?_append_right (by omega), e]
  rfl
theorem f64 (h : ComeAt w g a b v) : w.frozen? ⟨g, 64, none⟩ = false := frozen_blk h.blk 64
theorem set64 (h : ComeAt w g a b v) (u : Value) (hu : u.oneCell' = true) : ComeAt (w.setCell ⟨g, 64, none⟩ u) g a b u := by
  have e : (b.map V8).length = 32 := by rw [List.length_map, h.lb]
  have e0 : (a.map V8).length = 32 := by rw [List.length_map, h.la]
  refine ⟨?_, h.la, h.lb, hu⟩
  have h1 := hp_sc (j := 64) (v := u) h.blk
  have e2 : (comeC a b v).toArray.setIfInBounds 64 u = (comeC a b u).toArray := by
    unfold comeC
    rw [List.setIfInBounds_toArray, List.set_append_right _ _ (by omega), e0, List.set_append_right _ _ (by omega), e]
    rfl
  rw [e2] at h1
  exact h1
theorem store0 (h : ComeAt w g a b v) (c : Bs) (hc : c.length = 32) : (StoreO 24 (.pointer (some ⟨g, 0, none⟩)) (dv c)).run Tryd.prog w = .ok () (w.setRow g (comeC c b v).toArray) ∧ ComeAt (w.setRow g (comeC c b v).toArray) g c b v := by
  have e0 : (a.map V8).length = 32 := by rw [List.length_map, h.la]
  have h1 : (c.map V8).toArray.size = 32 := by simp [hc]
  have hs := storeO_blk (P := Tryd.prog) (ty := 24) (o := 0) (cells := (c.map V8).toArray) h.blk (by rw [h1, List.size_toArray, comeC_len h.la h.lb]; omega) (by rw [h1]; exact info26) (by rw [Array.all_eq_true_iff_forall_mem]; intro v hv; simp at hv; obtain ⟨a, _, rfl⟩ := hv; exact one8 a)
  have e : ((comeC a b v).toArray.toList.take 0 ++ ((c.map V8).toArray.toList ++ (comeC a b v).toArray.toList.drop (0 + (c.map V8).toArray.size))).toArray = (comeC c b v).toArray := by
    rw [h1]
    unfold comeC
    rw [Nat.zero_add, List.take_zero, List.nil_append, List.drop_left' e0]
  rw [e] at hs
  exact ⟨hs, hp_setRow h.blk, hc, h.lb, h.one⟩
theorem store1 (h : ComeAt w g a b v) (c : Bs) (hc : c.length = 32) : (StoreO 24 (.pointer (some ⟨g, 32, none⟩)) (dv c)).run Tryd.prog w = .ok () (w.setRow g (comeC a c v).toArray) ∧ ComeAt (w.setRow g (comeC a c v).toArray) g a c v := by
  have e0 : (a.map V8).length = 32 := by rw [List.length_map, h.la]
  have e1 : (b.map V8).length = 32 := by rw [List.length_map, h.lb]
  have h1 : (c.map V8).toArray.size = 32 := by simp [hc]
  have hs := storeO_blk (P := Tryd.prog) (ty := 24) (o := 32) (cells := (c.map V8).toArray) h.blk (by rw [h1, List.size_toArray, comeC_len h.la h.lb]; omega) (by rw [h1]; exact info26) (by rw [Array.all_eq_true_iff_forall_mem]; intro v hv; simp at hv; obtain ⟨a, _, rfl⟩ := hv; exact one8 a)
  have e : ((comeC a b v).toArray.toList.take 32 ++ ((c.map V8).toArray.toList ++ (comeC a b v).toArray.toList.drop (32 + (c.map V8).toArray.size))).toArray = (comeC a c v).toArray := by
    rw [h1]
    unfold comeC
    rw [List.take_left' e0, ← List.drop_drop, List.drop_left' e0, List.drop_left' e1]
  rw [e] at hs
  exact ⟨hs, hp_setRow h.blk, h.la, hc, h.one⟩
end ComeAt
/-- Into a variable of its type. -/
theorem storeCome {w : World} {g : Nat} {Z : Array Value} (h : w.heap[g]? = some (.cells Z 110)) (hz : Z.size = 65) (a b : Bs) (v : Value) (ha : a.length = 32) (hb : b.length = 32) (hv : v.oneCell' = true) :
    (StoreO 110 (.pointer (some ⟨g, 0, none⟩)) (comeV a b v)).run Tryd.prog w = .ok () (w.setRow g (comeC a b v).toArray) ∧ ComeAt (w.setRow g (comeC a b v).toArray) g a b v :=
  ⟨storeO_row h (by rw [hz, List.size_toArray, comeC_len ha hb]) (by rw [List.size_toArray, comeC_len ha hb]; exact info110) (by rw [Array.all_eq_true_iff_forall_mem]; intro u hu; exact comeC_one a b v hv u (by simpa using hu)), hp_setRow h, ha, hb, hv⟩
end Go.Proofs.YtbbobpjcbnfpfaaDoor
