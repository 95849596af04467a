/- Entries, in plain words and in memory. No condition. -/
import Derived.Test.YtmdgefiojapogaaDoorDwAllI
namespace Go.Proofs.YtmdgefiojapogaaDoor
open Go.RowKit
attribute [local go_sem high] one8 st8 cm8 b_and8 b_and8r b_and8l b_or8 b_or8r b_or8l b_xor8 b_xor8r b_xor8l b_andNot8 b_andNot8r b_andNot8l b_add8 b_add8r b_add8l b_sub8 b_sub8r b_sub8l b_mul8 b_mul8r b_mul8l b_eql8 b_eql8r b_eql8l b_neq8 b_neq8r b_neq8l b_lss8 b_lss8r b_lss8l b_leq8 b_leq8r b_leq8l b_gtr8 b_gtr8r b_gtr8l b_geq8 b_geq8r b_geq8l b_quo8r b_rem8r b_shl8r b_shr8r b_shl8l b_shr8l u_xor8 g_eql8 g_neq8 g_eql8' g_neq8' one32 st32 cm32 b_and32 b_and32r b_and32l b_or32 b_or32r b_or32l b_xor32 b_xor32r b_xor32l b_andNot32 b_andNot32r b_andNot32l b_add32 b_add32r b_add32l b_sub32 b_sub32r b_sub32l b_mul32 b_mul32r b_mul32l b_eql32 b_eql32r b_eql32l b_neq32 b_neq32r b_neq32l b_lss32 b_lss32r b_lss32l b_leq32 b_leq32r b_leq32l b_gtr32 b_gtr32r b_gtr32l b_geq32 b_geq32r b_geq32l b_quo32r b_rem32r b_shl32r b_shr32r b_shl32l b_shr32l u_xor32 g_eql32 g_neq32 g_eql32' g_neq32' one64 st64 cm64 b_and64 b_and64r b_and64l b_or64 b_or64r b_or64l b_xor64 b_xor64r b_xor64l b_andNot64 b_andNot64r b_andNot64l b_add64 b_add64r b_add64l b_sub64 b_sub64r b_sub64l b_mul64 b_mul64r b_mul64l b_eql64 b_eql64r b_eql64l b_neq64 b_neq64r b_neq64l b_lss64 b_lss64r b_lss64l b_leq64 b_leq64r b_leq64l b_gtr64 b_gtr64r b_gtr64l b_geq64 b_geq64r b_geq64l b_quo64r b_rem64r b_shl64r b_shr64r b_shl64l b_shr64l u_xor64 g_eql64 g_neq64 g_eql64' g_neq64' c_u8_u8 c_u8_u32 c_u8_u64 c_i_u8 c_u32_u8 c_u32_u32 c_u32_u64 c_i_u32 c_u64_u8 c_u64_u32 c_u64_u64 c_i_u64 c_u8_i c_u32_i
attribute [local go_sem ↓] ce8 ce32 ce64
abbrev Bs := List UInt8
/-- An entry. -/
structure En where
  kind : Int
  snd : Bs
  time : Int
  tok : Int
  to : Bs
  amt : List UInt64
  gas : Int
  body : SlR
namespace En
def cells (x : En) : List Value := [.int .i64 x.kind] ++ (x.snd.map V8 ++ ([.int .i64 x.time, .int .i64 x.tok] ++ (x.to.map V8 ++ (x.amt.map V64 ++ [.int .i64 x.gas, x.body.v]))))
/-- What holds of each one's parts. -/
structure Ln (x : En) : Prop where
  s20 : x.snd.length = 20
  t20 : x.to.length = 20
  a4 : x.amt.length = 4
theorem cells_len {x : En} (h : x.Ln) : x.cells.length = 49 := by simp [cells, h.s20, h.t20, h.a4]
def timeOk (x : En) : Bool := decide (0 ≤ x.time ∧ x.time ≤ 4611686018427387904)
def tokOk (x : En) : Bool := decide (0 ≤ x.tok ∧ x.tok ≤ 63)
def gasOk (x : En) : Bool := decide (0 ≤ x.gas ∧ x.gas ≤ 1099511627776)
def fine (x : En) : Bool :=
  if x.kind = 1 then x.timeOk && x.tokOk && !(x.amt == [0, 0, 0, 0]) && x.gasOk && decide (x.body.d.length = 0)
  else if x.kind = 2 then x.timeOk && decide (x.tok = 0) && (x.to == zeros 20) && (x.amt == [0, 0, 0, 0]) && decide (x.gas = 0) && decide (x.body.d.length ≤ 4096)
  else false
def chk (x : En) : Int := if x.fine then 0 else 63
end En
/-- Where an entry lies in a row. -/
structure EnAt (w : World) (b o : Nat) (x : En) : Prop where
  c0 : w.cell? ⟨b, o, none⟩ = some (.int .i64 x.kind)
  l1 : (LoadO 30 (.pointer (some ⟨b, o + 1, none⟩))).run Tryd.prog w = .ok (.agg (x.snd.map V8).toArray) w
  c21 : w.cell? ⟨b, o + 21, none⟩ = some (.int .i64 x.time)
  c22 : w.cell? ⟨b, o + 22, none⟩ = some (.int .i64 x.tok)
  l23 : (LoadO 30 (.pointer (some ⟨b, o + 23, none⟩))).run Tryd.prog w = .ok (.agg (x.to.map V8).toArray) w
  l43 : (LoadO 33 (.pointer (some ⟨b, o + 43, none⟩))).run Tryd.prog w = .ok (.agg (x.amt.map V64).toArray) w
  c47 : w.cell? ⟨b, o + 47, none⟩ = some (.int .i64 x.gas)
  c48 : w.cell? ⟨b, o + 48, none⟩ = some x.body.v
  ln : (LoadO 35 (.pointer (some ⟨b, o, none⟩))).run Tryd.prog w = .ok (.agg x.cells.toArray) w
theorem infoAd : (Tryd.prog.info? 30).map (·.size) = some 20 := by kernel_rfl
theorem infoEn : (Tryd.prog.info? 35).map (·.size) = some 49 := by kernel_rfl
theorem range_part {w : World} {b o k : Nat} {A B C : List Value} (h : w.rangeAt b o (A ++ (B ++ C))) (hk : A.length = k) : w.rangeAt b (o + k) B := fun j v hv => by
  have hj := (List.getElem?_eq_some_iff.1 hv).1
  have h1 := h (k + j) v (by rw [List.getElem?_append_right (by omega), hk, Nat.add_sub_cancel_left, List.getElem?_append_left hj]; exact hv)
  rw [← Nat.add_assoc] at h1
  exact h1
theorem enAt {w : World} {b o : Nat} {x : En} (hl : x.Ln) (h : w.rangeAt b o x.cells) : EnAt w b o x := by
  have l1 := hl.s20
  have l2 := hl.t20
  have l3 := hl.a4
  have hc : ∀ j v, x.cells[j]? = some v → w.cell? ⟨b, o + j, none⟩ = some v := h
  have e1 : x.cells[21]? = some (.int .i64 x.time) := by
    unfold En.cells
    rw [List.getElem?_append_right (by simp), List.getElem?_append_right (by simp [l1])]
    simp [l1]
  have e2 : x.cells[22]? = some (.int .i64 x.tok) := by
    unfold En.cells
    rw [List.getElem?_append_right (by simp), List.getElem?_append_right (by simp [l1])]
    simp [l1]
  have e3 : x.cells[47]? = some (.int .i64 x.gas) := by
    unfold En.cells
    simp [List.getElem?_append_right, l1, l2, l3]
  have e4 : x.cells[48]? = some x.body.v := by
    unfold En.cells
    simp [List.getElem?_append_right, l1, l2, l3]
  have p1 : x.cells = [.int .i64 x.kind] ++ (x.snd.map V8 ++ ([.int .i64 x.time, .int .i64 x.tok] ++ (x.to.map V8 ++ (x.amt.map V64 ++ [.int .i64 x.gas, x.body.v])))) := rfl
  have p2 : x.cells = ([.int .i64 x.kind] ++ (x.snd.map V8 ++ [.int .i64 x.time, .int .i64 x.tok])) ++ (x.to.map V8 ++ (x.amt.map V64 ++ [.int .i64 x.gas, x.body.v])) := by simp [En.cells]
  have p3 : x.cells = ([.int .i64 x.kind] ++ (x.snd.map V8 ++ ([.int .i64 x.time, .int .i64 x.tok] ++ x.to.map V8))) ++ (x.amt.map V64 ++ [.int .i64 x.gas, x.body.v]) := by simp [En.cells]
  refine ⟨hc 0 _ rfl, ?_, hc 21 _ e1, hc 22 _ e2, ?_, ?_, hc 47 _ e3, hc 48 _ e4, ?_⟩
  · rw [p1] at h
    exact loadO_mid (range_part (k := 1) h rfl) Tryd.underlying30 rfl (by rw [List.length_map, l1]; exact infoAd)
  · rw [p2] at h
    exact loadO_mid (range_part (k := 23) h (by simp [l1])) Tryd.underlying30 rfl (by rw [List.length_map, l2]; exact infoAd)
  · rw [p3] at h
    exact loadO_mid (range_part (k := 43) h (by simp [l1, l2])) Tryd.underlying33 rfl (by rw [List.length_map, l3]; exact infoWd)
  · exact loadO_mid h Tryd.underlying35 rfl (by rw [En.cells_len hl]; exact infoEn)
theorem enBox {w : World} {b : Nat} {x : En} {t : TypeId} {fr : Nat × Nat} (hl : x.Ln) (hg : w.heap[b]? = some (.cells x.cells.toArray t fr)) : EnAt w b 0 x :=
  enAt hl (range_blk hg 0 x.cells (fun j v hv => by simpa using hv))
end Go.Proofs.YtmdgefiojapogaaDoor
