/- A ladder in memory; count, time, Clone. No condition. -/
import Derived.Test.YtmjdfglidfdkaaaLdPure
import Derived.Test.YtmjdfglidfdkaaaRows
namespace Go.Proofs.Ytmjdfglidfdkaaa
open Go.RowKit
attribute [local go_sem high] one8 st8 cm8 b_and8 b_and8r b_and8l b_or8 b_or8r b_or8l b_xor8 b_xor8r b_xor8l b_andNot8 b_andNot8r b_andNot8l b_add8 b_add8r b_add8l b_sub8 b_sub8r b_sub8l b_mul8 b_mul8r b_mul8l b_eql8 b_eql8r b_eql8l b_neq8 b_neq8r b_neq8l b_lss8 b_lss8r b_lss8l b_leq8 b_leq8r b_leq8l b_gtr8 b_gtr8r b_gtr8l b_geq8 b_geq8r b_geq8l b_quo8r b_rem8r b_shl8r b_shr8r b_shl8l b_shr8l u_xor8 g_eql8 g_neq8 g_eql8' g_neq8' one32 st32 cm32 b_and32 b_and32r b_and32l b_or32 b_or32r b_or32l b_xor32 b_xor32r b_xor32l b_andNot32 b_andNot32r b_andNot32l b_add32 b_add32r b_add32l b_sub32 b_sub32r b_sub32l b_mul32 b_mul32r b_mul32l b_eql32 b_eql32r b_eql32l b_neq32 b_neq32r b_neq32l b_lss32 b_lss32r b_lss32l b_leq32 b_leq32r b_leq32l b_gtr32 b_gtr32r b_gtr32l b_geq32 b_geq32r b_geq32l b_quo32r b_rem32r b_shl32r b_shr32r b_shl32l b_shr32l u_xor32 g_eql32 g_neq32 g_eql32' g_neq32' one64 st64 cm64 b_and64 b_and64r b_and64l b_or64 b_or64r b_or64l b_xor64 b_xor64r b_xor64l b_andNot64 b_andNot64r b_andNot64l b_add64 b_add64r b_add64l b_sub64 b_sub64r b_sub64l b_mul64 b_mul64r b_mul64l b_eql64 b_eql64r b_eql64l b_neq64 b_neq64r b_neq64l b_lss64 b_lss64r b_lss64l b_leq64 b_leq64r b_leq64l b_gtr64 b_gtr64r b_gtr64l b_geq64 b_geq64r b_geq64l b_quo64r b_rem64r b_shl64r b_shr64r b_shl64l b_shr64l u_xor64 g_eql64 g_neq64 g_eql64' g_neq64' c_u8_u8 c_u8_u32 c_u8_u64 c_i_u8 c_u32_u8 c_u32_u32 c_u32_u64 c_i_u32 c_u64_u8 c_u64_u32 c_u64_u64 c_i_u64 c_u8_i c_u32_i
attribute [local go_sem ↓] ce8 ce32 ce64
theorem loadO25 (p : Value) : Instr.loadAt 25 p = LoadO 25 p := rfl
theorem storeO25 (p v : Value) : Instr.storeAt 25 p v = StoreO 25 p v := rfl
theorem loadO44 (p : Value) : Instr.loadAt 44 p = LoadO 44 p := rfl
theorem storeO44 (p v : Value) : Instr.storeAt 44 p v = StoreO 44 p v := rfl
theorem loadO35 (p : Value) : Instr.loadAt 35 p = LoadO 35 p := rfl
theorem loadO84 (p : Value) : Instr.loadAt 84 p = LoadO 84 p := rfl
theorem storeO84 (p v : Value) : Instr.storeAt 84 p v = StoreO 84 p v := rfl
attribute [local go_sem ↓] sliced_slp loadO25 storeO25 loadO44 storeO44 loadO35 loadO84 storeO84
def cv (c : Cm) : Value := .agg c.cells.toArray
def pv (p : Pd) : Value := .agg p.cells.toArray
def av (a : A20) : Value := .agg (a.1.map V8).toArray
theorem infoPd : (Try.prog.info? 44).map (fun i => (i.zero, i.size, i.bytes)) = some (some (pv Pd.zero), 90, 136) := by kernel_rfl
theorem infoCm : (Try.prog.info? 25).map (fun i => (i.zero, i.size, i.bytes)) = some (some (cv Cm.zero), 66, 80) := by kernel_rfl
theorem infoPd' : (Try.prog.info? 44).map (·.size) = some 90 := by kernel_rfl
theorem infoCm' : (Try.prog.info? 25).map (·.size) = some 66 := by kernel_rfl
theorem infoAd' : (Try.prog.info? 35).map (·.size) = some 20 := by kernel_rfl
theorem infoLd' : (Try.prog.info? 84).map (·.size) = some 70 := by kernel_rfl
/-- A list of pending ones of the call's own. -/
abbrev OwnP (w : World) (B : Nat) (v : Value) (l : List Pd) : Prop := OwnN 44 90 Pd.cells w B v l
abbrev RdP (w : World) (p : Option Addr) (cap : Nat) (l : List Pd) : Prop := RdN 90 Pd.cells w p cap l
def lcells (v : Value) (L : Lad) : List Value := L.confirmed.cells ++ [v, .int .i64 L.window, .int .i64 L.given, .int .i64 L.last]
theorem lcells_length (v : Value) (L : Lad) : (lcells v L).length = 70 := by simp [lcells, L.confirmed.len]
theorem lcells_tail (v : Value) (L : Lad) (j : Nat) : (lcells v L)[66 + j]? = ([v, .int .i64 L.window, .int .i64 L.given, .int .i64 L.last] : List Value)[j]? := by
  unfold lcells
  rw [List.getElem?_append_right (by rw [L.confirmed.len]; omega), L.confirmed.len, Nat.add_sub_cancel_left]
theorem lcells_head (v : Value) (L : Lad) (j : Nat) (u : Value) (h : L.confirmed.cells[j]? = some u) : (lcells v L)[j]? = some u := by
  unfold lcells
  rw [List.getElem?_append_left (List.getElem?_eq_some_iff.1 h).1, h]
/-- The ladder L lies in block g; v: its list of pending ones. -/
structure IsL (w : World) (B g : Nat) (v : Value) (L : Lad) : Prop where
  base : B ≤ g
  blk : w.heap[g]? = some (.cells (lcells v L).toArray 84 (0, 0))
  own : OwnP w B v L.pending
namespace IsL
variable {a w : World} {B g : Nat} {v : Value} {L : Lad}
theorem lt (h : IsL w B g v L) : g < w.heap.size := lt_of_block h.blk
theorem cell (h : IsL w B g v L) (j : Nat) (u : Value) (hu : (lcells v L)[j]? = some u) : w.cell? ⟨g, j, none⟩ = some u := by
  rw [cell_blk h.blk, List.getElem?_toArray]; exact hu
theorem c66 (h : IsL w B g v L) : w.cell? ⟨g, 66, none⟩ = some v := h.cell 66 _ (lcells_tail v L 0)
theorem c67 (h : IsL w B g v L) : w.cell? ⟨g, 67, none⟩ = some (.int .i64 L.window) := h.cell 67 _ (lcells_tail v L 1)
theorem c68 (h : IsL w B g v L) : w.cell? ⟨g, 68, none⟩ = some (.int .i64 L.given) := h.cell 68 _ (lcells_tail v L 2)
theorem c69 (h : IsL w B g v L) : w.cell? ⟨g, 69, none⟩ = some (.int .i64 L.last) := h.cell 69 _ (lcells_tail v L 3)
theorem frz (h : IsL w B g v L) (j : Nat) : w.frozen? ⟨g, j, none⟩ = false := frozen_blk h.blk j
theorem conf (h : IsL w B g v L) : w.rangeAt g 0 L.confirmed.cells := range_blk h.blk 0 _ (fun j u hu => by rw [Nat.zero_add, List.getElem?_toArray]; exact lcells_head v L j u hu)
theorem mod {S : List Nat} (h : IsL a B g v L) (hm : Mod S a w) (hg : g ∉ S) (hs : ∀ x ∈ S, v.ownBlock ≠ some x) : IsL w B g v L := ⟨h.base, hm.get h.blk hg, h.own.mod hm hs⟩
theorem mod0 (h : IsL a B g v L) (hm : Mod [] a w) : IsL w B g v L := h.mod hm (by simp) (by simp)
/-- The ladder's own block and its list's are two. -/
theorem ne (h : IsL w B g v L) : v.ownBlock ≠ some g := by
  intro hv
  obtain ⟨C, hb⟩ := h.own.type g hv
  have := h.blk
  rw [hb] at this; injection this with this; injection this with _ h2 _
  exact absurd h2 (by decide)
end IsL
/-- The blocks of a ladder. -/
def foot (g : Nat) (v : Value) : List Nat := g :: v.ownBlock.toList
theorem mem_foot {g x : Nat} {v : Value} : x ∈ foot g v ↔ x = g ∨ v.ownBlock = some x := by simp [foot, Option.mem_toList]
theorem count_any (n : Int) (w : World) : Calls Try.prog 37 #[.int .i64 n] w fun e w' => e = .returned (.bool (cnt n)) ∧ w = w' := by
  unfold cnt
  by_cases h : 0 ≤ n
  · have h1 : decide (0 ≤ n) = true := by simpa using h
    rw [h1]
    go_enter Try.func37, Try.ntmps37
    go_wp2
    go_ret
    exact ⟨by simp, rfl⟩
  · have h1 : decide (0 ≤ n) = false := by simpa using h
    rw [h1]
    go_enter Try.func37, Try.ntmps37
    go_wp2
    go_ret
    exact ⟨by simp, rfl⟩
theorem time_any (n : Int) (w : World) : Calls Try.prog 40 #[.int .i64 n] w fun e w' => e = .returned (.bool (tim n)) ∧ w = w' := by
  unfold tim
  by_cases h : 0 ≤ n
  · have h1 : decide (0 ≤ n) = true := by simpa using h
    rw [h1]
    go_enter Try.func40, Try.ntmps40
    go_wp2
    go_ret
    exact ⟨by simp, rfl⟩
  · have h1 : decide (0 ≤ n) = false := by simpa using h
    rw [h1]
    go_enter Try.func40, Try.ntmps40
    go_wp2
    go_ret
    exact ⟨by simp, rfl⟩
/-- A list of its own is handed back. -/
def CloneP (w : World) (l : List Pd) (e : Ending) (w' : World) : Prop := ∃ v, e = .returned v ∧ OwnP w' w.heap.size v l ∧ Mod [] w w'
theorem froz_app {P : Program} {ops : Array Oper} {rest : List Oper} {o : Oper} {a : Act} {w : World} {Q : Exit → Act → World → Prop} (args : Array Operand) (ats : Array TypeId) (ho : o.op = .call { callee := .builtin .append, args := args, argTypes := ats })
    (h : Froz (wpList P ops Q (o :: rest) a w)) : wpList P ops Q (o :: rest) a w := h
theorem clone_any (p : Option Addr) (cap n : Nat) (l : List Pd) (w : World) (hr : RdP w p cap l) (hn : n = l.length) (hl : l.length ≤ 1048576) :
    Calls Try.prog 38 #[.slice p n cap] w (CloneP w l) := by
  subst hn
  cases p with
  | none =>
    have hl0 : l = [] := by
      cases l with
      | nil => rfl
      | cons x l => obtain ⟨_, _, h, _⟩ := hr.at_ (by simp); cases h
    subst hl0
    clear hr hl
    have hq := fun (w : World) => Lib.run_eql_slice_nil (P := Try.prog) w 38 44 none 0 cap 0 0 Try.underlying38
    go_enter Try.func38, Try.ntmps38
    go_wp2
    go_ret
    exact ⟨_, rfl, OwnN.nil _ _ _ _ _, Mod.refl _ _⟩
  | some ad =>
    have HR := Lib.hid hr
    have HL := Lib.hid hl
    clear hr hl
    have hq := fun (w : World) => Lib.run_eql_slice_nil (P := Try.prog) w 38 44 (some ad) l.length cap 0 0 Try.underlying38
    go_enter Try.func38, Try.ntmps38
    go_wp2_with (at_builtin; with_reducible refine froz_app _ _ rfl ?_)
    unfold Froz
    have hown : OwnP (w.alloc (.cells #[] 44)) w.heap.size (.slice (some ⟨w.heap.size, 0, none⟩) 0 0) [] :=
      ⟨rfl, .inr ⟨w.heap.size, 0, #[], rfl, Nat.le_refl _, hp_new _ _ _ rfl, Nat.le_refl _, Nat.zero_le _, rfl, rfl⟩⟩
    cases l with
    | nil =>
      refine wpList_pushN0 (pv Pd.zero) 136 Try.underlying38 infoPd rfl _ _ rfl w.heap.size _ [] hown rfl (some ad) cap rfl ?_
      go_wp2
      go_ret
      exact ⟨_, rfl, hown, (Mod.refl _ _).alloc _⟩
    | cons x l =>
      obtain ⟨b, o, hp, hrg⟩ := HR.out.at_ (by simp)
      injection hp with hp
      subst hp
      have hrg2 : (w.alloc (.cells #[] 44)).rangeAt b o ((x :: l).flatMap Pd.cells) := range_mod ((Mod.refl [] w).alloc _) hrg (by simp)
      have hl := HL.out
      refine wpList_pushN (pv Pd.zero) 136 Try.underlying38 infoPd (by rw [pv]; exact Pd.zero.len) (by decide) Pd.len Pd.one rfl _ _ rfl w.heap.size _ [] hown rfl b o _ cap (x :: l) rfl rfl hrg2 (by unfold maxLen; simp at hl ⊢; omega) (by simp at hl ⊢; omega) (by simp) ?_
      intro v' w' ho hg
      have HO := Lib.hid ho
      have HG := Lib.hid hg
      clear ho hg hrg hrg2 hl
      go_wp2
      go_ret
      refine ⟨_, rfl, HO.out, ((Mod.refl _ _).alloc _).of_grown HG.out (fun g hg => .inr ?_)⟩
      injection hg with hg
      simp only at hg
      omega
end Go.Proofs.Ytmjdfglidfdkaaa
