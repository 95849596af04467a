/- The book in memory: how an entry is put together, read, written (LadderOnce). No condition. -/
import Derived.Test.YtmjdfglidfdkaaaLoBook
import Derived.Test.YtmjdfglidfdkaaaLwWin3
namespace Go.Proofs.Ytmjdfglidfdkaaa
open Go.RowKit
attribute [local go_sem high] one8 st8 cm8 b_and8 b_and8r b_and8l b_or8 b_or8r b_or8l b_xor8 b_xor8r b_xor8l b_andNot8 b_andNot8r b_andNot8l b_add8 b_add8r b_add8l b_sub8 b_sub8r b_sub8l b_mul8 b_mul8r b_mul8l b_eql8 b_eql8r b_eql8l b_neq8 b_neq8r b_neq8l b_lss8 b_lss8r b_lss8l b_leq8 b_leq8r b_leq8l b_gtr8 b_gtr8r b_gtr8l b_geq8 b_geq8r b_geq8l b_quo8r b_rem8r b_shl8r b_shr8r b_shl8l b_shr8l u_xor8 g_eql8 g_neq8 g_eql8' g_neq8' one32 st32 cm32 b_and32 b_and32r b_and32l b_or32 b_or32r b_or32l b_xor32 b_xor32r b_xor32l b_andNot32 b_andNot32r b_andNot32l b_add32 b_add32r b_add32l b_sub32 b_sub32r b_sub32l b_mul32 b_mul32r b_mul32l b_eql32 b_eql32r b_eql32l b_neq32 b_neq32r b_neq32l b_lss32 b_lss32r b_lss32l b_leq32 b_leq32r b_leq32l b_gtr32 b_gtr32r b_gtr32l b_geq32 b_geq32r b_geq32l b_quo32r b_rem32r b_shl32r b_shr32r b_shl32l b_shr32l u_xor32 g_eql32 g_neq32 g_eql32' g_neq32' one64 st64 cm64 b_and64 b_and64r b_and64l b_or64 b_or64r b_or64l b_xor64 b_xor64r b_xor64l b_andNot64 b_andNot64r b_andNot64l b_add64 b_add64r b_add64l b_sub64 b_sub64r b_sub64l b_mul64 b_mul64r b_mul64l b_eql64 b_eql64r b_eql64l b_neq64 b_neq64r b_neq64l b_lss64 b_lss64r b_lss64l b_leq64 b_leq64r b_leq64l b_gtr64 b_gtr64r b_gtr64l b_geq64 b_geq64r b_geq64l b_quo64r b_rem64r b_shl64r b_shr64r b_shl64l b_shr64l u_xor64 g_eql64 g_neq64 g_eql64' g_neq64' c_u8_u8 c_u8_u32 c_u8_u64 c_i_u8 c_u32_u8 c_u32_u32 c_u32_u64 c_i_u32 c_u64_u8 c_u64_u32 c_u64_u64 c_i_u64 c_u8_i c_u32_i
attribute [local go_sem ↓] ce8 ce32 ce64
def bv (b : Bk) : Value := .agg b.cells.toArray
def Bk.zero : Bk := ⟨Cm.zero, z20, 0, 0⟩
theorem Bk.one (b : Bk) : ∀ u ∈ b.cells, u.oneCell' = true := by
  intro u hu
  simp only [Bk.cells, List.mem_cons, List.mem_append, List.mem_map, List.not_mem_nil, or_false] at hu
  rcases hu with hu | ⟨x, _, rfl⟩ | rfl | rfl
  · exact b.commit.one u hu
  · exact one8 x
  · rfl
  · rfl
theorem infoBk' : (Try.prog.info? 60).map (·.size) = some 88 := by kernel_rfl
def bkPlaces : Array (Nat × Nat) := #[(0, 66), (66, 20), (86, 1), (87, 1)]
theorem built60 (parts : List (Nat × Value)) : Try.prog.built 60 parts = Instr.fill (fun i => bkPlaces[i]?) Bk.zero.cells.toArray parts := by kernel_rfl
theorem built_bk (c : Cm) (a : A20) (t : Int) : Try.prog.built 60 [(0, cv c), (1, av a), (2, .int .i64 t)] = some (Bk.cells ⟨c, a, t, 0⟩).toArray := by
  rw [built60]
  have h0 := fill_part (fun i => bkPlaces[i]?) [] Cm.zero.cells (z20.1.map V8 ++ [Value.int .i64 0, Value.int .i64 0]) 0 (cv c) [(1, av a), (2, .int .i64 t)] c.cells rfl (by rw [Cm.zero.len]; rfl) (by rw [c.len, Cm.zero.len])
  have h1 := fill_part (fun i => bkPlaces[i]?) c.cells (z20.1.map V8) [Value.int .i64 0, Value.int .i64 0] 1 (av a) [(2, .int .i64 t)] (a.1.map V8) rfl (by rw [c.len, List.length_map, z20.2]; rfl) (by rw [List.length_map, List.length_map, a.2, z20.2])
  have h2 := fill_part (fun i => bkPlaces[i]?) (c.cells ++ a.1.map V8) [Value.int .i64 0] [Value.int .i64 0] 2 (.int .i64 t) [] [Value.int .i64 t] rfl (by rw [List.length_append, c.len, List.length_map, a.2]; rfl) rfl
  simp only [List.cons_append, List.nil_append, List.append_assoc] at h0 h1 h2
  exact h0.trans (h1.trans (h2.trans rfl))
theorem run_bk (c : Cm) (a : A20) (t : Int) (w : World) : (BuildO 60 #[(0, cv c), (1, av a), (2, .int .i64 t)]).run Try.prog w = .ok (bv ⟨c, a, t, 0⟩) w :=
  run_build w _ _ _ (built_bk c a t)
theorem loadBk {w : World} {b o : Nat} {x : Bk} (h : w.rangeAt b o x.cells) : (LoadO 60 (.pointer (some ⟨b, o, none⟩))).run Try.prog w = .ok (bv x) w :=
  loadO_mid h Try.underlying60 rfl (by rw [x.len]; exact infoBk')
theorem storeNewBk (w : World) (c : Bk) (Z : Array Value) (hZ : Z.size = 88) : (StoreO 60 (.pointer (some ⟨w.heap.size, 0, none⟩)) (bv c)).run Try.prog (w.alloc (.cells Z 60)) = .ok () (w.alloc (.cells c.cells.toArray 60)) := by
  have h := storeO_row (P := Try.prog) (ty := 60) (cells := c.cells.toArray) (hp_new w (.cells Z 60) _ rfl) (by simp [hZ, c.len]) (by simp [c.len, infoBk']) (by simpa using c.one)
  rw [setRow_alloc_at _ _ _ _ _ rfl] at h
  exact h
theorem infoBk : (Try.prog.info? 60).map (fun i => (i.zero, i.size)) = some (some (bv Bk.zero), 88) := by kernel_rfl
/-- A list of one entry. -/
theorem run_slBk (w : World) (p : Bk) : (BuildSlO 58 1 #[(0, bv p)]).run Try.prog w = .ok (.slice (some ⟨w.heap.size, 0, none⟩) 1 1) (w.alloc (.cells p.cells.toArray 60)) := by
  have hu := Try.underlying58
  obtain ⟨i0, hi, hz⟩ := Option.map_eq_some_iff.1 infoBk
  simp only [Prod.mk.injEq] at hz
  obtain ⟨hz0, hz1⟩ := hz
  have hfill : Instr.fill (fun i => some (i * 88, 88)) ((Array.range (1 * 88)).map ((bv Bk.zero).cells[· % (bv Bk.zero).cells.size]!)) [(0, bv p)] = some p.cells.toArray := by
    have e : ((Array.range (1 * 88)).map ((bv Bk.zero).cells[· % (bv Bk.zero).cells.size]!)) = ([] ++ (Bk.zero.cells ++ [])).toArray := by kernel_rfl
    rw [e, fill_part _ [] Bk.zero.cells [] 0 (bv p) [] p.cells rfl (by rw [Bk.zero.len]; rfl) (by rw [p.len, Bk.zero.len])]
    simp [Instr.fill]
  unfold BuildSlO Instr.buildSlice
  simp [run_underlying hu, sizeOf, typeInfo, hi, hz1, zeroValue, hz0]
  rw [show (Array.map (fun x => (bv Bk.zero).cells[x % (bv Bk.zero).cells.size]!) (Array.range 88)) = (Array.range (1 * 88)).map ((bv Bk.zero).cells[· % (bv Bk.zero).cells.size]!) from rfl, hfill]
  simp [newRow]
end Go.Proofs.Ytmjdfglidfdkaaa
