/- try of a reader. Condition: at most 2^22 bytes. -/
import Derived.Test.YtnmcbdppbpfegaaRrNum
import Derived.Defers
import Derived.Recover
namespace Go.Proofs.Ytnmcbdppbpfegaa
open Go.RowKit
attribute [local go_sem high] one8 st8 cm8 b_and8 b_and8r b_and8l b_or8 b_or8r b_or8l b_xor8 b_xor8r b_xor8l b_andNot8 b_andNot8r b_andNot8l b_add8 b_add8r b_add8l b_sub8 b_sub8r b_sub8l b_mul8 b_mul8r b_mul8l b_eql8 b_eql8r b_eql8l b_neq8 b_neq8r b_neq8l b_lss8 b_lss8r b_lss8l b_leq8 b_leq8r b_leq8l b_gtr8 b_gtr8r b_gtr8l b_geq8 b_geq8r b_geq8l b_quo8r b_rem8r b_shl8r b_shr8r b_shl8l b_shr8l u_xor8 g_eql8 g_neq8 g_eql8' g_neq8' one32 st32 cm32 b_and32 b_and32r b_and32l b_or32 b_or32r b_or32l b_xor32 b_xor32r b_xor32l b_andNot32 b_andNot32r b_andNot32l b_add32 b_add32r b_add32l b_sub32 b_sub32r b_sub32l b_mul32 b_mul32r b_mul32l b_eql32 b_eql32r b_eql32l b_neq32 b_neq32r b_neq32l b_lss32 b_lss32r b_lss32l b_leq32 b_leq32r b_leq32l b_gtr32 b_gtr32r b_gtr32l b_geq32 b_geq32r b_geq32l b_quo32r b_rem32r b_shl32r b_shr32r b_shl32l b_shr32l u_xor32 g_eql32 g_neq32 g_eql32' g_neq32' one64 st64 cm64 b_and64 b_and64r b_and64l b_or64 b_or64r b_or64l b_xor64 b_xor64r b_xor64l b_andNot64 b_andNot64r b_andNot64l b_add64 b_add64r b_add64l b_sub64 b_sub64r b_sub64l b_mul64 b_mul64r b_mul64l b_eql64 b_eql64r b_eql64l b_neq64 b_neq64r b_neq64l b_lss64 b_lss64r b_lss64l b_leq64 b_leq64r b_leq64l b_gtr64 b_gtr64r b_gtr64l b_geq64 b_geq64r b_geq64l b_quo64r b_rem64r b_shl64r b_shr64r b_shl64l b_shr64l u_xor64 g_eql64 g_neq64 g_eql64' g_neq64' c_u8_u8 c_u8_u32 c_u8_u64 c_i_u8 c_u32_u8 c_u32_u32 c_u32_u64 c_i_u32 c_u64_u8 c_u64_u32 c_u64_u64 c_i_u64 c_u8_i c_u32_i
attribute [local go_sem ↓] ce8 ce32 ce64
attribute [local go_sem ↓] sliced_slp
theorem catch_arr (a b x : Value) : (#[a, b] ++ ((Array.replicate 23 undef).setIfInBounds 3 x).setIfInBounds 0 x : Array Value) = #[a, b, x, undef, undef, x, undef, undef, undef, undef, undef, undef, undef, undef, undef, undef, undef, undef, undef, undef, undef, undef, undef, undef, undef] := by kernel_rfl
theorem cell?_old (w : World) (o : Obj) (b j : Nat) (u : Value) (h : w.cell? ⟨b, j, none⟩ = some u) : (w.alloc o).cell? ⟨b, j, none⟩ = some u := by
  rw [World.cell?_of_block (w := w) (Below.heap_alloc w o b (block_lt_of_cell h))]; exact h
theorem assert_torn (er : Int) (w : World) : (Instr.typeAssert (.iface 110 (.agg #[.int .i64 er])) 20 110 true).run Try.prog w = .ok (.tuple #[.agg #[.int .i64 er], .bool true]) w := by
  unfold Instr.typeAssert
  simp [run_underlying Try.underlying110]
set_option maxRecDepth 100000 in
/-- What is left behind a look that gave up: the place as it was, the fault. -/
theorem catch_torn (B g ba br : Nat) (v : Value) (R : Rr) (er : Int) (n0 : Nat) (older : List PanicEntry) (w : World) (h : IsR w B g v R) (hn : n0 ≤ R.b.length) (ha : w.cell? ⟨ba, 0, none⟩ = some (.int .i64 n0)) (hb : w.cell? ⟨br, 0, none⟩ = some (.pointer (some ⟨g, 0, none⟩))) (h1 : ba ≠ g) (h2 : br ≠ g) :
    CallsD Try.prog 81 #[.pointer (some ⟨ba, 0, none⟩), .pointer (some ⟨br, 0, none⟩)] (.panicking ({ v := torn er, recovered := false } :: older)) w fun e u' w' =>
      e = .returned (.tuple #[]) ∧ u' = .panicking ({ v := torn er, recovered := true } :: older) ∧ IsR w' B g v ⟨R.b, n0, er⟩ ∧ Mod [g] w w' := by
  have H := Lib.hid h
  unfold torn
  refine callsD_of_wpS Try.func81 rfl fun c₀ cs hu => ?_
  apply wpS_seq
  apply wpS_region
  simp [wpOpsS, go_sem, recoverD, hu, Try.ntmps81, Exit.thenS]
  refine wpS_of_wp ?_
  rw [catch_arr]
  have hta := assert_torn er
  have q1 := fun (o : Obj) => (cell?_old w o ba 0 (.int .i64 n0) ha)
  have q2 := fun (o : Obj) => (cell?_old w o br 0 (.pointer (some ⟨g, 0, none⟩)) hb)
  have q3 := fun (o : Obj) => (h.mod0 ((Mod.refl [] w).alloc o)).c1
  have q4 := fun (o : Obj) => (h.mod0 ((Mod.refl [] w).alloc o)).c2
  have q5 := fun (o : Obj) => (h.mod0 ((Mod.refl [] w).alloc o)).frz 1
  have q6 := fun (o : Obj) => (h.mod0 ((Mod.refl [] w).alloc o)).frz 2
  have p3 := h.c1
  have p4 := h.c2
  have p5 := h.frz 1
  have p6 := h.frz 2
  have hlt := h.lt
  clear h
  go_wp2_with fail
  go_region
  go_wp2_with fail
  refine ⟨rfl, _, rfl, .tuple #[], ?_, rfl, rfl, ?_, ?_⟩
  · simp [results, Try.results81]
  · exact (((H.out.setAt n0 hn).setE er).mod0 ((Mod.refl [] _).alloc _)).mod0 (Mod.refl [] _).drew
  · exact ((((Mod.refl [g] w).setCell (p := ⟨g, 1, none⟩) (.inl (by simp)) _).setCell (p := ⟨g, 2, none⟩) (.inl (by simp)) _).alloc _).drew
theorem catch_idle (ba br : Nat) (w : World) :
    CallsD Try.prog 81 #[.pointer (some ⟨ba, 0, none⟩), .pointer (some ⟨br, 0, none⟩)] .returning w fun e u' w' => e = .returned (.tuple #[]) ∧ u' = .returning ∧ w' = w := by
  refine callsD_of_wpS Try.func81 rfl fun c₀ cs hu => ?_
  apply wpS_seq
  apply wpS_region
  simp [wpOpsS, go_sem, recoverD, hu, Try.ntmps81, Exit.thenS]
  refine wpS_of_wp ?_
  rw [catch_arr]
  go_wp2_with fail
  refine ⟨rfl, .returning, ?_, .tuple #[], ?_, rfl, rfl, rfl⟩
  · cases c₀
    simp_all
  · simp [results, Try.results81]
set_option maxRecDepth 100000 in
/-- A reader with a fault: no look is made. -/
theorem try_skip (B g : Nat) (v : Value) (R : Rr) (w : World) (h : IsR w B g v R) (he : R.e ≠ 0) (fv : Value) :
    Calls Try.prog 38 #[.pointer (some ⟨g, 0, none⟩), fv] w fun e w' => e = .returned (.tuple #[]) ∧ Mod [] w w' := by
  have q2 := fun (o : Obj) => (h.mod0 ((Mod.refl [] w).alloc o)).c2
  have p2 := h.c2
  have d0 : (R.e != 0) = true := by simpa using he
  clear h he
  go_enter_defers Try.func38, Try.ntmps38
  go_wp2_with fail
  exact ⟨.tuple #[], by simp [results, Try.results38], rfl, (Mod.refl [] w).alloc _⟩
set_option maxRecDepth 100000 in
/-- A look that goes well. -/
theorem try_yes (B g : Nat) (v : Value) (R : Rr) (w : World) (h : IsR w B g v R) (he : R.e = 0) (k : FuncId) (caps : Array Value) (hf : ∀ (xs : Array Value) (w : World), (callFunc k xs).run Try.prog w = .ok (.enter k xs) w)
    (Q : World → World → Prop) (hl : ∀ w1, Mod [] w w1 → Calls Try.prog k caps w1 fun e w2 => e = .returned (.tuple #[]) ∧ Q w1 w2) :
    Calls Try.prog 38 #[.pointer (some ⟨g, 0, none⟩), .func (.func k) #[] caps] w fun e w' => e = .returned (.tuple #[]) ∧ ∃ w1, Mod [] w w1 ∧ Q w1 w' := by
  have q2 := fun (o : Obj) => (h.mod0 ((Mod.refl [] w).alloc o)).c2
  have q1 := fun (o : Obj) => (h.mod0 ((Mod.refl [] w).alloc o)).c1
  have p2 := h.c2
  have p1 := h.c1
  rw [he] at q2 p2
  have hmf : ∀ (fn : Fn) (first cap : Array Value) (w : World), (Instr.makeFunc fn first cap).run Try.prog w = .ok (.func fn first cap) w := fun _ _ _ _ => rfl
  have hfc := hf caps
  have HL := Lib.hid hl
  clear h he hl
  go_enter_defers Try.func38, Try.ntmps38
  go_wp2_with fail
  refine (HL.out _ (((Mod.refl [] w).alloc _).alloc _)).mono ?_
  rintro e w2 ⟨rfl, hq⟩
  have HQ := Lib.hid (show ∃ w1, Mod [] w w1 ∧ Q w1 w2 from ⟨_, ((Mod.refl [] w).alloc _).alloc _, hq⟩)
  clear q1 q2 p1 p2 hfc hmf hq
  go_wp2_with fail
  refine leaves_cons (f := 81) (args := #[.pointer (some ⟨w.heap.size + 1, 0, none⟩), .pointer (some ⟨w.heap.size, 0, none⟩)]) (by simp) (by simp [go_sem]) ?_
  refine (catch_idle _ _ _).mono ?_
  rintro e u' w3 ⟨rfl, rfl, rfl⟩
  simp only [settle]
  exact ⟨.tuple #[], by simp [results, Try.results38], rfl, HQ.out⟩
set_option maxRecDepth 100000 in
/-- A look that gives up: the place is as it was, the fault stays. -/
theorem try_no (B g : Nat) (v : Value) (R : Rr) (w : World) (h : IsR w B g v R) (he : R.e = 0) (k : FuncId) (caps : Array Value) (hf : ∀ (xs : Array Value) (w : World), (callFunc k xs).run Try.prog w = .ok (.enter k xs) w) (er : Int) (S : List Nat) (hS : ∀ x ∈ S, x < w.heap.size)
    (hl : ∀ w1, Mod [] w w1 → Calls Try.prog k caps w1 fun e w2 => e = .panicked [{ v := torn er, recovered := false }] ∧ (∃ at', IsR w2 B g v { R with at_ := at' }) ∧ Mod S w1 w2) :
    Calls Try.prog 38 #[.pointer (some ⟨g, 0, none⟩), .func (.func k) #[] caps] w fun e w' => e = .returned (.tuple #[]) ∧ IsR w' B g v ⟨R.b, R.at_, er⟩ ∧ Mod (g :: S) w w' := by
  have q2 := fun (o : Obj) => (h.mod0 ((Mod.refl [] w).alloc o)).c2
  have q1 := fun (o : Obj) => (h.mod0 ((Mod.refl [] w).alloc o)).c1
  have p2 := h.c2
  have p1 := h.c1
  rw [he] at q2 p2
  have hmf : ∀ (fn : Fn) (first cap : Array Value) (w : World), (Instr.makeFunc fn first cap).run Try.prog w = .ok (.func fn first cap) w := fun _ _ _ _ => rfl
  have hfc := hf caps
  have HL := Lib.hid hl
  have hgl := h.lt
  have hle := h.le
  clear h he hl
  go_enter_defers Try.func38, Try.ntmps38
  go_wp2_with fail
  have hw1 := ((Mod.refl [] w).alloc (.cells #[.pointer (some ⟨g, 0, none⟩)] 23)).alloc (.cells #[.int .i64 R.at_] 3)
  have hbr : ((w.alloc (.cells #[.pointer (some ⟨g, 0, none⟩)] 23)).alloc (.cells #[.int .i64 R.at_] 3)).heap[w.heap.size]? = some (.cells #[.pointer (some ⟨g, 0, none⟩)] 23 (0, 0)) := hp_old (hp_new w _ _ rfl)
  have hba : ((w.alloc (.cells #[.pointer (some ⟨g, 0, none⟩)] 23)).alloc (.cells #[.int .i64 R.at_] 3)).heap[w.heap.size + 1]? = some (.cells #[.int .i64 R.at_] 3 (0, 0)) := hp_new _ _ _ (by simp)
  refine (HL.out _ hw1).mono ?_
  rintro e w2 ⟨rfl, ⟨at', hi⟩, hm⟩
  have hbr2 := hm.get hbr (fun hx => by have := hS _ hx; omega)
  have hba2 := hm.get hba (fun hx => by have := hS _ hx; omega)
  have M2 := Lib.hid ((hw1.mono (S' := g :: S) (by simp)).trans hm (fun x hx => .inl (by simp [hx])))
  have ca : w2.cell? ⟨w.heap.size + 1, 0, none⟩ = some (.int .i64 R.at_) := by rw [cell_blk hba2]; rfl
  have cb : w2.cell? ⟨w.heap.size, 0, none⟩ = some (.pointer (some ⟨g, 0, none⟩)) := by rw [cell_blk hbr2]; rfl
  have HC := Lib.hid (catch_torn B g (w.heap.size + 1) w.heap.size v _ er R.at_ [] w2 hi hle ca cb (by omega) (by omega))
  clear q1 q2 p1 p2 hfc hmf hw1 hbr hba hi hm hbr2 hba2 ca cb
  go_wp2_with fail
  refine leaves_cons (f := 81) (args := #[.pointer (some ⟨w.heap.size + 1, 0, none⟩), .pointer (some ⟨w.heap.size, 0, none⟩)]) (by simp) (by simp [go_sem]) ?_
  refine HC.out.mono ?_
  rintro e u' w3 ⟨rfl, rfl, hi, hm⟩
  simp only [settle, List.dropWhile]
  exact ⟨.tuple #[], by simp [results, Try.results38], rfl, hi, M2.out.trans hm (fun x hx => .inl (by simp at hx; simp [hx]))⟩
end Go.Proofs.Ytnmcbdppbpfegaa
