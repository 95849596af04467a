/- Leaf, Node, none, half of the program's tree. Conditions: the three tables lie in their variables; fewer than 2^46 bytes. -/
import Derived.Test.YtbbobpjcbnfpfaaDoorDgTree
import Derived.Test.YtbbobpjcbnfpfaaDoorTrPure
import Derived.Test.YtbbobpjcbnfpfaaDoorStepCall
namespace Go.Proofs.YtbbobpjcbnfpfaaDoor
open Go.RowKit
attribute [local go_sem high] one8 st8 cm8 b_and8 b_and8r b_and8l b_or8 b_or8r b_or8l b_xor8 b_xor8r b_xor8l b_andNot8 b_andNot8r b_andNot8l b_add8 b_add8r b_add8l b_sub8 b_sub8r b_sub8l b_mul8 b_mul8r b_mul8l b_eql8 b_eql8r b_eql8l b_neq8 b_neq8r b_neq8l b_lss8 b_lss8r b_lss8l b_leq8 b_leq8r b_leq8l b_gtr8 b_gtr8r b_gtr8l b_geq8 b_geq8r b_geq8l b_quo8r b_rem8r b_shl8r b_shr8r b_shl8l b_shr8l u_xor8 g_eql8 g_neq8 g_eql8' g_neq8' one32 st32 cm32 b_and32 b_and32r b_and32l b_or32 b_or32r b_or32l b_xor32 b_xor32r b_xor32l b_andNot32 b_andNot32r b_andNot32l b_add32 b_add32r b_add32l b_sub32 b_sub32r b_sub32l b_mul32 b_mul32r b_mul32l b_eql32 b_eql32r b_eql32l b_neq32 b_neq32r b_neq32l b_lss32 b_lss32r b_lss32l b_leq32 b_leq32r b_leq32l b_gtr32 b_gtr32r b_gtr32l b_geq32 b_geq32r b_geq32l b_quo32r b_rem32r b_shl32r b_shr32r b_shl32l b_shr32l u_xor32 g_eql32 g_neq32 g_eql32' g_neq32' one64 st64 cm64 b_and64 b_and64r b_and64l b_or64 b_or64r b_or64l b_xor64 b_xor64r b_xor64l b_andNot64 b_andNot64r b_andNot64l b_add64 b_add64r b_add64l b_sub64 b_sub64r b_sub64l b_mul64 b_mul64r b_mul64l b_eql64 b_eql64r b_eql64l b_neq64 b_neq64r b_neq64l b_lss64 b_lss64r b_lss64l b_leq64 b_leq64r b_leq64l b_gtr64 b_gtr64r b_gtr64l b_geq64 b_geq64r b_geq64l b_quo64r b_rem64r b_shl64r b_shr64r b_shl64l b_shr64l u_xor64 g_eql64 g_neq64 g_eql64' g_neq64' c_u8_u8 c_u8_u32 c_u8_u64 c_i_u8 c_u32_u8 c_u32_u32 c_u32_u64 c_i_u32 c_u64_u8 c_u64_u32 c_u64_u64 c_i_u64 c_u8_i c_u32_i
attribute [local go_sem ↓] ce8 ce32 ce64
attribute [local go_sem ↓] sliced_slp loadO26 storeO26
/-- 'hf' is the digest; the table of the steps lies in its variable. -/
structure Hs (hf : Bs → Bs) (w : World) : Prop where
  t : Tab w
  eq : ∀ d, hf d = fin d 0 0
namespace Hs
variable {hf : Bs → Bs} {a w : World}
theorem len (h : Hs hf w) (d : Bs) : (hf d).length = 32 := by rw [h.eq]; exact fin_length _ _ _
theorem mod0 (h : Hs hf a) (m : Mod [] a w) : Hs hf w := ⟨Tab.mod m h.t (by simp), h.eq⟩
theorem parts (h : Hs hf w) (q : Option Addr) (c n : Nat) (xs : List SlR) (hn : n = xs.length) (hr : Rd SlR.v w q c xs) (hx : ∀ x ∈ xs, Rd V8 w x.p x.cap x.d) (hl : xs.length ≤ 4294967296) (ht : total xs ≤ 70368744177664) :
    Calls Tryd.prog 39 #[.slice q n c] w fun e w' => e = .returned (dv (hf (joined xs))) ∧ Mod [] w w' := by
  subst hn
  rw [h.eq]
  exact parts_any q c xs w hr hx h.t h.t.lt (by omega) (by omega)
theorem sum (h : Hs hf w) (q : Option Addr) (c n : Nat) (d : Bs) (hn : n = d.length) (hr : Rd V8 w q c d) (ht : d.length ≤ 70368744177664) :
    Calls Tryd.prog 40 #[.slice q n c] w fun e w' => e = .returned (dv (hf d)) ∧ Mod [] w w' := by
  subst hn
  rw [h.eq]
  exact digest_sum q c d w hr h.t h.t.lt (by omega)
end Hs
/-- The temporary list of lists that a call hands over. -/
theorem rd_sl {w : World} {b c : Nat} {xs : List SlR} {t : TypeId} {fr : Nat × Nat} (h : w.heap[b]? = some (.cells (xs.map SlR.v).toArray t fr)) (hc : xs.length ≤ c) : Rd SlR.v w (some ⟨b, 0, none⟩) c xs :=
  Rd.of_blk h (fun j v hv => by simpa using hv) hc
theorem none_any {hf : Bs → Bs} (w : World) (h : Hs hf w) :
    Calls Tryd.prog 59 #[] w fun e w' => e = .returned (dv (hf [])) ∧ Mod [] w w' := by
  have H := Lib.hid h
  have HL := Lib.hid (h.len [])
  clear h
  go_enter Tryd.func59, Tryd.ntmps59
  go_wp2_with fail
  refine ((H.out.mod0 ((Mod.refl [] w).alloc _)).sum none 0 0 [] rfl (Rd.nil _ _ _ _) (by simp)).mono ?_
  rintro e w1 ⟨rfl, m1⟩
  have hS := storeDv (hf []) HL.out (m1.get0 (hp_new w _ _ rfl)) rfl
  go_wp2_with fail
  exact bodyPost_ret (results_dv rfl _ _ _ _ HL.out _ rfl (hp_setRow (m1.get0 (hp_new w _ _ rfl)))) rfl ⟨rfl, (((Mod.refl [] w).alloc _).trans0 m1).setRow (.inr (Nat.le_refl _)) _⟩
/-- An answer, as a step of a region wants it told. -/
theorem told {P : Program} {f : FuncId} {xs : Array Value} {w : World} {v : Value} {R : World → Prop} (h : Calls P f xs w fun e w' => e = .returned v ∧ R w') : Calls P f xs w fun e w' => ∃ u, e = .returned u ∧ (u = v ∧ R w') :=
  h.mono fun _ _ ⟨h1, h2⟩ => ⟨v, h1, rfl, h2⟩
/-- A block that was there is there behind the call. -/
theorem kept_of {P : Program} {f : FuncId} {xs : Array Value} {W : World} {v : Value} (h : Calls P f xs W fun e w' => e = .returned v ∧ Mod [] W w') (b : Nat) (o : Obj) (hb : W.heap[b]? = some o) : Calls P f xs W fun e w' => e = .returned v ∧ Mod [] W w' ∧ w'.heap[b]? = some o :=
  h.mono fun _ _ ⟨h1, h2⟩ => ⟨h1, h2, h2.get0 hb⟩
theorem callParts (xs : Array Value) (w : World) : (callFunc 39 xs).run Tryd.prog w = .ok (.enter 39 xs) w := by kernel_rfl
theorem leaf_any {hf : Bs → Bs} (p : Option Addr) (cap n : Nat) (d : Bs) (w : World) (hn : n = d.length) (hr : Rd V8 w p cap d) (h : Hs hf w) (hd : d.length ≤ 4398046511104) :
    Calls Tryd.prog 15 #[.slice p n cap] w fun e w' => e = .returned (dv (leafH hf d)) ∧ Mod [] w w' := by
  subst hn
  have H := Lib.hid h
  have HR := Lib.hid hr
  have HL := Lib.hid (h.len (0 :: d))
  clear h hr
  go_enter Tryd.func15, Tryd.ntmps15
  go_wp2_with fail
  refine (Hs.parts (H.out.mod0 ((((Mod.refl [] w).alloc _).alloc _).alloc _)) _ _ _ [⟨some ⟨w.heap.size + 1, 0, none⟩, 1, [0]⟩, ⟨p, cap, d⟩] rfl (rd_sl (hp_new _ _ _ (by simp)) (by simp)) ?_ (by simp) (by simp [total]; omega)).mono ?_
  · intro x hx
    simp only [List.mem_cons, List.not_mem_nil, or_false] at hx
    rcases hx with rfl | rfl
    · exact rd_whole (x := [0]) (hp_old (hp_new _ _ _ (by simp))) (by simp)
    · exact HR.out.mod0 ((((Mod.refl [] w).alloc _).alloc _).alloc _)
  rintro e w1 ⟨rfl, m1⟩
  have hj : joined [⟨some ⟨w.heap.size + 1, 0, none⟩, 1, [0]⟩, ⟨p, cap, d⟩] = 0 :: d := by simp [joined]
  rw [hj]
  have HRES := Lib.hid (m1.get0 (hp_old (hp_old (hp_new w _ _ rfl))))
  have hS := storeDv (hf (0 :: d)) HL.out HRES.out rfl
  clear hj
  go_wp2_with fail
  exact bodyPost_ret (results_dv rfl _ _ _ _ HL.out _ rfl (hp_setRow HRES.out)) rfl ⟨rfl, (((((Mod.refl [] w).alloc _).alloc _).alloc _).trans0 m1).setRow (.inr (Nat.le_refl _)) _⟩
set_option maxRecDepth 100000 in
theorem node_any {hf : Bs → Bs} (l r : Bs) (hl : l.length = 32) (hr : r.length = 32) (w : World) (h : Hs hf w) :
    Calls Tryd.prog 17 #[dv l, dv r] w fun e w' => e = .returned (dv (nodeH hf l r)) ∧ Mod [] w w' := by
  have HQ := Lib.hid (fun (W : World) (m : Mod [] w W) (h0 : W.heap[w.heap.size]? = some (.cells (l.map V8).toArray 24)) (h1 : W.heap[w.heap.size + 1]? = some (.cells (r.map V8).toArray 24))
      (h3 : W.heap[w.heap.size + 1 + 1 + 1]? = some (.cells ([1].map V8).toArray 5)) (h4 : W.heap[w.heap.size + 1 + 1 + 1 + 1]? = some (.cells #[.slice (some ⟨w.heap.size + 1 + 1 + 1, 0, none⟩) 1 1, .slice (some ⟨w.heap.size, 0, none⟩) 32 32, .slice (some ⟨w.heap.size + 1, 0, none⟩) 32 32] 22)) =>
    show Calls Tryd.prog 39 #[.slice (some ⟨w.heap.size + 1 + 1 + 1 + 1, 0, none⟩) 3 3] W fun e w' => e = .returned (dv (nodeH hf l r)) ∧ Mod [] W w' by
      have hj : joined [⟨some ⟨w.heap.size + 1 + 1 + 1, 0, none⟩, 1, [1]⟩, ⟨some ⟨w.heap.size, 0, none⟩, 32, l⟩, ⟨some ⟨w.heap.size + 1, 0, none⟩, 32, r⟩] = 1 :: (l ++ r) := by simp [joined]
      have hp := Hs.parts (h.mod0 m) (some ⟨w.heap.size + 1 + 1 + 1 + 1, 0, none⟩) 3 3 [⟨some ⟨w.heap.size + 1 + 1 + 1, 0, none⟩, 1, [1]⟩, ⟨some ⟨w.heap.size, 0, none⟩, 32, l⟩, ⟨some ⟨w.heap.size + 1, 0, none⟩, 32, r⟩] rfl (rd_sl (t := 22) (fr := (0, 0)) (h4.trans (by simp [SlR.v, hl, hr])) (by simp)) (by
        intro x hx
        simp only [List.mem_cons, List.not_mem_nil, or_false] at hx
        rcases hx with rfl | rfl | rfl
        · exact rd_whole h3 (by simp)
        · exact rd_whole h0 (by simp; omega)
        · exact rd_whole h1 (by simp; omega)) (by simp) (by simp [total]; omega)
      rw [hj] at hp
      exact hp)
  have HL := Lib.hid (h.len (1 :: (l ++ r)))
  have HLL := Lib.hid hl
  have HRL := Lib.hid hr
  clear h hl hr
  unfold dv
  go_enter Tryd.func17, Tryd.ntmps17
  go_wp2_with fail
  go_region_law ((go_simp; go_at_call 39; refine (kept_of (HQ.out _ ?_ ?_ ?_ ?_ ?_) (w.heap.size + 1 + 1) (.cells ((zeros 32).map V8).toArray 24) ?_).mono ?_
                  · repeat (first | exact Mod.refl [] _ | refine Mod.alloc ?_ _ | refine Mod.drew ?_)
                  · repeat (first | exact hp_new _ _ _ (by simp) | refine hp_old ?_ | refine hp_drew ?_)
                  · repeat (first | exact hp_new _ _ _ (by simp) | refine hp_old ?_ | refine hp_drew ?_)
                  · repeat (first | exact hp_new _ _ _ (by simp) | refine hp_old ?_ | refine hp_drew ?_)
                  · repeat (first | exact hp_new _ _ _ (by simp) | refine hp_old ?_ | refine hp_drew ?_)
                  · repeat (first | exact hp_new _ _ _ (by simp) | refine hp_old ?_ | refine hp_drew ?_)
                  rintro _ w1 ⟨rfl, m1, hk⟩
                  have HRES := Lib.hid hk
                  have hS := storeDv (nodeH hf l r) HL.out hk rfl
                  have HM := Lib.hid m1
                  clear m1 hk))
  go_wp2_with fail
  exact bodyPost_ret (results_dv rfl _ _ _ _ HL.out _ rfl (hp_setRow HRES.out)) rfl ⟨rfl, ((((((((Mod.refl [] w).alloc _).alloc _).alloc _).alloc _).alloc _).drew).trans0 HM.out).setRow (.inr (by omega)) _⟩
end Go.Proofs.YtbbobpjcbnfpfaaDoor
