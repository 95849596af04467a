/- TreeOnePast. Conditions: the tables lie in their variables; at most 2^20 bytes and digests. -/
import Derived.Test.YtbbobpjcbnfpfaaDoorLawTrOneLeaf
import Derived.Test.YtbbobpjcbnfpfaaDoorTrRGrew
namespace Go.Proofs.YtbbobpjcbnfpfaaDoor
open Go.RowKit
attribute [local go_sem high] one8 st8 cm8 b_and8 b_and8r b_and8l b_or8 b_or8r b_or8l b_xor8 b_xor8r b_xor8l b_andNot8 b_andNot8r b_andNot8l b_add8 b_add8r b_add8l b_sub8 b_sub8r b_sub8l b_mul8 b_mul8r b_mul8l b_eql8 b_eql8r b_eql8l b_neq8 b_neq8r b_neq8l b_lss8 b_lss8r b_lss8l b_leq8 b_leq8r b_leq8l b_gtr8 b_gtr8r b_gtr8l b_geq8 b_geq8r b_geq8l b_quo8r b_rem8r b_shl8r b_shr8r b_shl8l b_shr8l u_xor8 g_eql8 g_neq8 g_eql8' g_neq8' one32 st32 cm32 b_and32 b_and32r b_and32l b_or32 b_or32r b_or32l b_xor32 b_xor32r b_xor32l b_andNot32 b_andNot32r b_andNot32l b_add32 b_add32r b_add32l b_sub32 b_sub32r b_sub32l b_mul32 b_mul32r b_mul32l b_eql32 b_eql32r b_eql32l b_neq32 b_neq32r b_neq32l b_lss32 b_lss32r b_lss32l b_leq32 b_leq32r b_leq32l b_gtr32 b_gtr32r b_gtr32l b_geq32 b_geq32r b_geq32l b_quo32r b_rem32r b_shl32r b_shr32r b_shl32l b_shr32l u_xor32 g_eql32 g_neq32 g_eql32' g_neq32' one64 st64 cm64 b_and64 b_and64r b_and64l b_or64 b_or64r b_or64l b_xor64 b_xor64r b_xor64l b_andNot64 b_andNot64r b_andNot64l b_add64 b_add64r b_add64l b_sub64 b_sub64r b_sub64l b_mul64 b_mul64r b_mul64l b_eql64 b_eql64r b_eql64l b_neq64 b_neq64r b_neq64l b_lss64 b_lss64r b_lss64l b_leq64 b_leq64r b_leq64l b_gtr64 b_gtr64r b_gtr64l b_geq64 b_geq64r b_geq64l b_quo64r b_rem64r b_shl64r b_shr64r b_shl64l b_shr64l u_xor64 g_eql64 g_neq64 g_eql64' g_neq64' c_u8_u8 c_u8_u32 c_u8_u64 c_i_u8 c_u32_u8 c_u32_u32 c_u32_u64 c_i_u32 c_u64_u8 c_u64_u32 c_u64_u64 c_i_u64 c_u8_i c_u32_i
attribute [local go_sem ↓] ce8 ce32 ce64
attribute [local go_sem ↓] sliced_slp loadO26 storeO26 buildSlO42 buildO24 loadO110 storeO110 buildO110
theorem loadOPs (p : Value) : Instr.loadAt 64 p = LoadO 64 p := rfl
theorem storeOPs (p v : Value) : Instr.storeAt 64 p v = StoreO 64 p v := rfl
attribute [local go_sem ↓] loadOPs storeOPs
theorem infoPs : (Tryd.prog.info? 64).map (·.size) = some 67 := by kernel_rfl
set_option maxRecDepth 100000 in
set_option maxHeartbeats 1000000 in
theorem grewTexts_any {hf : Bs → Bs} (was : Bs) (old size : Nat) (path : List Bs) (p : Option Addr) (n c : Nat) (w : World) (h1 : 1 ≤ old) (h2 : old ≤ size) (h3 : size ≤ 1099511627776) (hn : n = path.length) (hlg : path.length = long old size true) (hr : RdD w p c path) (ap : All32 path) (hw : was.length = 32) (H : Hs hf w) (R : Rf w) :
    Calls Tryd.prog 46 #[dv was, .int .i64 old, .int .i64 size, .slice p n c] w (TextsPost (comesH hf old size true was path).2.2 w) := by
  have hcl := comes_length H.len size old true was path hw ap hlg
  have HC := Lib.hid (fun (W : World) (k : Mod [] w W) => comes_any (hf := hf) size old size was true path p c n W (Nat.le_refl _) h1 h2 h3 hw ap hn hlg (hr.mod0 k) (H.mod0 k) (R.mod0 k))
  generalize comesH hf old size true was path = C at *
  obtain ⟨a, b, ts⟩ := C
  simp only at HC hcl ⊢
  have HW := Lib.hid hw
  have f5 : (0 : Int) < (old : Int) := by omega
  have e1 : decide ((old : Int) = 0) = false := by simp; omega
  have e2 : ((old : Int) == 0) = false := by simp; omega
  have e3 : decide (old = 0) = false := by simp; omega
  have HLA := Lib.hid hcl.1
  have HLB := Lib.hid hcl.2
  have hL := loadDv (w := w.alloc (.cells (was.map V8).toArray 24)) was hw (hp_new w _ _ rfl)
  have HM1 := Lib.hid ((Mod.refl [] w).alloc (.cells (was.map V8).toArray 24))
  clear H R hw hr ap hlg hn hcl
  unfold dv at hL ⊢
  go_enter Tryd.func46, Tryd.ntmps46
  go_wp2_with fail
  have h := HC.out _ HM1.out
  unfold dv at h
  refine h.mono ?_
  clear h
  rintro e w3 ⟨v, ys, rfl, ht, m3⟩
  have M3 := Lib.hid (HM1.out.trans0 m3)
  have HT := Lib.hid ht
  obtain ⟨b1, b2⟩ := storeCome (hp_new w3 (.cells Tryd.zeroCells110 110) _ rfl) (by kernel_rfl) a b v HLA.out HLB.out ht.one
  have c1 := b2.c64
  have HTE := Lib.hid (TextsAt.off (ht.mod0 ((Mod.refl [] w3).alloc (.cells Tryd.zeroCells110 110))) (hp_new w3 (.cells Tryd.zeroCells110 110) _ rfl) (((Mod.refl [] _).mono (by simp)).setRow (g := w3.heap.size) (.inl (by simp)) (comeC a b v).toArray))
  have HEND := Lib.hid (((HM1.out.trans0 m3).alloc (.cells Tryd.zeroCells110 110)).setRow (g := w3.heap.size) (.inr (by have := (HM1.out.trans0 m3).size; omega)) (comeC a b v).toArray)
  clear ht m3 b2
  go_wp2_with fail
  go_ret
  exact ⟨_, ys, rfl, HTE.out.mono HM1.out.size, HEND.out⟩
theorem grew_yes {hf : Bs → Bs} {was root : Bs} {old size : Nat} {path : List Bs} (h1 : 1 ≤ old) (h : grewE hf was old root size path = 0) :
    old ≤ size ∧ path.length = long old size true ∧ (comesH hf old size true was path).1 = was ∧ (comesH hf old size true was path).2.1 = root := by
  unfold grewE at h
  by_cases hb : (size : Int) < 0 ∨ 1099511627776 < (size : Int) ∨ (old : Int) < 0 ∨ (size : Int) < old
  · rw [if_pos hb] at h; omega
  rw [if_neg hb, if_neg (by omega), Int.toNat_natCast, Int.toNat_natCast, grownH_eq] at h
  by_cases hl : path.length = long old size true
  · rw [if_pos hl] at h
    refine ⟨by omega, hl, ?_⟩
    by_cases hq : some ((comesH hf old size true was path).1, (comesH hf old size true was path).2.1) = some (was, root)
    · have := Option.some.inj hq
      exact Prod.mk.inj this
    · rw [if_neg hq] at h; omega
  · rw [if_neg hl, if_neg (by simp)] at h; omega
/-- append(a, b...) over texts, none too. -/
theorem run_append_zeroL {w : World} {B c : Nat} {v : Value} {l : List SlR} {q : Option Addr} (ty : TypeId) (hown : OwnL w B v l) :
    (Builtin.append_ #[25, 25] ty #[v, .slice q 0 c]).run Tryd.prog w = .ok v w := by
  obtain ⟨i0, hi, hz0, hz1, hz2⟩ := info_parts infoSl
  have ht := Tryd.underlying25
  have hl : ∀ (x : Addr), (loadCells x 0).run Tryd.prog w = .ok #[] w := fun x => by simpa using run_loadCells_list (P := Tryd.prog) w x [] (by simp)
  rcases hown.2 with ⟨rfl, h0⟩ | ⟨g, cap, cur, rfl, _, _, hnc, _⟩
  · cases q <;> simp [Builtin.append_, run_underlying ht, sizeOf, typeInfo, hi, Builtin.lenOf, Builtin.firstCells, hl]
  · cases q <;> simp [Builtin.append_, run_underlying ht, sizeOf, typeInfo, hi, Builtin.lenOf, Builtin.firstCells, hnc, storeCells, hl]
theorem pushLz {ops : Array Oper} {rest : List Oper} {o : Oper} {a : Act} {Q : Exit → Act → World → Prop} {w : World} (hgd : o.guard = none) (s x : Operand)
    (ho : o.op = .call { callee := .builtin .append, args := #[s, x], argTypes := #[25, 25] }) (B : Nat) (v v2 : Value) (l l2 : List SlR) (hown : OwnL w B v l) (hs : a.eval s = v) (h2 : OwnL w B v2 l2) (hx : a.eval x = v2)
    (hl : l.length ≤ 4294967296) (hl2 : l2.length ≤ 4294967296) (hbase : B ≤ w.heap.size)
    (h : ∀ v' w', OwnL w' B v' (l ++ l2) → w.grownBy w' v.ownBlock → wpList Tryd.prog ops Q rest (a.put o.dst v') w') : wpList Tryd.prog ops Q (o :: rest) a w := by
  by_cases h0 : l2 = []
  · subst h0
    obtain ⟨p, c, e1, _, _⟩ := h2.rd
    refine wpList_plain hgd fun K hK => ?_
    have hrun := run_append_zeroL (c := c) (q := p) o.type hown
    have hx' : a.eval x = .slice p 0 c := hx.trans e1
    unfold Oper.wp
    simp [execOp, ho, resolve, invoke, builtin, hs, hx', hrun, Result.andThen]
    have h' := h v w (by rw [List.append_nil]; exact hown) ⟨rfl, rfl, rfl, Nat.le_refl _, fun _ _ _ => rfl⟩
    exact hK _ _ (by simpa using h')
  · exact pushLs hgd s x ho B v v2 l l2 hown hs h2 hx h0 hl hl2 hbase h
theorem comes_small {hf : Bs → Bs} (hlen : ∀ d, (hf d).length = 32) (n : Nat) : ∀ (m : Nat) (w : Bool) (was : Bs) (l : List Bs), was.length = 32 → All32 l → l.length = long m n w → ∀ t ∈ (comesH hf m n w was l).2.2, t.length ≤ 65 := by
  induction n using Nat.strongRecOn with
  | ind n ih =>
    intro m w was l hw al hl
    have hll := hl
    rw [long] at hl
    rw [comesH]
    by_cases h1 : n ≤ 1 ∨ m = n
    · rw [if_pos h1]
      cases w <;> simp
    · rw [if_neg h1] at hl ⊢
      have hne : l ≠ [] := by rintro rfl; split at hl <;> simp at hl
      have hz := al.last hne
      by_cases h3 : m ≤ half n
      · rw [if_pos h3] at hl ⊢
        have hd : l.dropLast.length = long m (half n) w := by simp; omega
        have hc := comes_length hlen (half n) m w was l.dropLast hw al.dropLast hd
        intro t ht
        rcases List.mem_append.1 ht with ht | ht
        · exact ih _ (half_lt _ (by omega)) m w was _ hw al.dropLast hd t ht
        · rw [List.mem_singleton] at ht
          subst ht
          simp [hc.2, hz]
      · rw [if_neg h3] at hl ⊢
        have hd : l.dropLast.length = long (m - half n) (n - half n) false := by simp; omega
        have hc := comes_length hlen (n - half n) (m - half n) false was l.dropLast hw al.dropLast hd
        intro t ht
        rcases List.mem_append.1 ht with ht | ht
        · exact ih _ (by have := half_pos n; omega) (m - half n) false was _ hw al.dropLast hd t ht
        · simp only [List.mem_cons, List.not_mem_nil, or_false] at ht
          rcases ht with rfl | rfl <;> simp [hc.1, hc.2, hz]
theorem OwnL.grown {w w' : World} {B : Nat} {u v : Value} {l : List SlR} (h : OwnL w B v l) (hne : ∀ g, v.ownBlock = some g → u.ownBlock ≠ some g) (hg : w.grownBy w' u.ownBlock) : OwnL w' B v l := by
  refine ⟨h.1, ?_⟩
  rcases h.2 with h0 | ⟨g, cap, cur, hv, hB, hb, hn⟩
  · exact .inl h0
  · exact .inr ⟨g, cap, cur, hv, hB, (hg.block g (lt_of_block hb) (fun hx => hne g (by rw [hv]; rfl) hx.symm)).trans hb, hn⟩
/-- What TreeOnePast is asked with. -/
structure Rw where
  past : Ps
  i : Int
  one : SlR
  ap : Option Addr
  ac : Nat
  path : List Bs
  two : SlR
  bp : Option Addr
  bc : Nat
  other : List Bs
def Rw.tail (x : Rw) : List Value := [.int .i64 x.i, x.one.v, .slice x.ap x.path.length x.ac, x.two.v, .slice x.bp x.other.length x.bc]
def Rw.cells (x : Rw) : List Value := x.past.cells ++ x.tail
structure Rw.In (W : World) (x : Rw) : Prop where
  past : x.past.In W
  i0 : -9223372036854775808 ≤ x.i
  i1 : x.i ≤ 9223372036854775807
  one : Rd V8 W x.one.p x.one.cap x.one.d
  path : RdD W x.ap x.ac x.path
  two : Rd V8 W x.two.p x.two.cap x.two.d
  other : RdD W x.bp x.bc x.other
  p32 : All32 x.path
  q32 : All32 x.other
  lo : x.one.d.length ≤ 1048576
  lt : x.two.d.length ≤ 1048576
  lp : x.path.length ≤ 1048576
  lq : x.other.length ≤ 1048576
theorem Ps.len {x : Ps} (h1 : x.was.length = 32) (h2 : x.root.length = 32) : x.cells.length = 67 := by simp [Ps.cells, h1, h2]
theorem Ps.one {x : Ps} : ∀ u ∈ x.cells, u.oneCell' = true := by
  intro u hu
  unfold Ps.cells at hu
  simp only [List.mem_append, List.mem_map, List.mem_cons, List.not_mem_nil, or_false] at hu
  rcases hu with ⟨y, _, rfl⟩ | rfl | ⟨y, _, rfl⟩ | rfl | rfl
  · exact one8 y
  · rfl
  · exact one8 y
  · rfl
  · rfl
structure RwBox (w : World) (b : Nat) (x : Rw) : Prop where
  l : (LoadO 64 (.pointer (some ⟨b, 0, none⟩))).run Tryd.prog w = .ok (.agg x.past.cells.toArray) w
  c67 : w.cell? ⟨b, 67, none⟩ = some (.int .i64 x.i)
  c68 : w.cell? ⟨b, 68, none⟩ = some x.one.v
  c69 : w.cell? ⟨b, 69, none⟩ = some (.slice x.ap x.path.length x.ac)
  c70 : w.cell? ⟨b, 70, none⟩ = some x.two.v
  c71 : w.cell? ⟨b, 71, none⟩ = some (.slice x.bp x.other.length x.bc)
theorem Rw.box {w : World} {b : Nat} {x : Rw} {t : TypeId} (h : w.heap[b]? = some (.cells x.cells.toArray t)) (h1 : x.past.was.length = 32) (h2 : x.past.root.length = 32) : RwBox w b x := by
  have hl := Ps.len h1 h2
  have hg : ∀ k v, x.tail[k]? = some v → w.cell? ⟨b, 67 + k, none⟩ = some v := by
    intro k v hv
    rw [cell_blk h, List.getElem?_toArray]
    unfold Rw.cells
    rw [List.getElem?_append_right (by omega), hl, Nat.add_sub_cancel_left]
    exact hv
  refine ⟨?_, hg 0 _ rfl, hg 1 _ rfl, hg 2 _ rfl, hg 3 _ rfl, hg 4 _ rfl⟩
  refine loadO_mid (cs := x.past.cells) (range_blk h 0 _ (fun j v hv => ?_)) Tryd.underlying64 rfl (by rw [hl]; exact infoPs)
  rw [Nat.zero_add, List.getElem?_toArray]
  unfold Rw.cells
  rw [List.getElem?_append_left (List.getElem?_eq_some_iff.1 hv).1]
  exact hv
theorem storeNewPs (w : World) (x : Ps) (h1 : x.was.length = 32) (h2 : x.root.length = 32) (Z : Array Value) (hZ : Z.size = 67) : (StoreO 64 (.pointer (some ⟨w.heap.size, 0, none⟩)) (.agg x.cells.toArray)).run Tryd.prog (w.alloc (.cells Z 64)) = .ok () (w.alloc (.cells x.cells.toArray 64)) := by
  have hl := Ps.len h1 h2
  have h := storeO_row (P := Tryd.prog) (ty := 64) (cells := x.cells.toArray) (hp_new w (.cells Z 64) _ rfl) (by simp [hZ, hl]) (by simp [hl, infoPs]) (by rw [Array.all_eq_true_iff_forall_mem]; intro u hu; exact Ps.one u (by simpa using hu))
  rw [setRow_alloc_at _ _ _ _ _ rfl] at h
  exact h
set_option maxRecDepth 100000 in
set_option maxHeartbeats 2000000 in
theorem onepast_law {hf : Bs → Bs} (x : Rw) (w : World) (h : x.In w) (H : Hs hf w) (R : Rf w) :
    Calls Tryd.prog 10 #[.agg x.cells.toArray] w fun e w' => e = .returned (.bool true) ∧ Mod [] w w' := by
  have HH := Lib.hid H
  have HRf := Lib.hid R
  have HI := Lib.hid h
  have hw32 := h.past.was
  have hr32 := h.past.root
  have M0 := Lib.hid ((Mod.refl [] w).alloc (.cells x.cells.toArray 68))
  have HBX := Lib.hid (hp_new w (.cells x.cells.toArray 68) _ rfl)
  have HW32 := Lib.hid hw32
  have HR32 := Lib.hid hr32
  clear H R h hw32 hr32
  go_enter Tryd.func10, Tryd.ntmps10
  go_wp2_with fail
  refine (awake_any _ (HH.out.mod0 M0.out)).mono ?_
  rintro e w1 ⟨rfl, m1⟩
  have M1 := Lib.hid (M0.out.trans0 m1)
  have HB1 := Lib.hid (m1.get0 HBX.out)
  clear m1 M0 HBX
  have hL0 := (Rw.box HB1.out HW32.out HR32.out).l
  have hS := storeNewPs w1 x.past HW32.out HR32.out Tryd.zeroCells64 (by kernel_rfl)
  have M2 := Lib.hid (M1.out.alloc (.cells x.past.cells.toArray 64))
  have HB2 := Lib.hid (hp_old (o := .cells x.past.cells.toArray 64) HB1.out)
  have HP2 := Lib.hid (hp_new w1 (.cells x.past.cells.toArray 64) _ rfl)
  clear M1 HB1
  obtain ⟨_, a67, a68, a69, a70, a71⟩ := Rw.box HB2.out HW32.out HR32.out
  obtain ⟨hL1, _, hQ1, _, d32, d65, d66⟩ := Ps.box HP2.out HW32.out HR32.out
  unfold SlR.v at a68 a70
  go_wp2_with fail
  refine (check_any x.past.was x.past.old x.i x.one.d x.one.p _ _ x.path x.ap _ _ _ rfl (HI.out.one.mod0 M2.out) (by have := HI.out.lo; omega) rfl (HI.out.path.mod0 M2.out) HI.out.p32 HW32.out (HH.out.mod0 M2.out)).mono ?_
  rintro e w3 ⟨rfl, m3⟩
  clear hS
  have M3 := Lib.hid (M2.out.trans0 m3)
  have HB3 := Lib.hid (m3.get0 HB2.out)
  have HP3 := Lib.hid (m3.get0 HP2.out)
  clear m3 M2 HB2 HP2 hL0 a67 a68 a69 a70 a71 hL1 hQ1 d32 d65 d66
  obtain ⟨hL0, a67, a68, a69, a70, a71⟩ := Rw.box HB3.out HW32.out HR32.out
  obtain ⟨hL1, _, hQ1, _, d32, d65, d66⟩ := Ps.box HP3.out HW32.out HR32.out
  unfold SlR.v at a68 a70
  obtain ⟨E, hE⟩ : ∃ E, E = checkE hf x.past.was x.past.old x.i x.one.d x.path := ⟨_, rfl⟩
  rw [← hE]
  have HE := Lib.hid hE
  clear hE
  go_wp2_with fail
  refine (check_any x.past.root x.past.size x.i x.two.d x.two.p _ _ x.other x.bp _ _ _ rfl (HI.out.two.mod0 M3.out) (by have := HI.out.lt; omega) rfl (HI.out.other.mod0 M3.out) HI.out.q32 HR32.out (HH.out.mod0 M3.out)).mono ?_
  rintro e w4 ⟨rfl, m4⟩
  have M4 := Lib.hid (M3.out.trans0 m4)
  have HB4 := Lib.hid (m4.get0 HB3.out)
  have HP4 := Lib.hid (m4.get0 HP3.out)
  clear m4 M3 HB3 HP3 hL0 a67 a68 a69 a70 a71 hL1 hQ1 d32 d65 d66
  obtain ⟨hL0, a67, a68, a69, a70, a71⟩ := Rw.box HB4.out HW32.out HR32.out
  obtain ⟨hL1, _, hQ1, _, d32, d65, d66⟩ := Ps.box HP4.out HW32.out HR32.out
  unfold SlR.v at a68 a70
  obtain ⟨F, hF⟩ : ∃ F, F = checkE hf x.past.root x.past.size x.i x.two.d x.other := ⟨_, rfl⟩
  rw [← hF]
  have HF := Lib.hid hF
  clear hF
  go_wp2_with fail
  refine (grew_any x.past.was x.past.root x.past.old x.past.size x.past.path x.past.pp _ x.past.pc _ rfl (HI.out.past.path.mod0 M4.out) HI.out.past.p32 HW32.out HR32.out (HH.out.mod0 M4.out)).mono ?_
  rintro e w5 ⟨rfl, m5⟩
  have M5 := Lib.hid (M4.out.trans0 m5)
  have HB5 := Lib.hid (m5.get0 HB4.out)
  have HP5 := Lib.hid (m5.get0 HP4.out)
  clear m5 M4 HB4 HP4 hL0 a67 a68 a69 a70 a71 hL1 hQ1 d32 d65 d66
  obtain ⟨hL0, a67, a68, a69, a70, a71⟩ := Rw.box HB5.out HW32.out HR32.out
  obtain ⟨hL1, _, hQ1, _, d32, d65, d66⟩ := Ps.box HP5.out HW32.out HR32.out
  unfold SlR.v at a68 a70
  obtain ⟨G, hG⟩ : ∃ G, G = grewE hf x.past.was x.past.old x.past.root x.past.size x.past.path := ⟨_, rfl⟩
  rw [← hG]
  have HG := Lib.hid hG
  clear hG
  have hs1 := str_rd (HI.out.one.mod0 M5.out) _ rfl
  have hs2 := str_rd (HI.out.two.mod0 M5.out) _ rfl
  by_cases hE0 : E = 0
  · by_cases hF0 : F = 0
    · by_cases hG0 : G = 0
      · have HE0 := Lib.hid hE0
        have HF0 := Lib.hid hF0
        have HG0 := Lib.hid hG0
        have hb : (E != 0) = false := by simp [hE0]
        have hc : (F != 0) = false := by simp [hF0]
        have hg : (G != 0) = false := by simp [hG0]
        clear hE0 hF0 hG0
        by_cases hq : x.one.d = x.two.d
        · have hd : (x.one.d == x.two.d) = true := by simp [hq]
          clear hq
          go_wp2_with fail
          go_ret
          exact ⟨rfl, M5.out⟩
        · have hd : (x.one.d == x.two.d) = false := by simp [hq]
          obtain ⟨s, j, es, ej, b1, b2, b3, b4, b5⟩ := check_zero (HE.out.symm.trans HE0.out)
          obtain ⟨n, j', en, ej', c1, c2, c3, b6, b7⟩ := check_zero (HF.out.symm.trans HF0.out)
          obtain rfl : j' = j := by omega
          have hg0 := HG.out.symm.trans HG0.out
          rw [es, en] at hg0
          obtain ⟨g1, g2, g3, g4⟩ := grew_yes b1 hg0
          have HQ := Lib.hid hq
          rw [es] at d32
          rw [en] at d65
          rw [ej] at a67
          have f1 : (1 : Int) ≤ (s : Int) := by omega
          have f2 : (n : Int) ≤ 1099511627776 := by omega
          have f3 : (0 : Int) ≤ (j' : Int) := by omega
          have f4 : (j' : Int) < (s : Int) := by omega
          have f5 : (s : Int) ≤ (n : Int) := by omega
          rw [b4] at a69
          rw [b6] at a71
          rw [g2] at d66
          have hS40 := sides_length 40 s j' (by omega)
          have hT40 := sides_length 40 n j' (by omega)
          have hL41 := long_le 40 s n true (by omega)
          have HT1 := Lib.hid (fun (W : World) (m : Mod [] w W) => rtexts_any s j' x.one.d x.one.p _ x.one.cap x.path x.ap (sides s j').length x.ac W b1 b2 (by omega) rfl (HI.out.one.mod0 m) (by have := HI.out.lo; omega) b4.symm (HI.out.path.mod0 m) HI.out.p32 b4 (HH.out.mod0 m) (HRf.out.mod0 m))
          have HT2 := Lib.hid (fun (W : World) (m : Mod [] w W) => rtexts_any n j' x.two.d x.two.p _ x.two.cap x.other x.bp (sides n j').length x.bc W c1 c2 (by omega) rfl (HI.out.two.mod0 m) (by have := HI.out.lt; omega) b6.symm (HI.out.other.mod0 m) HI.out.q32 b6 (HH.out.mod0 m) (HRf.out.mod0 m))
          have HT3 := Lib.hid (fun (W : World) (m : Mod [] w W) => grewTexts_any (hf := hf) x.past.was s n x.past.path x.past.pp (long s n true) x.past.pc W b1 g1 c2 g2.symm g2 (HI.out.past.path.mod0 m) HI.out.past.p32 HW32.out (HH.out.mod0 m) (HRf.out.mod0 m))
          have HS1 := Lib.hid (fun W => rsides_any s s j' W (Nat.le_refl _) b1 b2 (by omega))
          have HS2 := Lib.hid (fun W => rsides_any n n j' W (Nat.le_refl _) c1 c2 (by omega))
          have HLG := Lib.hid (fun W => rlong_any n s n true W (Nat.le_refl _) b1 g1 c2)
          have hcl := one_past HH.out.len n s j' true x.past.was x.path x.other x.past.path (0 :: x.one.d) (0 :: x.two.d) b3 g1 b4 b6 g2 HI.out.p32 HI.out.q32 HI.out.past.p32 HW32.out (by simpa using hq) (b5.trans g3.symm) (b7.trans g4.symm)
          have hz3 := comes_small HH.out.len n s true x.past.was x.past.path HW32.out HI.out.past.p32 g2
          have hl3 : (comesH hf s n true x.past.was x.past.path).2.2.length ≤ 82 := by have := comes_ts_len (hf := hf) n s true x.past.was x.past.path; omega
          clear g3 g4 hg0 HG HE HF b5 b7
          generalize (comesH hf s n true x.past.was x.past.path).2.2 = TC at *
          generalize sides s j' = SA at *
          generalize sides n j' = SB at *
          generalize long s n true = L at *
          have hl1 : (textsT hf (0 :: x.one.d) (SA.zip x.path)).length ≤ 41 := by rw [textsT_length]; simp; omega
          have hl2 : (textsT hf (0 :: x.two.d) (SB.zip x.other)).length ≤ 41 := by rw [textsT_length]; simp; omega
          have hz1 := textsT_small hf HH.out.len (SA.zip x.path) (0 :: x.one.d) 4398046511105 (by have := HI.out.lo; simp; omega) (by omega) (fun z hz => HI.out.p32 _ (List.of_mem_zip hz).2)
          have hz2 := textsT_small hf HH.out.len (SB.zip x.other) (0 :: x.two.d) 4398046511105 (by have := HI.out.lt; simp; omega) (by omega) (fun z hz => HI.out.q32 _ (List.of_mem_zip hz).2)
          generalize textsT hf (0 :: x.one.d) (SA.zip x.path) = TA at *
          generalize textsT hf (0 :: x.two.d) (SB.zip x.other) = TB at *
          have HCL := Lib.hid hcl
          have HZ1 := Lib.hid hz1
          have HZ2 := Lib.hid hz2
          have HZ3 := Lib.hid hz3
          have k1 : ((SA.length : Int) != (SA.length : Int)) = false := by simp
          have k2 : ((SB.length : Int) != (SB.length : Int)) = false := by simp
          have k3 : ((L : Int) != (L : Int)) = false := by simp
          clear hq es ej en ej' b4 b6 hcl hz1 hz2 hz3 HQ g2 HE0 HF0 HG0
          go_wp2_with fail
          refine (HS1.out _).mono ?_
          rintro e w6 ⟨v, rfl, ho, m6⟩
          obtain ⟨ps, cs, rfl, _⟩ := own_len ho
          have M6 := Lib.hid (M5.out.trans0 m6)
          replace a67 := cell_mod0 m6 a67
          replace a68 := cell_mod0 m6 a68
          replace a69 := cell_mod0 m6 a69
          replace a70 := cell_mod0 m6 a70
          replace a71 := cell_mod0 m6 a71
          replace d32 := cell_mod0 m6 d32
          replace d65 := cell_mod0 m6 d65
          replace d66 := cell_mod0 m6 d66
          have HP6 := Lib.hid (m6.get0 HP5.out)
          clear ho m6 hL0 hL1 hQ1 hs1 hs2 HP5 HB5
          go_wp2_with fail
          refine (HS2.out _).mono ?_
          rintro e w7 ⟨v, rfl, ho, m7⟩
          obtain ⟨pt, ct, rfl, _⟩ := own_len ho
          have M7 := Lib.hid (M6.out.trans0 m7)
          replace a67 := cell_mod0 m7 a67
          replace a68 := cell_mod0 m7 a68
          replace a69 := cell_mod0 m7 a69
          replace a70 := cell_mod0 m7 a70
          replace a71 := cell_mod0 m7 a71
          replace d32 := cell_mod0 m7 d32
          replace d65 := cell_mod0 m7 d65
          replace d66 := cell_mod0 m7 d66
          have HP7 := Lib.hid (m7.get0 HP6.out)
          clear ho m7 HP6
          go_wp2_with fail
          refine (HLG.out _).mono ?_
          rintro e w8 ⟨rfl, rfl⟩
          clear k1 k2 k3
          go_wp2_with fail
          refine (HT1.out _ M7.out).mono ?_
          rintro e w9 ⟨va, ys, rfl, hta, m9⟩
          have M9 := Lib.hid (M7.out.trans0 m9)
          have HTA := Lib.hid (hta.mono (B' := w.heap.size) M7.out.size)
          replace a67 := cell_mod0 m9 a67
          replace a70 := cell_mod0 m9 a70
          replace a71 := cell_mod0 m9 a71
          replace d32 := cell_mod0 m9 d32
          replace d65 := cell_mod0 m9 d65
          replace d66 := cell_mod0 m9 d66
          have HP9 := Lib.hid (m9.get0 HP7.out)
          clear hta m9 HP7 a68 a69
          go_wp2_with fail
          refine (HT2.out _ M9.out).mono ?_
          rintro e wa ⟨vb, zs, rfl, htb, ma⟩
          have Ma := Lib.hid (M9.out.trans0 ma)
          have HTB := Lib.hid (htb.mono (B' := w.heap.size) M9.out.size)
          have HTAa := Lib.hid (HTA.out.mod0 ma)
          replace d32 := cell_mod0 ma d32
          replace d65 := cell_mod0 ma d65
          replace d66 := cell_mod0 ma d66
          have HPa := Lib.hid (ma.get0 HP9.out)
          clear htb ma a67 a70 a71 HTA HP9
          obtain ⟨hL1, _, _, _, _, _, _⟩ := Ps.box HPa.out HW32.out HR32.out
          go_wp2_with fail
          refine (HT3.out _ Ma.out).mono ?_
          rintro e wb ⟨vc, us, rfl, htc, mb⟩
          have Mb := Lib.hid (Ma.out.trans0 mb)
          have HTC := Lib.hid (htc.mono (B' := w.heap.size) Ma.out.size)
          have HTAb := Lib.hid (HTAa.out.mod0 mb)
          have HNE := Lib.hid (show ∀ g, vc.ownBlock = some g → va.ownBlock ≠ some g from fun g h1 h2 => by
            have k1 := htc.own.row g h1
            have k2 := HTAa.out.own.lt g h2
            omega)
          have HTBb := Lib.hid (HTB.out.mod0 mb)
          clear htc mb d32 d65 d66 HTAa HTB HPa hL1
          go_wp2_with (at_builtin; with_reducible refine froz_app _ _ rfl ?_)
          unfold Froz
          refine pushLz rfl _ _ rfl w.heap.size va vb ys zs HTAb.out.own rfl HTBb.out.own rfl (by rw [HTAb.out.len]; omega) (by rw [HTBb.out.len]; omega) Mb.out.size ?_
          intro vd wd hod hgd
          have HD := Lib.hid (TextsAt.both HTAb.out HTBb.out hod hgd)
          have Md := Lib.hid (Mb.out.of_grown hgd (fun g hg => .inr (HTAb.out.own.row g hg)))
          have HTCd := Lib.hid (show TextsAt wd w.heap.size vc us TC from ⟨HTC.out.own.grown HNE.out hgd, fun y hy => (HTC.out.each y hy).grownL HTAb.out.own hgd, HTC.out.is⟩)
          clear hod hgd HTAb HTBb HTC
          go_wp2_with (at_builtin; with_reducible refine froz_app _ _ rfl ?_)
          unfold Froz
          refine pushLz rfl _ _ rfl w.heap.size vd vc (ys ++ zs) us HD.out.own rfl HTCd.out.own rfl (by rw [HD.out.len, List.length_append]; omega) (by rw [HTCd.out.len]; omega) Md.out.size ?_
          intro vf wf hof hgf
          have hF := TextsAt.both HD.out HTCd.out hof hgf
          have Mf := Lib.hid (Md.out.of_grown hgf (fun g hg => .inr (HD.out.own.row g hg)))
          obtain ⟨p8, c8, rfl, ht8⟩ := hF.ts (fun t ht => by
            rcases List.mem_append.1 ht with ht | ht
            · rcases List.mem_append.1 ht with ht | ht
              · have := HZ1.out t ht; omega
              · have := HZ2.out t ht; omega
            · have := HZ3.out t ht; omega) (by rw [List.length_append, List.length_append]; omega)
          have HT8 := Lib.hid ht8
          have HIS := Lib.hid hF.is
          clear hof hgf hF ht8
          go_wp2_with fail
          refine (clash_any (ys ++ zs ++ us) p8 c8 _ _ (by simp) HT8.out (by rw [HIS.out]; exact HCL.out) (HH.out.mod0 Mf.out)).mono ?_
          rintro e wg ⟨rfl, mg⟩
          go_wp2_with fail
          go_ret
          exact ⟨rfl, Mf.out.trans0 mg⟩
      · have hb : (E != 0) = false := by simp [hE0]
        have hc : (F != 0) = false := by simp [hF0]
        have hg : (G != 0) = true := by simp [hG0]
        clear hE0 hF0 hG0
        go_wp2_with fail
        go_ret
        exact ⟨rfl, M5.out⟩
    · have hb : (E != 0) = false := by simp [hE0]
      have hc : (F != 0) = true := by simp [hF0]
      clear hE0 hF0
      go_wp2_with fail
      go_ret
      exact ⟨rfl, M5.out⟩
  · have hb : (E != 0) = true := by simp [hE0]
    clear hE0
    go_wp2_with fail
    go_ret
    exact ⟨rfl, M5.out⟩
end Go.Proofs.YtbbobpjcbnfpfaaDoor
