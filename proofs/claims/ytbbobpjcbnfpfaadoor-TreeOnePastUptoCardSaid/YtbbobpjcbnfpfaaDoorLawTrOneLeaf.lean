/- TreeOneLeaf. Conditions: the tables lie in their variables; at most 2^20 bytes and digests. -/
import Derived.Test.YtbbobpjcbnfpfaaDoorTrClash
import Derived.Test.YtbbobpjcbnfpfaaDoorTrRCheck
namespace Go.Proofs.YtbbobpjcbnfpfaaDoor
open Go.RowKit
attribute [local go_sem high] one8 st8 cm8 b_and8 b_and8r b_and8l b_or8 b_or8r b_or8l b_xor8 b_xor8r b_xor8l b_andNot8 b_andNot8r b_andNot8l b_add8 b_add8r b_add8l b_sub8 b_sub8r b_sub8l b_mul8 b_mul8r b_mul8l b_eql8 b_eql8r b_eql8l b_neq8 b_neq8r b_neq8l b_lss8 b_lss8r b_lss8l b_leq8 b_leq8r b_leq8l b_gtr8 b_gtr8r b_gtr8l b_geq8 b_geq8r b_geq8l b_quo8r b_rem8r b_shl8r b_shr8r b_shl8l b_shr8l u_xor8 g_eql8 g_neq8 g_eql8' g_neq8' one32 st32 cm32 b_and32 b_and32r b_and32l b_or32 b_or32r b_or32l b_xor32 b_xor32r b_xor32l b_andNot32 b_andNot32r b_andNot32l b_add32 b_add32r b_add32l b_sub32 b_sub32r b_sub32l b_mul32 b_mul32r b_mul32l b_eql32 b_eql32r b_eql32l b_neq32 b_neq32r b_neq32l b_lss32 b_lss32r b_lss32l b_leq32 b_leq32r b_leq32l b_gtr32 b_gtr32r b_gtr32l b_geq32 b_geq32r b_geq32l b_quo32r b_rem32r b_shl32r b_shr32r b_shl32l b_shr32l u_xor32 g_eql32 g_neq32 g_eql32' g_neq32' one64 st64 cm64 b_and64 b_and64r b_and64l b_or64 b_or64r b_or64l b_xor64 b_xor64r b_xor64l b_andNot64 b_andNot64r b_andNot64l b_add64 b_add64r b_add64l b_sub64 b_sub64r b_sub64l b_mul64 b_mul64r b_mul64l b_eql64 b_eql64r b_eql64l b_neq64 b_neq64r b_neq64l b_lss64 b_lss64r b_lss64l b_leq64 b_leq64r b_leq64l b_gtr64 b_gtr64r b_gtr64l b_geq64 b_geq64r b_geq64l b_quo64r b_rem64r b_shl64r b_shr64r b_shl64l b_shr64l u_xor64 g_eql64 g_neq64 g_eql64' g_neq64' c_u8_u8 c_u8_u32 c_u8_u64 c_i_u8 c_u32_u8 c_u32_u32 c_u32_u64 c_i_u32 c_u64_u8 c_u64_u32 c_u64_u64 c_i_u64 c_u8_i c_u32_i
attribute [local go_sem ↓] ce8 ce32 ce64
attribute [local go_sem ↓] sliced_slp loadO26 storeO26 buildSlO42 buildO24
/-- Two leaves at one place. -/
structure Fl where
  root : Bs
  size : Int
  i : Int
  one : SlR
  pp : Option Addr
  pc : Nat
  path : List Bs
  two : SlR
  qp : Option Addr
  qc : Nat
  other : List Bs
def Fl.cells (x : Fl) : List Value := x.root.map V8 ++ [.int .i64 x.size, .int .i64 x.i, x.one.v, .slice x.pp x.path.length x.pc, x.two.v, .slice x.qp x.other.length x.qc]
/-- What is known of them. -/
structure Fl.In (W : World) (x : Fl) : Prop where
  root : x.root.length = 32
  s0 : -9223372036854775808 ≤ x.size
  s1 : x.size ≤ 9223372036854775807
  i0 : -9223372036854775808 ≤ x.i
  i1 : x.i ≤ 9223372036854775807
  one : Rd V8 W x.one.p x.one.cap x.one.d
  path : RdD W x.pp x.pc x.path
  two : Rd V8 W x.two.p x.two.cap x.two.d
  other : RdD W x.qp x.qc x.other
  p32 : All32 x.path
  q32 : All32 x.other
  lo : x.one.d.length ≤ 1048576
  lt : x.two.d.length ≤ 1048576
  lp : x.path.length ≤ 1048576
  lq : x.other.length ≤ 1048576
/-- Such a one in a box. -/
structure FlBox (w : World) (b : Nat) (x : Fl) : Prop where
  r : (LoadO 24 (.pointer (some ⟨b, 0, none⟩))).run Tryd.prog w = .ok (dv x.root) w
  c32 : w.cell? ⟨b, 32, none⟩ = some (.int .i64 x.size)
  c33 : w.cell? ⟨b, 33, none⟩ = some (.int .i64 x.i)
  c34 : w.cell? ⟨b, 34, none⟩ = some x.one.v
  c35 : w.cell? ⟨b, 35, none⟩ = some (.slice x.pp x.path.length x.pc)
  c36 : w.cell? ⟨b, 36, none⟩ = some x.two.v
  c37 : w.cell? ⟨b, 37, none⟩ = some (.slice x.qp x.other.length x.qc)
theorem Fl.box {w : World} {b : Nat} {x : Fl} {t : TypeId} (h : w.heap[b]? = some (.cells x.cells.toArray t)) (hr : x.root.length = 32) : FlBox w b x := by
  have hl : (x.root.map V8).length = 32 := by rw [List.length_map, hr]
  have hg : ∀ k v, ([.int .i64 x.size, .int .i64 x.i, x.one.v, .slice x.pp x.path.length x.pc, x.two.v, .slice x.qp x.other.length x.qc] : List Value)[k]? = some v → w.cell? ⟨b, 32 + k, none⟩ = some v := by
    intro k v hv
    rw [cell_blk h, List.getElem?_toArray]
    unfold Fl.cells
    rw [List.getElem?_append_right (by omega), hl, Nat.add_sub_cancel_left]
    exact hv
  refine ⟨?_, hg 0 _ rfl, hg 1 _ rfl, hg 2 _ rfl, hg 3 _ rfl, hg 4 _ rfl, hg 5 _ rfl⟩
  refine loadO_mid (cs := x.root.map V8) (range_blk h 0 _ (fun j v hv => ?_)) Tryd.underlying24 rfl (by rw [hl]; exact info26)
  rw [Nat.zero_add, List.getElem?_toArray]
  unfold Fl.cells
  rw [List.getElem?_append_left (List.getElem?_eq_some_iff.1 hv).1]
  exact hv
theorem check_zero {hf : Bs → Bs} {root : Bs} {size i : Int} {leaf : Bs} {path : List Bs} (h : checkE hf root size i leaf path = 0) :
    ∃ s j : Nat, size = s ∧ i = j ∧ 1 ≤ s ∧ s ≤ 1099511627776 ∧ j < s ∧ path.length = (sides s j).length ∧ climb hf (leafH hf leaf) ((sides s j).zip path) = root := by
  unfold checkE at h
  by_cases h1 : size < 1 ∨ 1099511627776 < size
  · rw [if_pos h1] at h; omega
  rw [if_neg h1] at h
  by_cases h2 : i < 0 ∨ size ≤ i
  · rw [if_pos h2] at h; omega
  rw [if_neg h2] at h
  refine ⟨size.toNat, i.toNat, by omega, by omega, by omega, by omega, by omega, ?_⟩
  rw [shownH_eq] at h
  by_cases h3 : path.length = (sides size.toNat i.toNat).length
  · rw [if_pos h3] at h
    refine ⟨h3, ?_⟩
    by_cases h4 : some (climb hf (leafH hf leaf) ((sides size.toNat i.toNat).zip path)) = some root
    · exact Option.some.inj h4
    · rw [if_neg h4] at h; omega
  · rw [if_neg h3, if_neg (by simp)] at h; omega
/-- One list of texts is appended to another. -/
theorem TextsAt.both {w w' : World} {B : Nat} {v v2 v' : Value} {ys zs : List SlR} {ts us : List Bs} (h : TextsAt w B v ys ts) (h2 : TextsAt w B v2 zs us) (ho : OwnL w' B v' (ys ++ zs)) (hg : w.grownBy w' v.ownBlock) : TextsAt w' B v' (ys ++ zs) (ts ++ us) := by
  refine ⟨ho, fun y hy => ?_, ?_⟩
  · rcases List.mem_append.1 hy with hy | hy
    · exact (h.each y hy).grownL h.own hg
    · exact (h2.each y hy).grownL h.own hg
  · rw [← h.is, ← h2.is]; simp [ds]
theorem TextsAt.ts {w : World} {B : Nat} {v : Value} {ys : List SlR} {ts : List Bs} (h : TextsAt w B v ys ts) (hs : ∀ t ∈ ts, t.length ≤ 70368744177664) (hl : ts.length ≤ 4294967296) : ∃ p c, v = .slice p ys.length c ∧ Ts w p c ys := by
  obtain ⟨p, c, h1, h2, _⟩ := h.own.rd
  exact ⟨p, c, h1, h2, fun y hy => own_rd (h.each y hy), fun y hy => hs _ (by rw [← h.is]; exact List.mem_map.2 ⟨y, hy, rfl⟩), by rw [h.len]; exact hl⟩
/-- append(a, b...) over texts. -/
theorem pushLs {ops : Array Oper} {rest : List Oper} {o : Oper} {a : Act} {Q : Exit → Act → World → Prop} {w : World} (hgd : o.guard = none) (s x : Operand)
    (ho : o.op = .call { callee := .builtin .append, args := #[s, x], argTypes := #[25, 25] }) (B : Nat) (v v2 : Value) (l l2 : List SlR) (hown : OwnL w B v l) (hs : a.eval s = v) (h2 : OwnL w B v2 l2) (hx : a.eval x = v2) (hne : l2 ≠ [])
    (hl : l.length ≤ 4294967296) (hl2 : l2.length ≤ 4294967296) (hbase : B ≤ w.heap.size)
    (h : ∀ v' w', OwnL w' B v' (l ++ l2) → w.grownBy w' v.ownBlock → wpList Tryd.prog ops Q rest (a.put o.dst v') w') : wpList Tryd.prog ops Q (o :: rest) a w := by
  obtain ⟨p, c, e1, e2, _⟩ := h2.rd
  obtain ⟨b, o', rfl, hr⟩ := e2.at_ hne
  exact wpList_pushE (.slice none 0 0) 24 Tryd.underlying25 infoSl rfl oneSl hgd s x ho B v l hown hs b o' l2.length c l2 (hx.trans e1) rfl hr (by unfold maxLen; omega) (by omega) hbase h
set_option maxRecDepth 100000 in
set_option maxHeartbeats 2000000 in
theorem oneleaf_law {hf : Bs → Bs} (x : Fl) (w : World) (h : x.In w) (H : Hs hf w) (R : Rf w) :
    Calls Tryd.prog 6 #[.agg x.cells.toArray] w fun e w' => e = .returned (.bool true) ∧ Mod [] w w' := by
  have HH := Lib.hid H
  have HRf := Lib.hid R
  have HI := Lib.hid h
  have M0 := Lib.hid ((Mod.refl [] w).alloc (.cells x.cells.toArray 56))
  have HBX := Lib.hid (hp_new w (.cells x.cells.toArray 56) _ rfl)
  clear H R h
  go_enter Tryd.func6, Tryd.ntmps6
  go_wp2_with fail
  refine (awake_any _ (HH.out.mod0 M0.out)).mono ?_
  rintro e w1 ⟨rfl, m1⟩
  have M1 := Lib.hid (M0.out.trans0 m1)
  have HB1 := Lib.hid (m1.get0 HBX.out)
  clear m1 M0 HBX
  obtain ⟨hL1, a32, a33, a34, a35, a36, a37⟩ := Fl.box HB1.out HI.out.root
  unfold SlR.v at a34 a36
  go_wp2_with fail
  refine (check_any x.root x.size x.i x.one.d x.one.p _ _ x.path x.pp _ _ _ rfl (HI.out.one.mod0 M1.out) (by have := HI.out.lo; omega) rfl (HI.out.path.mod0 M1.out) HI.out.p32 HI.out.root (HH.out.mod0 M1.out)).mono ?_
  rintro e w2 ⟨rfl, m2⟩
  have M2 := Lib.hid (M1.out.trans0 m2)
  have HB2 := Lib.hid (m2.get0 HB1.out)
  clear m2 M1 HB1 hL1 a32 a33 a34 a35 a36 a37
  obtain ⟨hL1, a32, a33, a34, a35, a36, a37⟩ := Fl.box HB2.out HI.out.root
  unfold SlR.v at a34 a36
  obtain ⟨E, hE⟩ : ∃ E, E = checkE hf x.root x.size x.i x.one.d x.path := ⟨_, rfl⟩
  rw [← hE]
  have HE := Lib.hid hE
  clear hE
  go_wp2_with fail
  refine (check_any x.root x.size x.i x.two.d x.two.p _ _ x.other x.qp _ _ _ rfl (HI.out.two.mod0 M2.out) (by have := HI.out.lt; omega) rfl (HI.out.other.mod0 M2.out) HI.out.q32 HI.out.root (HH.out.mod0 M2.out)).mono ?_
  rintro e w3 ⟨rfl, m3⟩
  have M3 := Lib.hid (M2.out.trans0 m3)
  have HB3 := Lib.hid (m3.get0 HB2.out)
  clear m3 M2 HB2 hL1 a32 a33 a34 a35 a36 a37
  obtain ⟨hL1, a32, a33, a34, a35, a36, a37⟩ := Fl.box HB3.out HI.out.root
  unfold SlR.v at a34 a36
  obtain ⟨F, hF⟩ : ∃ F, F = checkE hf x.root x.size x.i x.two.d x.other := ⟨_, rfl⟩
  rw [← hF]
  have HF := Lib.hid hF
  clear hF
  have hs1 := str_rd (HI.out.one.mod0 M3.out) _ rfl
  have hs2 := str_rd (HI.out.two.mod0 M3.out) _ rfl
  by_cases hE0 : E = 0
  · by_cases hF0 : F = 0
    · have HE0 := Lib.hid hE0
      have HF0 := Lib.hid hF0
      have hb : (E != 0) = false := by simp [hE0]
      have hc : (F != 0) = false := by simp [hF0]
      clear hE0 hF0
      by_cases hq : x.one.d = x.two.d
      · have hd : (x.one.d == x.two.d) = true := by simp [hq]
        clear hq
        go_wp2_with fail
        go_ret
        exact ⟨rfl, M3.out⟩
      · have hd : (x.one.d == x.two.d) = false := by simp [hq]
        obtain ⟨s, j, es, ej, b1, b2, b3, b4, b5⟩ := check_zero (HE.out.symm.trans HE0.out)
        obtain ⟨s', j', es', ej', _, _, _, b6, b7⟩ := check_zero (HF.out.symm.trans HF0.out)
        obtain rfl : s' = s := by omega
        obtain rfl : j' = j := by omega
        have HQ := Lib.hid hq
        rw [es] at a32
        rw [ej] at a33
        have f1 : (1 : Int) ≤ (s' : Int) := by omega
        have f2 : (s' : Int) ≤ 1099511627776 := by omega
        have f3 : (0 : Int) ≤ (j' : Int) := by omega
        have f4 : (j' : Int) < (s' : Int) := by omega
        rw [b4] at a35
        rw [b6] at a37
        have hS40 := sides_length 40 s' j' (by omega)
        have HT1 := Lib.hid (fun (W : World) (m : Mod [] w W) => rtexts_any s' j' x.one.d x.one.p _ x.one.cap x.path x.pp (sides s' j').length x.pc W b1 b2 (by omega) rfl (HI.out.one.mod0 m) (by have := HI.out.lo; omega) b4.symm (HI.out.path.mod0 m) HI.out.p32 b4 (HH.out.mod0 m) (HRf.out.mod0 m))
        have HT2 := Lib.hid (fun (W : World) (m : Mod [] w W) => rtexts_any s' j' x.two.d x.two.p _ x.two.cap x.other x.qp (sides s' j').length x.qc W b1 b2 (by omega) rfl (HI.out.two.mod0 m) (by have := HI.out.lt; omega) b6.symm (HI.out.other.mod0 m) HI.out.q32 b6 (HH.out.mod0 m) (HRf.out.mod0 m))
        have HSD := Lib.hid (fun W => rsides_any s' s' j' W (Nat.le_refl _) b1 b2 (by omega))
        have hcl := one_leaf HH.out.len (sides s' j') x.path x.other (0 :: x.one.d) (0 :: x.two.d) b4 b6 HI.out.p32 HI.out.q32 (by simpa using hq) (b5.trans b7.symm)
        generalize sides s' j' = S at *
        have hl1 : (textsT hf (0 :: x.one.d) (S.zip x.path)).length ≤ 41 := by rw [textsT_length]; simp; omega
        have hl2 : (textsT hf (0 :: x.two.d) (S.zip x.other)).length ≤ 41 := by rw [textsT_length]; simp; omega
        have hl0 : (textsT hf (0 :: x.two.d) (S.zip x.other)) ≠ [] := textsT_ne _ _
        have hz1 := textsT_small hf HH.out.len (S.zip x.path) (0 :: x.one.d) 4398046511105 (by have := HI.out.lo; simp; omega) (by omega) (fun z hz => HI.out.p32 _ (List.of_mem_zip hz).2)
        have hz2 := textsT_small hf HH.out.len (S.zip x.other) (0 :: x.two.d) 4398046511105 (by have := HI.out.lt; simp; omega) (by omega) (fun z hz => HI.out.q32 _ (List.of_mem_zip hz).2)
        generalize textsT hf (0 :: x.one.d) (S.zip x.path) = TA at *
        generalize textsT hf (0 :: x.two.d) (S.zip x.other) = TB at *
        have HCL := Lib.hid hcl
        have HL0 := Lib.hid hl0
        have HZ1 := Lib.hid hz1
        have HZ2 := Lib.hid hz2
        have HQ' := Lib.hid hq
        clear hq es ej es' ej' b4 b5 b6 b7 hcl hl0 hz1 hz2 HQ
        go_wp2_with fail
        refine (HSD.out _).mono ?_
        rintro e w4 ⟨v, rfl, ho, m4⟩
        obtain ⟨ps, cs, rfl, _⟩ := own_len ho
        have M4 := Lib.hid (M3.out.trans0 m4)
        have a32' := (cell_mod0 m4 a32)
        have a33' := (cell_mod0 m4 a33)
        have a34' := (cell_mod0 m4 a34)
        have a35' := (cell_mod0 m4 a35)
        have a36' := (cell_mod0 m4 a36)
        have a37' := (cell_mod0 m4 a37)
        clear ho m4 a32 a33 a34 a35 a36 a37 hL1 hs1 hs2
        go_wp2_with fail
        refine (HT1.out _ M4.out).mono ?_
        rintro e w5 ⟨va, ys, rfl, hta, m5⟩
        have M5 := Lib.hid (M4.out.trans0 m5)
        have HTA := Lib.hid (hta.mono (B' := w.heap.size) M4.out.size)
        have a32 := (cell_mod0 m5 a32')
        have a33 := (cell_mod0 m5 a33')
        have a36 := (cell_mod0 m5 a36')
        have a37 := (cell_mod0 m5 a37')
        clear hta m5 a32' a33' a34' a35' a36' a37'
        go_wp2_with fail
        refine (HT2.out _ M5.out).mono ?_
        rintro e w6 ⟨vb, zs, rfl, htb, m6⟩
        have M6 := Lib.hid (M5.out.trans0 m6)
        have HTB := Lib.hid (htb.mono (B' := w.heap.size) M5.out.size)
        have HTA6 := Lib.hid (HTA.out.mod0 m6)
        clear htb m6 a32 a33 a36 a37 HTA
        go_wp2_with (at_builtin; with_reducible refine froz_app _ _ rfl ?_)
        unfold Froz
        refine pushLs rfl _ _ rfl w.heap.size va vb ys zs HTA6.out.own rfl HTB.out.own rfl (by
          rintro rfl
          exact HL0.out (by rw [← HTB.out.is]; rfl)) (by rw [HTA6.out.len]; omega) (by rw [HTB.out.len]; omega) M6.out.size ?_
        intro v8 w8 ho8 hg8
        have h8 := TextsAt.both HTA6.out HTB.out ho8 hg8
        have M8 := Lib.hid (M6.out.of_grown hg8 (fun g hg => .inr (HTA6.out.own.row g hg)))
        obtain ⟨p8, c8, rfl, ht8⟩ := h8.ts (fun t ht => by
          rcases List.mem_append.1 ht with ht | ht
          · have := HZ1.out t ht; omega
          · have := HZ2.out t ht; omega) (by rw [List.length_append]; omega)
        have HT8 := Lib.hid ht8
        have HIS := Lib.hid h8.is
        clear ho8 hg8 h8 ht8
        go_wp2_with fail
        refine (clash_any (ys ++ zs) p8 c8 _ _ (by simp) HT8.out (by rw [HIS.out]; exact HCL.out) (HH.out.mod0 M8.out)).mono ?_
        rintro e w9 ⟨rfl, m9⟩
        go_wp2_with fail
        go_ret
        exact ⟨rfl, M8.out.trans0 m9⟩
    · have HE0 := Lib.hid hE0
      have hb : (E != 0) = false := by simp [hE0]
      have hc : (F != 0) = true := by simp [hF0]
      clear hE0 hF0
      go_wp2_with fail
      go_ret
      exact ⟨rfl, M3.out⟩
  · have hb : (E != 0) = true := by simp [hE0]
    clear hE0
    go_wp2_with fail
    go_ret
    exact ⟨rfl, M3.out⟩
end Go.Proofs.YtbbobpjcbnfpfaaDoor
