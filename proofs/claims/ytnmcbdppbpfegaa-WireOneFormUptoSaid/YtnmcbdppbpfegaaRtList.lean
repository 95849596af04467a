/- List of lists of bytes, whatever function it is handed. Condition: at most 2^22 bytes. -/
import Derived.Test.YtnmcbdppbpfegaaRrList
import Derived.Test.YtnmcbdppbpfegaaSlR
namespace Go.Proofs.Ytnmcbdppbpfegaa
open Go.RowKit
attribute [local go_sem high] one8 st8 cm8 b_and8 b_and8r b_and8l b_or8 b_or8r b_or8l b_xor8 b_xor8r b_xor8l b_andNot8 b_andNot8r b_andNot8l b_add8 b_add8r b_add8l b_sub8 b_sub8r b_sub8l b_mul8 b_mul8r b_mul8l b_eql8 b_eql8r b_eql8l b_neq8 b_neq8r b_neq8l b_lss8 b_lss8r b_lss8l b_leq8 b_leq8r b_leq8l b_gtr8 b_gtr8r b_gtr8l b_geq8 b_geq8r b_geq8l b_quo8r b_rem8r b_shl8r b_shr8r b_shl8l b_shr8l u_xor8 g_eql8 g_neq8 g_eql8' g_neq8' one32 st32 cm32 b_and32 b_and32r b_and32l b_or32 b_or32r b_or32l b_xor32 b_xor32r b_xor32l b_andNot32 b_andNot32r b_andNot32l b_add32 b_add32r b_add32l b_sub32 b_sub32r b_sub32l b_mul32 b_mul32r b_mul32l b_eql32 b_eql32r b_eql32l b_neq32 b_neq32r b_neq32l b_lss32 b_lss32r b_lss32l b_leq32 b_leq32r b_leq32l b_gtr32 b_gtr32r b_gtr32l b_geq32 b_geq32r b_geq32l b_quo32r b_rem32r b_shl32r b_shr32r b_shl32l b_shr32l u_xor32 g_eql32 g_neq32 g_eql32' g_neq32' one64 st64 cm64 b_and64 b_and64r b_and64l b_or64 b_or64r b_or64l b_xor64 b_xor64r b_xor64l b_andNot64 b_andNot64r b_andNot64l b_add64 b_add64r b_add64l b_sub64 b_sub64r b_sub64l b_mul64 b_mul64r b_mul64l b_eql64 b_eql64r b_eql64l b_neq64 b_neq64r b_neq64l b_lss64 b_lss64r b_lss64l b_leq64 b_leq64r b_leq64l b_gtr64 b_gtr64r b_gtr64l b_geq64 b_geq64r b_geq64l b_quo64r b_rem64r b_shl64r b_shr64r b_shl64l b_shr64l u_xor64 g_eql64 g_neq64 g_eql64' g_neq64' c_u8_u8 c_u8_u32 c_u8_u64 c_i_u8 c_u32_u8 c_u32_u32 c_u32_u64 c_i_u32 c_u64_u8 c_u64_u32 c_u64_u64 c_i_u64 c_u8_i c_u32_i
attribute [local go_sem ↓] ce8 ce32 ce64
attribute [local go_sem ↓] sliced_slp
def cs (x : SlR) : List Value := [.slice x.p x.d.length x.cap]
theorem cs_len (x : SlR) : (cs x).length = 1 := rfl
theorem cs_one (x : SlR) : ∀ u ∈ cs x, u.oneCell' = true := by
  intro u hu
  simp only [cs, List.mem_singleton] at hu
  subst hu
  rfl
abbrev OwnS (w : World) (B : Nat) (v : Value) (l : List SlR) : Prop := OwnN 22 1 cs w B v l
theorem infoSl : (Try.prog.info? 22).map (fun i => (i.zero, i.size, i.bytes)) = some (some (.slice none 0 0), 1, 24) := by kernel_rfl
theorem range_cs (w : World) (x : SlR) (b : Nat) (hb : b = w.heap.size) : (w.alloc (.cells #[.slice x.p x.d.length x.cap] 22)).rangeAt b 0 ([x].flatMap cs) :=
  range_blk (hp_new w (.cells #[.slice x.p x.d.length x.cap] 22) b hb) 0 _ (fun j v hv => by simpa [cs] using hv)
theorem callLstB1 (xs : Array Value) (w : World) : (callFunc 105 xs).run Try.prog w = .ok (.enter 105 xs) w := by kernel_rfl
theorem lstB1_yes (B g br bm bn : Nat) (v : Value) (R : Rr) (w : World) (h : IsR w B g v R) (m : Int) (n c : Nat) (hp : manyP m (R.b.drop R.at_) = .ok (n, c)) (hb : w.cell? ⟨br, 0, none⟩ = some (.pointer (some ⟨g, 0, none⟩))) (hmc : w.cell? ⟨bm, 0, none⟩ = some (.int .i64 m)) (hn : w.heap[bn]? = some (.cells #[.int .i64 0] 3 (0, 0))) (hne : bn ≠ g) (hv : v.ownBlock ≠ some bn) :
    Calls Try.prog 105 #[.pointer (some ⟨br, 0, none⟩), .pointer (some ⟨bm, 0, none⟩), .pointer (some ⟨bn, 0, none⟩)] w fun e w' => e = .returned (.tuple #[]) ∧ IsR w' B g v { R with at_ := R.at_ + c } ∧ w'.heap[bn]? = some (.cells #[.int .i64 n] 3 (0, 0)) ∧ Mod [g, bn] w w' := by
  have HN := Lib.hid (many_yes B g v R w h m n c hp)
  have HB := Lib.hid hn
  clear h hp hn
  go_enter Try.func105, Try.ntmps105
  go_wp2_with fail
  refine HN.out.mono ?_
  rintro e w1 ⟨rfl, hi, hm⟩
  have hb1 := hm.get HB.out (by simpa using hne)
  have c1 : w1.cell? ⟨bn, 0, none⟩ = some (.int .i64 0) := by rw [cell_blk hb1]; rfl
  have f1 := frozen_blk hb1 0
  have HI := Lib.hid hi
  have HM := Lib.hid hm
  have HB1 := Lib.hid hb1
  clear hi hm hb1 hb hmc
  go_wp2_with fail
  go_end0
  refine ⟨rfl, HI.out.mod ((Mod.refl [bn] w1).setCell (p := ⟨bn, 0, none⟩) (.inl (by simp)) _) (by simpa using hne.symm) (fun x hx => ?_), hp_sc HB1.out, (HM.out.mono (S' := [g, bn]) (fun x hx => .inl (by simp at hx; simp [hx]))).setCell (p := ⟨bn, 0, none⟩) (.inl (by simp)) _⟩
  rw [List.mem_singleton] at hx
  subst hx
  exact hv
theorem lstB1_no (B g br bm bn : Nat) (v : Value) (R : Rr) (w : World) (h : IsR w B g v R) (m : Int) (er : Int) (hp : manyP m (R.b.drop R.at_) = .error er) (hb : w.cell? ⟨br, 0, none⟩ = some (.pointer (some ⟨g, 0, none⟩))) (hmc : w.cell? ⟨bm, 0, none⟩ = some (.int .i64 m)) :
    Calls Try.prog 105 #[.pointer (some ⟨br, 0, none⟩), .pointer (some ⟨bm, 0, none⟩), .pointer (some ⟨bn, 0, none⟩)] w (GaveUp B g v R er w) := by
  have HN := Lib.hid (many_no B g v R w h m er hp)
  clear h hp
  go_enter Try.func105, Try.ntmps105
  go_wp2_with fail
  refine HN.out.mono ?_
  rintro e w1 ⟨rfl, hi, hm⟩
  exact ⟨rfl, rfl, hi, hm⟩
set_option maxRecDepth 100000 in
theorem listSl_any (B g : Nat) (v : Value) (R : Rr) (w : World) (h : IsR w B g v R) (m : Int) (k : FuncId) (caps : Array Value) (hf : ∀ (xs : Array Value) (w : World), (callFunc k xs).run Try.prog w = .ok (.enter k xs) w) (S : List Nat) (hS : ∀ x ∈ S, x < w.heap.size)
    (I : List SlR → Rr → World → Prop)
    (h0 : ∀ w1, IsR w1 B g v (R.count m).1 → Mod [g] w w1 → I [] (R.count m).1 w1)
    (hw : ∀ xs R1 w1, I xs R1 w1 → IsR w1 B g v R1)
    (hst : ∀ xs R1 w1 w2 T, I xs R1 w1 → Mod T w1 w2 → (∀ x ∈ T, w.heap.size ≤ x) → (∀ x ∈ T, ∃ C, w1.heap[x]? = some (.cells C 22 (0, 0))) → I xs R1 w2)
    (h1 : ∀ xs R1 w1, I xs R1 w1 → R1.e = 0 → xs.length < (R.count m).2 → Mod (g :: S) w w1 → Calls Try.prog k (#[.pointer (some ⟨g, 0, none⟩)] ++ caps) w1 fun e w2 => ∃ x R2, e = .returned (.slice x.p x.d.length x.cap) ∧ I (xs ++ [x]) R2 w2 ∧ Mod S w1 w2) :
    Calls Try.prog 77 #[.pointer (some ⟨g, 0, none⟩), .int .i64 m, .func (.func k) #[] caps] w fun e w' => ∃ r xs R', e = .returned r ∧ I xs R' w' ∧ Mod (g :: S) w w' ∧ xs.length ≤ (R.count m).2 ∧
      ((R'.e = 0 ∧ xs.length = (R.count m).2 ∧ OwnS w' w.heap.size r xs) ∨ (R'.e ≠ 0 ∧ r = .slice none 0 0)) := by
  have hmf : ∀ (fn : Fn) (first cap : Array Value) (w : World), (Instr.makeFunc fn first cap).run Try.prog w = .ok (.func fn first cap) w := fun _ _ _ _ => rfl
  have hgl := h.lt
  have hvl := h.own_lt
  have hcn : (R.count m).2 ≤ 4194304 := by
    unfold Rr.count
    split
    · exact Nat.zero_le _
    · split
      · exact Nat.zero_le _
      · rename_i n c hp
        obtain ⟨_, _, hl⟩ := manyP_ok hp
        have := h.len
        rw [List.length_drop] at hl
        show n ≤ _
        omega
  obtain ⟨W3, hW3⟩ : ∃ W, W = ((w.alloc (.cells #[.pointer (some ⟨g, 0, none⟩)] 23)).alloc (.cells #[.int .i64 m] 3)).alloc (.cells #[.int .i64 0] 3) := ⟨_, rfl⟩
  have hb1 : W3.heap[w.heap.size]? = some (.cells #[.pointer (some ⟨g, 0, none⟩)] 23 (0, 0)) := by rw [hW3]; exact hp_old (hp_old (hp_new w _ _ rfl))
  have hb2 : W3.heap[w.heap.size + 1]? = some (.cells #[.int .i64 m] 3 (0, 0)) := by rw [hW3]; exact hp_old (hp_new _ _ _ (by simp))
  have hb3 : W3.heap[w.heap.size + 1 + 1]? = some (.cells #[.int .i64 0] 3 (0, 0)) := by rw [hW3]; exact hp_new _ _ _ (by simp)
  have hm3 : Mod [] w W3 := by rw [hW3]; exact (((Mod.refl [] w).alloc _).alloc _).alloc _
  have hs3 : w.heap.size + 1 + 1 < W3.heap.size := lt_of_block hb3
  have hT := tryCount 105 callLstB1 (fun B g br bm bn v R w h m n c => lstB1_yes B g br bm bn v R w h m n c) (fun B g br bm bn v R w h m er => lstB1_no B g br bm bn v R w h m er)
    B g w.heap.size (w.heap.size + 1) (w.heap.size + 1 + 1) v R W3 (h.mod0 hm3) m (by rw [cell_blk hb1]; rfl) (by rw [cell_blk hb2]; rfl) hb3 (by omega) (fun hv => by have := hvl _ hv; omega)
  have hno := @count_none R m
  obtain ⟨N, hN⟩ : ∃ N, N = (R.count m).2 := ⟨_, rfl⟩
  obtain ⟨RC, hRC⟩ : ∃ RC, RC = (R.count m).1 := ⟨_, rfl⟩
  rw [← hN] at hT hcn h1 hno ⊢
  rw [← hRC] at hT h0 hno
  have HNO := Lib.hid hno
  have HST := Lib.hid hst
  clear hno hst
  rw [hW3] at hT
  have HT := Lib.hid hT
  have H0 := Lib.hid h0
  have HW := Lib.hid hw
  have H1 := Lib.hid h1
  have HS := Lib.hid hS
  have HF := Lib.hid hf
  have HB1 := Lib.hid hb1
  have HM3 := Lib.hid hm3
  have HW3 := Lib.hid hW3
  have hq := fun (w : World) => run_eql_func_nil (P := Try.prog) Try.underlying106 (.func k) #[] caps w
  clear h h0 hw h1 hS hf hT hN hRC hb1 hb2 hb3 hm3 hW3 hvl
  go_enter Try.func77, Try.ntmps77
  go_wp2_with fail
  refine HT.out.mono ?_
  rintro e w4 ⟨rfl, hi, hbn, hm⟩
  rw [← HW3.out] at hm
  have M4 : Mod (g :: S) w w4 := (HM3.out.mono (S' := g :: S) (by simp)).trans hm (fun x hx => by
    simp at hx
    rcases hx with rfl | rfl
    · exact .inl (by simp)
    · exact .inr (by omega))
  have hg4 : Mod [g] w w4 := (HM3.out.mono (S' := [g]) (by simp)).trans hm (fun x hx => by
    simp at hx
    rcases hx with rfl | rfl
    · exact .inl (by simp)
    · exact .inr (by omega))
  have HI0 := Lib.hid (H0.out w4 hi hg4)
  have hbx := hm.get HB1.out (by simp; omega)
  have HBX := Lib.hid hbx
  have HM4 := Lib.hid M4
  have cn : w4.cell? ⟨w.heap.size + 1 + 1, 0, none⟩ = some (.int .i64 N) := by rw [cell_blk hbn]; rfl
  have hs4 : w.heap.size < w4.heap.size := lt_of_block hbx
  have hRCe : RC.e = 0 ∨ N = 0 := by
    by_cases h : RC.e = 0
    · exact .inl h
    · exact .inr (HNO.out h)
  have HRC := Lib.hid hRCe
  clear hi hbn hm M4 hg4 hbx HT hq hmf hRCe
  go_wp2_with fail
  clear cn
  go_loopw [8, 20] (fun lv iv wr => ∃ (xs : List SlR) (R1 : Rr) (vl : Value), xs.length ≤ N ∧ iv = .int .i64 xs.length ∧ lv = vl ∧ OwnS wr w.heap.size vl xs ∧ I xs R1 wr ∧ (R1.e = 0 ∨ N = 0) ∧ (xs.length = 0 → vl = .slice none 0 0) ∧ Mod (g :: S) w wr ∧ wr.heap[w.heap.size]? = some (.cells #[.pointer (some ⟨g, 0, none⟩)] 23 (0, 0))) (fun _ iv _ => N - (intOf iv).toNat)
  case atStart => exact ⟨[], RC, _, by simp, rfl, rfl, OwnN.nil _ _ _ _ _, HI0.out, HRC.out, fun _ => rfl, HM4.out, HBX.out⟩
  case round =>
    obtain ⟨xs, R1, vl, hxn, rfl, rfl, ho, hI, hR1, hnil, hm, hbx⟩ := hrel
    have HNIL := Lib.hid hnil
    have HR1 := Lib.hid hR1
    clear hnil hR1
    have HO := Lib.hid ho
    have HII := Lib.hid hI
    have HM := Lib.hid hm
    have HB := Lib.hid hbx
    have hcb : wr.cell? ⟨w.heap.size, 0, none⟩ = some (.pointer (some ⟨g, 0, none⟩)) := by rw [cell_blk hbx]; rfl
    obtain ⟨pl, cl, hvl, _, _⟩ := OwnN.rd ho
    clear ho hI hm hbx HI0 HBX HM4
    by_cases hlt : xs.length < N
    · have he0 : R1.e = 0 := by
        rcases HR1.out with h | h
        · exact h
        · omega
      have HC := Lib.hid (H1.out xs R1 wr HII.out he0 hlt HM.out)
      have hff := fun (ys : Array Value) (w : World) => HF.out ys w
      clear hvl
      go_wp2_with fail
      refine HC.out.mono ?_
      rintro e w5 ⟨x, R2, rfl, hI2, m5⟩
      have hbx5 := m5.get HB.out (fun hx => by have := HS.out _ hx; omega)
      have hcb5 : w5.cell? ⟨w.heap.size, 0, none⟩ = some (.pointer (some ⟨g, 0, none⟩)) := by rw [cell_blk hbx5]; rfl
      have hc2 := (HW.out _ _ _ hI2).c2
      have HI2 := Lib.hid hI2
      have HO5 := Lib.hid (HO.out.mod m5 (fun y hy hv => by have := HS.out _ hy; have := HO.out.row y hv; omega))
      have HM5 := Lib.hid (HM.out.trans m5 (fun y hy => .inl (by simp [hy])))
      have HB5 := Lib.hid hbx5
      clear hI2 m5 hbx5 hcb hff HC
      by_cases he2 : R2.e = 0
      · have d2 : (R2.e != 0) = false := by simp [he2]
        have HE2 := Lib.hid he2
        clear he2
        go_wp2_with (at_builtin; with_reducible refine froz_app _ _ rfl ?_)
        unfold Froz
        refine wpList_pushN (.slice none 0 0) 24 Try.underlying75 infoSl rfl (by decide) cs_len cs_one rfl _ _ rfl w.heap.size _ xs (HO5.out.alloc _) rfl w5.heap.size 0 1 1 [x] rfl rfl (range_cs w5 x _ rfl) (by unfold maxLen; simp; omega) (by simp; omega) (by simp; have := HM5.out.size; omega) ?_
        intro v' w7 ho7 hg7
        obtain ⟨ys, hys⟩ : ∃ ys, ys = xs ++ [x] := ⟨_, rfl⟩
        change OwnS w7 w.heap.size v' (xs ++ [x]) at ho7
        have HYL := Lib.hid (show ys.length = xs.length + 1 by rw [hys]; simp)
        rw [← hys] at ho7 HI2
        have hm7 : Mod u8.ownBlock.toList w5 w7 := (((Mod.refl u8.ownBlock.toList w5).alloc _)).of_grown hg7 (fun y hy => .inl (by rw [hy]; simp))
        have HI7 := Lib.hid (HST.out _ _ _ _ _ HI2.out hm7 (fun y hy => HO5.out.row y (by simpa using hy)) (fun y hy => HO5.out.type y (by simpa using hy)))
        have hb7 := hm7.get HB5.out (fun hx => by
          obtain ⟨C, hC⟩ := HO5.out.type _ (by simpa using hx)
          have := HB5.out
          rw [hC] at this; injection this with this; injection this with _ h2 _
          exact absurd h2 (by decide))
        have HM7 := Lib.hid (HM5.out.trans hm7 (fun y hy => .inr (HO5.out.row y (by simpa using hy))))
        have HB7 := Lib.hid hb7
        have HO7 := Lib.hid ho7
        obtain ⟨p7, c7, hv7, _, _⟩ := OwnN.rd ho7
        clear ho7 hg7 hm7 hb7 hcb5 hc2 hys
        subst hv7
        go_wp2_with fail
        go_roundw
        case rel => exact ⟨ys, R2, _, by rw [HYL.out]; omega, by rw [HYL.out]; go_num, rfl, HO7.out, HI7.out, .inl HE2.out, fun h => by rw [HYL.out] at h; omega, HM7.out, HB7.out⟩
        case measure => simp [intOf]; omega
      · have d2 : (R2.e != 0) = true := by simpa using he2
        go_wp2_with fail
        go_ret
        exact ⟨_, _, R2, rfl, HI2.out, HM5.out, by simp; omega, .inr ⟨he2, rfl⟩⟩
    · have hd : decide ((xs.length : Int) < (N : Int)) = false := by simp; omega
      subst hvl
      go_wp2_with fail
      go_ret
      by_cases he1 : R1.e = 0
      · exact ⟨_, xs, R1, rfl, HII.out, HM.out, hxn, .inl ⟨he1, by omega, HO.out⟩⟩
      · have hn0 : N = 0 := by
          rcases HR1.out with h | h
          · exact absurd h he1
          · exact h
        have hx0 : xs = [] := List.eq_nil_of_length_eq_zero (by omega)
        exact ⟨_, xs, R1, rfl, HII.out, HM.out, hxn, .inr ⟨he1, HNIL.out (by omega)⟩⟩
end Go.Proofs.Ytnmcbdppbpfegaa
