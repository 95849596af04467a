/- Number, End of a reader. Condition: at most 2^22 bytes. -/
import Derived.Test.YtnmcbdppbpfegaaRrTry
namespace Go.Proofs.Ytnmcbdppbpfegaa
open Go.RowKit
attribute [local go_sem high] one8 st8 cm8 b_and8 b_and8r b_and8l b_or8 b_or8r b_or8l b_xor8 b_xor8r b_xor8l b_andNot8 b_andNot8r b_andNot8l b_add8 b_add8r b_add8l b_sub8 b_sub8r b_sub8l b_mul8 b_mul8r b_mul8l b_eql8 b_eql8r b_eql8l b_neq8 b_neq8r b_neq8l b_lss8 b_lss8r b_lss8l b_leq8 b_leq8r b_leq8l b_gtr8 b_gtr8r b_gtr8l b_geq8 b_geq8r b_geq8l b_quo8r b_rem8r b_shl8r b_shr8r b_shl8l b_shr8l u_xor8 g_eql8 g_neq8 g_eql8' g_neq8' one32 st32 cm32 b_and32 b_and32r b_and32l b_or32 b_or32r b_or32l b_xor32 b_xor32r b_xor32l b_andNot32 b_andNot32r b_andNot32l b_add32 b_add32r b_add32l b_sub32 b_sub32r b_sub32l b_mul32 b_mul32r b_mul32l b_eql32 b_eql32r b_eql32l b_neq32 b_neq32r b_neq32l b_lss32 b_lss32r b_lss32l b_leq32 b_leq32r b_leq32l b_gtr32 b_gtr32r b_gtr32l b_geq32 b_geq32r b_geq32l b_quo32r b_rem32r b_shl32r b_shr32r b_shl32l b_shr32l u_xor32 g_eql32 g_neq32 g_eql32' g_neq32' one64 st64 cm64 b_and64 b_and64r b_and64l b_or64 b_or64r b_or64l b_xor64 b_xor64r b_xor64l b_andNot64 b_andNot64r b_andNot64l b_add64 b_add64r b_add64l b_sub64 b_sub64r b_sub64l b_mul64 b_mul64r b_mul64l b_eql64 b_eql64r b_eql64l b_neq64 b_neq64r b_neq64l b_lss64 b_lss64r b_lss64l b_leq64 b_leq64r b_leq64l b_gtr64 b_gtr64r b_gtr64l b_geq64 b_geq64r b_geq64l b_quo64r b_rem64r b_shl64r b_shr64r b_shl64l b_shr64l u_xor64 g_eql64 g_neq64 g_eql64' g_neq64' c_u8_u8 c_u8_u32 c_u8_u64 c_i_u8 c_u32_u8 c_u32_u32 c_u32_u64 c_i_u32 c_u64_u8 c_u64_u32 c_u64_u64 c_i_u64 c_u8_i c_u32_i
attribute [local go_sem ↓] ce8 ce32 ce64
attribute [local go_sem ↓] sliced_slp
theorem callNum1 (xs : Array Value) (w : World) : (callFunc 39 xs).run Try.prog w = .ok (.enter 39 xs) w := by kernel_rfl
/-- The look of Number, where it goes well: the number lies in its variable. -/
theorem num1_yes (B g br bn : Nat) (v : Value) (R : Rr) (w : World) (h : IsR w B g v R) (n c : Nat) (hp : numP (R.b.drop R.at_) = .ok (n, c)) (hb : w.cell? ⟨br, 0, none⟩ = some (.pointer (some ⟨g, 0, none⟩))) (hn : w.heap[bn]? = some (.cells #[.int .i64 0] 3 (0, 0))) (hne : bn ≠ g) (hv : v.ownBlock ≠ some bn) :
    Calls Try.prog 39 #[.pointer (some ⟨br, 0, none⟩), .pointer (some ⟨bn, 0, none⟩)] w fun e w' => e = .returned (.tuple #[]) ∧ IsR w' B g v { R with at_ := R.at_ + c } ∧ w'.heap[bn]? = some (.cells #[.int .i64 n] 3 (0, 0)) ∧ Mod [g, bn] w w' := by
  have HN := Lib.hid (rnumber_yes B g v R w h n c hp)
  have HB := Lib.hid hn
  clear h hp hn
  go_enter Try.func39, Try.ntmps39
  go_wp2_with fail
  refine HN.out.mono ?_
  rintro e w1 ⟨rfl, hi, hm⟩
  have hb1 := hm.get HB.out (by simpa using hne)
  have c1 : w1.cell? ⟨bn, 0, none⟩ = some (.int .i64 0) := by rw [cell_blk hb1]; rfl
  have f1 := frozen_blk hb1 0
  have HI := Lib.hid hi
  have HM := Lib.hid hm
  have HB1 := Lib.hid hb1
  clear hi hm hb1 hb
  go_wp2_with fail
  go_end0
  refine ⟨rfl, HI.out.mod ((Mod.refl [bn] w1).setCell (p := ⟨bn, 0, none⟩) (.inl (by simp)) _) (by simpa using hne.symm) (fun x hx => ?_), hp_sc HB1.out, (HM.out.mono (S' := [g, bn]) (fun x hx => .inl (by simp at hx; simp [hx]))).setCell (p := ⟨bn, 0, none⟩) (.inl (by simp)) _⟩
  rw [List.mem_singleton] at hx
  subst hx
  exact hv
theorem num1_no (B g br bn : Nat) (v : Value) (R : Rr) (w : World) (h : IsR w B g v R) (er : Int) (hp : numP (R.b.drop R.at_) = .error er) (hb : w.cell? ⟨br, 0, none⟩ = some (.pointer (some ⟨g, 0, none⟩))) :
    Calls Try.prog 39 #[.pointer (some ⟨br, 0, none⟩), .pointer (some ⟨bn, 0, none⟩)] w (GaveUp B g v R er w) := by
  have HN := Lib.hid (rnumber_no B g v R w h er hp)
  clear h hp
  go_enter Try.func39, Try.ntmps39
  go_wp2_with fail
  refine HN.out.mono ?_
  rintro e w1 ⟨rfl, hi, hm⟩
  exact ⟨rfl, rfl, hi, hm⟩
/-- What Number makes of a reader. -/
def Rr.num (R : Rr) : Rr × Nat :=
  if R.e ≠ 0 then (R, 0) else match numP (R.b.drop R.at_) with
  | .error er => ({ R with e := er }, 0)
  | .ok (n, c) => ({ R with at_ := R.at_ + c }, n)
/-- Behind a call that turns a reader. -/
def RrPost (B g : Nat) (v : Value) (R : Rr) (r : Value) (w : World) (e : Ending) (w' : World) : Prop := e = .returned r ∧ IsR w' B g v R ∧ Mod [g] w w'
theorem results_int {fn : Func} {p : Tmp} (h : fn.results = #[.cell p 3]) (tmps : Array Value) (w : World) (b : Nat) (n : Int) (hp : tmps.getD p undef = .pointer (some ⟨b, 0, none⟩)) (hg : w.cell? ⟨b, 0, none⟩ = some (.int .i64 n)) : (results fn tmps).run Try.prog w = .ok (.int .i64 n) w := by
  have hp' : tmps[p]?.getD undef = .pointer (some ⟨b, 0, none⟩) := by simpa using hp
  simp [results, h, hp', asAddr, go_sem, hg]
set_option maxRecDepth 100000 in
theorem rNumber_any (B g : Nat) (v : Value) (R : Rr) (w : World) (h : IsR w B g v R) :
    Calls Try.prog 13 #[.pointer (some ⟨g, 0, none⟩)] w (RrPost B g v R.num.1 (.int .i64 R.num.2) w) := by
  have hmf : ∀ (fn : Fn) (first cap : Array Value) (w : World), (Instr.makeFunc fn first cap).run Try.prog w = .ok (.func fn first cap) w := fun _ _ _ _ => rfl
  unfold RrPost Rr.num
  have H := Lib.hid h
  have hgl := h.lt
  have M2 := ((Mod.refl [] w).alloc (.cells #[.pointer (some ⟨g, 0, none⟩)] 23)).alloc (.cells #[.int .i64 0] 3)
  have hbr : ((w.alloc (.cells #[.pointer (some ⟨g, 0, none⟩)] 23)).alloc (.cells #[.int .i64 0] 3)).heap[w.heap.size]? = some (.cells #[.pointer (some ⟨g, 0, none⟩)] 23 (0, 0)) := hp_old (hp_new w _ _ rfl)
  have hbn : ((w.alloc (.cells #[.pointer (some ⟨g, 0, none⟩)] 23)).alloc (.cells #[.int .i64 0] 3)).heap[w.heap.size + 1]? = some (.cells #[.int .i64 0] 3 (0, 0)) := hp_new _ _ _ (by simp)
  obtain ⟨W2, hW2⟩ : ∃ W, W = (w.alloc (.cells #[.pointer (some ⟨g, 0, none⟩)] 23)).alloc (.cells #[.int .i64 0] 3) := ⟨_, rfl⟩
  rw [← hW2] at M2 hbr hbn
  have h2 := h.mod0 M2
  have hsz := M2.size
  have hs2 : w.heap.size + 1 < W2.heap.size := lt_of_block hbn
  have hv1 : ∀ x, v.ownBlock = some x → x < w.heap.size := h.own_lt
  have cbr : W2.cell? ⟨w.heap.size, 0, none⟩ = some (.pointer (some ⟨g, 0, none⟩)) := by rw [cell_blk hbr]; rfl
  have htail : ∀ (n : Int) (R' : Rr) (w3 : World), IsR w3 B g v R' → Mod [g] w w3 → w3.heap[w.heap.size + 1]? = some (.cells #[.int .i64 n] 3 (0, 0)) →
      w3.cell? ⟨w.heap.size + 1, 0, none⟩ = some (.int .i64 n) ∧ w3.frozen? ⟨w.heap.size + 1, 0, none⟩ = false ∧ (w3.setCell ⟨w.heap.size + 1, 0, none⟩ (.int .i64 n)).cell? ⟨w.heap.size + 1, 0, none⟩ = some (.int .i64 n) ∧ IsR (w3.setCell ⟨w.heap.size + 1, 0, none⟩ (.int .i64 n)) B g v R' ∧ Mod [g] w (w3.setCell ⟨w.heap.size + 1, 0, none⟩ (.int .i64 n)) := by
    intro n R' w3 hi hm hb
    refine ⟨by rw [cell_blk hb]; rfl, frozen_blk hb 0, by rw [cell_blk (hp_sc hb)]; rfl, hi.mod ((Mod.refl [w.heap.size + 1] w3).setCell (p := ⟨w.heap.size + 1, 0, none⟩) (.inl (by simp)) _) (by simp; omega) (fun x hx hv => ?_), hm.setCell (p := ⟨w.heap.size + 1, 0, none⟩) (.inr (by simp)) _⟩
    rw [List.mem_singleton] at hx
    subst hx
    have := hv1 _ hv
    omega
  have HT := Lib.hid htail
  have HCB := Lib.hid cbr
  have HBN := Lib.hid hbn
  have HM2 := Lib.hid M2
  have H2 := Lib.hid h2
  have HW2 := Lib.hid hW2
  have HV := Lib.hid hv1
  clear h hbr hbn M2 h2 cbr htail hW2 hv1
  by_cases he : R.e = 0
  · rw [if_neg (by simpa using he)]
    cases hp : numP (R.b.drop R.at_) with
    | ok x =>
      obtain ⟨n, c⟩ := x
      have HTY := Lib.hid (try_yes B g v R W2 H2.out he 39 #[.pointer (some ⟨w.heap.size, 0, none⟩), .pointer (some ⟨w.heap.size + 1, 0, none⟩)] callNum1
        (fun w1 w2 => IsR w2 B g v { R with at_ := R.at_ + c } ∧ w2.heap[w.heap.size + 1]? = some (.cells #[.int .i64 n] 3 (0, 0)) ∧ Mod [g, w.heap.size + 1] w1 w2)
        (fun w1 m1 => num1_yes B g _ _ v R w1 (H2.out.mod0 m1) n c hp ((World.cell?_of_block (w := W2) (m1.block _ (by show w.heap.size < _; omega) (by simp))).trans HCB.out) (m1.get0 HBN.out) (by omega) (fun hv => by have := HV.out _ hv; omega)))
      rw [HW2.out] at HTY
      clear he hp
      go_enter Try.func13, Try.ntmps13
      go_wp2_with fail
      refine HTY.out.mono ?_
      rintro e w3 ⟨rfl, w1, m1, hi, hb, hm⟩
      rw [← HW2.out] at m1
      have M3 : Mod [g] w w3 := ((HM2.out.trans0 m1).mono (by simp)).trans hm (fun x hx => by
        simp at hx
        rcases hx with rfl | rfl
        · exact .inl (by simp)
        · exact .inr (by omega))
      obtain ⟨c1, f1, g1, HE⟩ := HT.out n _ w3 hi M3 hb
      have HG1 := Lib.hid g1
      clear m1 hi hb hm g1
      go_wp2_with fail
      exact bodyPost_ret (results_int rfl _ _ (w.heap.size + 1) n rfl HG1.out) rfl ⟨rfl, HE⟩
    | error er =>
      have HTY := Lib.hid (try_no B g v R W2 H2.out he 39 #[.pointer (some ⟨w.heap.size, 0, none⟩), .pointer (some ⟨w.heap.size + 1, 0, none⟩)] callNum1 er [g] (by simp; omega)
        (fun w1 m1 => num1_no B g _ _ v R w1 (H2.out.mod0 m1) er hp ((World.cell?_of_block (w := W2) (m1.block _ (by show w.heap.size < _; omega) (by simp))).trans HCB.out)))
      rw [HW2.out] at HTY
      clear he hp
      go_enter Try.func13, Try.ntmps13
      go_wp2_with fail
      refine HTY.out.mono ?_
      rintro e w3 ⟨rfl, hi, hm⟩
      rw [← HW2.out] at hm
      have hb := hm.get HBN.out (by simp; omega)
      have M3 : Mod [g] w w3 := (HM2.out.mono (by simp)).trans hm (fun x hx => .inl (by simpa using hx))
      obtain ⟨c1, f1, g1, HE⟩ := HT.out 0 _ w3 hi M3 hb
      have HG1 := Lib.hid g1
      clear hi hb hm g1
      go_wp2_with fail
      exact bodyPost_ret (results_int rfl _ _ (w.heap.size + 1) 0 rfl HG1.out) rfl ⟨rfl, HE⟩
  · rw [if_pos he]
    have HTY := Lib.hid (try_skip B g v R W2 H2.out he (.func (.func 39) #[] #[.pointer (some ⟨w.heap.size, 0, none⟩), .pointer (some ⟨w.heap.size + 1, 0, none⟩)]))
    rw [HW2.out] at HTY
    clear he
    go_enter Try.func13, Try.ntmps13
    go_wp2_with fail
    refine HTY.out.mono ?_
    rintro e w3 ⟨rfl, hm⟩
    rw [← HW2.out] at hm
    have hb := hm.get0 HBN.out
    have M3 : Mod [g] w w3 := (HM2.out.trans0 hm).mono (by simp)
    obtain ⟨c1, f1, g1, HE⟩ := HT.out 0 _ w3 (H2.out.mod0 hm) M3 hb
    have HG1 := Lib.hid g1
    clear hb hm g1
    go_wp2_with fail
    exact bodyPost_ret (results_int rfl _ _ (w.heap.size + 1) 0 rfl HG1.out) rfl ⟨rfl, HE⟩
/-- What End tells. -/
def Rr.endErr (R : Rr) : Int := if R.e = 0 ∧ R.at_ < R.b.length then 33 else R.e
theorem end_any (B g : Nat) (v : Value) (R : Rr) (w : World) (h : IsR w B g v R) :
    Calls Try.prog 29 #[.pointer (some ⟨g, 0, none⟩)] w fun e w' => e = .returned (.int .i64 R.endErr) ∧ Mod [] w w' := by
  unfold Rr.endErr
  obtain ⟨p, cap, hv, hrd, _⟩ := h.own.rd
  subst hv
  have c0 := h.c0
  have c1 := h.c1
  have c2 := h.c2
  clear h hrd
  by_cases he : R.e = 0
  · have e0 : (R.e == 0) = true := by simpa using he
    rw [he] at c2
    by_cases hl : R.at_ < R.b.length
    · have d1 : decide (R.at_ < R.b.length) = true := by simpa using hl
      rw [if_pos ⟨he, hl⟩]
      clear he hl
      go_enter Try.func29, Try.ntmps29
      go_wp2_with fail
      go_quiet (fail)
      go_wp2_with fail
      go_ret
      exact ⟨rfl, (Mod.refl [] w).drewN _⟩
    · have d1 : decide (R.at_ < R.b.length) = false := by simpa using hl
      rw [if_neg (fun h => hl h.2), he]
      clear he hl
      go_enter Try.func29, Try.ntmps29
      go_wp2_with fail
      go_quiet (fail)
      go_wp2_with fail
      go_ret
      exact ⟨rfl, (Mod.refl [] w).drewN _⟩
  · have e0 : (R.e == 0) = false := by simpa using he
    rw [if_neg (fun h => he h.1)]
    clear he
    go_enter Try.func29, Try.ntmps29
    go_wp2_with fail
    go_quiet (fail)
    go_wp2_with fail
    go_ret
    exact ⟨rfl, (Mod.refl [] w).drewN _⟩
end Go.Proofs.Ytnmcbdppbpfegaa
