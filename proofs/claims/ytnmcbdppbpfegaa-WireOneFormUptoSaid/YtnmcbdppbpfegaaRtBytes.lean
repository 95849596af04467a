/- Bytes of a reader, whatever it answers. Condition: at most 2^22 bytes. -/
import Derived.Test.YtnmcbdppbpfegaaRtRow
import Derived.Test.YtnmcbdppbpfegaaRrMany
import Derived.Deep.RegionHeld3
namespace Go.Proofs.Ytnmcbdppbpfegaa
open Go.RowKit
attribute [local go_sem high] one8 st8 cm8 b_and8 b_and8r b_and8l b_or8 b_or8r b_or8l b_xor8 b_xor8r b_xor8l b_andNot8 b_andNot8r b_andNot8l b_add8 b_add8r b_add8l b_sub8 b_sub8r b_sub8l b_mul8 b_mul8r b_mul8l b_eql8 b_eql8r b_eql8l b_neq8 b_neq8r b_neq8l b_lss8 b_lss8r b_lss8l b_leq8 b_leq8r b_leq8l b_gtr8 b_gtr8r b_gtr8l b_geq8 b_geq8r b_geq8l b_quo8r b_rem8r b_shl8r b_shr8r b_shl8l b_shr8l u_xor8 g_eql8 g_neq8 g_eql8' g_neq8' one32 st32 cm32 b_and32 b_and32r b_and32l b_or32 b_or32r b_or32l b_xor32 b_xor32r b_xor32l b_andNot32 b_andNot32r b_andNot32l b_add32 b_add32r b_add32l b_sub32 b_sub32r b_sub32l b_mul32 b_mul32r b_mul32l b_eql32 b_eql32r b_eql32l b_neq32 b_neq32r b_neq32l b_lss32 b_lss32r b_lss32l b_leq32 b_leq32r b_leq32l b_gtr32 b_gtr32r b_gtr32l b_geq32 b_geq32r b_geq32l b_quo32r b_rem32r b_shl32r b_shr32r b_shl32l b_shr32l u_xor32 g_eql32 g_neq32 g_eql32' g_neq32' one64 st64 cm64 b_and64 b_and64r b_and64l b_or64 b_or64r b_or64l b_xor64 b_xor64r b_xor64l b_andNot64 b_andNot64r b_andNot64l b_add64 b_add64r b_add64l b_sub64 b_sub64r b_sub64l b_mul64 b_mul64r b_mul64l b_eql64 b_eql64r b_eql64l b_neq64 b_neq64r b_neq64l b_lss64 b_lss64r b_lss64l b_leq64 b_leq64r b_leq64l b_gtr64 b_gtr64r b_gtr64l b_geq64 b_geq64r b_geq64l b_quo64r b_rem64r b_shl64r b_shr64r b_shl64l b_shr64l u_xor64 g_eql64 g_neq64 g_eql64' g_neq64' c_u8_u8 c_u8_u32 c_u8_u64 c_i_u8 c_u32_u8 c_u32_u32 c_u32_u64 c_i_u32 c_u64_u8 c_u64_u32 c_u64_u64 c_i_u64 c_u8_i c_u32_i
attribute [local go_sem ↓] ce8 ce32 ce64
attribute [local go_sem ↓] sliced_slp
def bytesP (most : Int) (l : List UInt8) : Except Int (List UInt8 × Nat) := match manyP most l with
  | .error e => .error e
  | .ok (n, c) => .ok ((l.drop c).take n, c + n)
theorem callBytes1 (xs : Array Value) (w : World) : (callFunc 101 xs).run Try.prog w = .ok (.enter 101 xs) w := by kernel_rfl
theorem manyCall (xs : Array Value) (w : World) : (callFunc 43 xs).run Try.prog w = .ok (.enter 43 xs) w := by kernel_rfl
theorem cell_mod {S : List Nat} {w w1 : World} {b : Nat} {u : Value} (hm : Mod S w w1) (hc : w.cell? ⟨b, 0, none⟩ = some u) (hb : b ∉ S) : w1.cell? ⟨b, 0, none⟩ = some u :=
  (World.cell?_of_block (w := w) (hm.block _ (block_lt_of_cell hc) hb)).trans hc
set_option maxRecDepth 100000 in
theorem bytes1_yes (B g br bv bn : Nat) (v : Value) (R : Rr) (w : World) (h : IsR w B g v R) (m : Int) (n c : Nat) (hp : manyP m (R.b.drop R.at_) = .ok (n, c)) (hb : w.cell? ⟨br, 0, none⟩ = some (.pointer (some ⟨g, 0, none⟩))) (hbv : w.cell? ⟨bv, 0, none⟩ = some (.int .i64 m)) (hn : w.heap[bn]? = some (.cells #[.slice none 0 0] 22 (0, 0))) (hne : bn ≠ g) (hv : v.ownBlock ≠ some bn) (h1 : br ≠ g) (h2 : br ≠ bn) (h3 : bv ≠ g) (h4 : bv ≠ bn) :
    Calls Try.prog 101 #[.pointer (some ⟨br, 0, none⟩), .pointer (some ⟨bv, 0, none⟩), .pointer (some ⟨bn, 0, none⟩)] w fun e w' => e = .returned (.tuple #[]) ∧ IsR w' B g v { R with at_ := R.at_ + (c + n) } ∧ (∃ r, w'.heap[bn]? = some (.cells #[r] 22 (0, 0)) ∧ Own w' w.heap.size r (((R.b.drop R.at_).drop c).take n)) ∧ Mod [g, bn] w w' := by
  obtain ⟨_, _, hnl⟩ := manyP_ok hp
  rw [List.length_drop] at hnl
  have hi0 := h.mod0 (Mod.refl [] w).drew
  have HMY := Lib.hid (many_yes B g v R w.drew hi0 m n c hp)
  have HCB := Lib.hid (fun w1 (hm : Mod [g, bn] w w1) => cell_mod hm hb (by simp [h1, h2]))
  have HCV := Lib.hid (fun w1 (hm : Mod [g, bn] w w1) => cell_mod hm hbv (by simp [h3, h4]))
  have HB := Lib.hid hn
  have d0 : Mod [g, bn] w w.drew := (Mod.refl _ w).drew
  have b0 := HCB.out _ d0
  have v0 := HCV.out _ d0
  have HNL := Lib.hid hnl
  have HLE := Lib.hid hi0.le
  have HLN := Lib.hid h.len
  have HV := Lib.hid hv
  have HSZ := Lib.hid (show bn < w.heap.size from lt_of_block hn)
  obtain ⟨x, hx⟩ : ∃ x, x = ((R.b.drop R.at_).drop c).take n := ⟨_, rfl⟩
  have hxl : x.length = n := by rw [hx, List.length_take, List.length_drop, List.length_drop]; omega
  have HX := Lib.hid hx
  have HXL := Lib.hid hxl
  rw [← hx]
  clear h hi0 hp hn hnl hx hxl hv h1 h2 h3 h4
  go_enter Try.func101, Try.ntmps101
  go_wp2_with fail
  go_region_held3 (fun w' => w'.cell? ⟨br, 0, none⟩ = some (.pointer (some ⟨g, 0, none⟩)) ∧ w'.cell? ⟨bv, 0, none⟩ = some (.int .i64 m) ∧ Mod [g, bn] w w')
    (first
      | exact ⟨b0, v0, d0⟩
      | exact ⟨by assumption, by assumption, by assumption⟩)
    (first
      | (go_at_call 43
         refine HMY.out.mono ?_
         rintro e w6 ⟨rfl, i6, m6⟩
         have G6 := Lib.hid (show Mod [g] w w6 from ((Mod.refl [g] w).drew).trans m6 (fun x hx => .inl hx))
         have M6 : Mod [g, bn] w w6 := G6.out.mono (fun x hx => .inl (by simp at hx; simp [hx]))
         have b6 := HCB.out _ M6
         have v6 := HCV.out _ M6
         have I6 := Lib.hid i6
         clear m6 i6)
      | (go_at_call 99
         refine (next_any B g v _ w6 I6.out n (by have := HNL.out; have := I6.out.le; show n ≤ R.b.length - (R.at_ + c); omega)).mono ?_
         rintro e w7 ⟨q, cq, rfl, hrd, _, i7, m7⟩
         have G7 := Lib.hid (show Mod [g] w w7 from G6.out.trans m7 (fun x hx => .inl hx))
         have M7 : Mod [g, bn] w w7 := G7.out.mono (fun x hx => .inl (by simp at hx; simp [hx]))
         have b7 := HCB.out _ M7
         have v7 := HCV.out _ M7
         have I7 := Lib.hid i7
         have RD7 := Lib.hid hrd
         clear m7 i7 hrd)
      | (go_at_call 37
         refine (cloneB_any q cq n x w7 (by have := RD7.out; rw [show ({ R with at_ := R.at_ + c } : Rr).b.drop ({ R with at_ := R.at_ + c } : Rr).at_ = (R.b.drop R.at_).drop c by rw [List.drop_drop], ← HX.out] at this; exact this) HXL.out.symm (by have := HXL.out; have := HNL.out; have := HLN.out; omega)).mono ?_
         rintro e w8 ⟨r, rfl, o8, m8⟩
         obtain ⟨pr, cr, hr8, hrd8, hf8⟩ := o8.rd
         subst hr8
         have M8 : Mod [g, bn] w w8 := M7.trans0 m8
         have hb8 := (G7.out.trans0 m8).get HB.out (by simpa using hne)
         have cn8 : w8.cell? ⟨bn, 0, none⟩ = some (.slice none 0 0) := by rw [cell_blk hb8]; rfl
         have fn8 := frozen_blk hb8 0
         have HB8 := Lib.hid hb8
         have M9 : Mod [g, bn] w (w8.setCell ⟨bn, 0, none⟩ (.slice pr x.length cr)) := M8.setCell (p := ⟨bn, 0, none⟩) (.inl (by simp)) _
         have b9 := HCB.out _ M9
         have v9 := HCV.out _ M9
         have I8 := Lib.hid (I7.out.mod0 m8)
         have O8 := Lib.hid (o8.mono M7.size)
         have b8 := HCB.out _ M8
         have v8 := HCV.out _ M8
         clear m8 o8 hb8 hrd8 hf8))
  go_end0
  refine ⟨rfl, ?_, ⟨_, hp_sc HB8.out, ?_⟩, by assumption⟩
  · rw [← Nat.add_assoc]
    refine I8.out.mod ((Mod.refl [bn] w8).setCell (p := ⟨bn, 0, none⟩) (.inl (by simp)) _) (by simpa using hne.symm) (fun x hx => ?_)
    rw [List.mem_singleton] at hx
    subst hx
    exact HV.out
  · refine O8.out.mod ((Mod.refl [bn] w8).setCell (p := ⟨bn, 0, none⟩) (.inl (by simp)) _) (fun y hy hv => ?_)
    rw [List.mem_singleton] at hy
    subst hy
    have := O8.out.row _ hv
    have := HSZ.out
    omega
set_option maxRecDepth 100000 in
theorem bytes1_no (B g br bv bn : Nat) (v : Value) (R : Rr) (w : World) (h : IsR w B g v R) (m : Int) (er : Int) (hp : manyP m (R.b.drop R.at_) = .error er) (hb : w.cell? ⟨br, 0, none⟩ = some (.pointer (some ⟨g, 0, none⟩))) (hbv : w.cell? ⟨bv, 0, none⟩ = some (.int .i64 m)) :
    Calls Try.prog 101 #[.pointer (some ⟨br, 0, none⟩), .pointer (some ⟨bv, 0, none⟩), .pointer (some ⟨bn, 0, none⟩)] w (GaveUp B g v R er w) := by
  have HMY := Lib.hid (many_no B g v R w.drew (h.mod0 (Mod.refl [] w).drew) m er hp)
  clear h hp
  go_enter Try.func101, Try.ntmps101
  go_wp2_with fail
  refine wp_region_held_drew (S := fun w' => w'.cell? ⟨br, 0, none⟩ = some (.pointer (some ⟨g, 0, none⟩)) ∧ w'.cell? ⟨bv, 0, none⟩ = some (.int .i64 m)) (by kernel_rfl) ⟨by simpa using hb, by simpa using hbv⟩ (fun hHeld => ?_)
  refine wpAnyH_take (i := 0) (v := .pointer (some ⟨g, 0, none⟩)) rfl (by kernel_rfl) (by kernel_rfl) (by kernel_rfl) (fun _ _ _ h => h) (Or.inl ⟨by rfl, ?_⟩) hHeld ?_
  · intro w hSw
    obtain ⟨q1, q2⟩ := hSw
    go_simp
  refine wpAnyH_take (i := 1) (v := .pointer (some ⟨g, 0, none⟩)) rfl (by kernel_rfl) (by kernel_rfl) (by kernel_rfl) (fun _ _ _ h => h) (Or.inl ⟨by rfl, ?_⟩) hHeld ?_
  · intro w hSw
    obtain ⟨q1, q2⟩ := hSw
    go_simp
  refine wpAnyH_take (i := 2) (v := .int .i64 m) rfl (by kernel_rfl) (by kernel_rfl) (by kernel_rfl) (fun _ _ _ h => h) (Or.inl ⟨by rfl, ?_⟩) hHeld ?_
  · intro w hSw
    obtain ⟨q1, q2⟩ := hSw
    go_simp
  refine wpAnyH_ready (rs := [3]) (by kernel_rfl) (by simp) ?_
  refine AllReadyH.cons rfl (fun K hK => ?_) AllReadyH.nil
  refine step_panic2 rfl 43 (.tmp 4) (.tmp 5) _ rfl (.pointer (some ⟨g, 0, none⟩)) (.int .i64 m) rfl rfl manyCall HMY.out ?_
  intro w3 hm
  exact ⟨rfl, rfl, hm.1, ((Mod.refl [g] w).drew).trans hm.2 (fun x hx => .inl hx)⟩
/-- Behind Bytes. -/
def RrBytes (B g : Nat) (v : Value) (R : Rr) (x : List UInt8) (w : World) (e : Ending) (w' : World) : Prop := ∃ r, e = .returned r ∧ Own w' w.heap.size r x ∧ IsR w' B g v R ∧ Mod [g] w w'
set_option maxRecDepth 100000 in
theorem rBytes_any (B g : Nat) (v : Value) (R : Rr) (w : World) (h : IsR w B g v R) (m : Int) :
    Calls Try.prog 70 #[.pointer (some ⟨g, 0, none⟩), .int .i64 m] w (RrBytes B g v (R.tk [] (bytesP m)).1 (R.tk [] (bytesP m)).2 w) := by
  have hmf : ∀ (fn : Fn) (first cap : Array Value) (w : World), (Instr.makeFunc fn first cap).run Try.prog w = .ok (.func fn first cap) w := fun _ _ _ _ => rfl
  unfold RrBytes Rr.tk bytesP
  have H := Lib.hid h
  have hgl := h.lt
  obtain ⟨W2, hW2⟩ : ∃ W, W = ((w.alloc (.cells #[.pointer (some ⟨g, 0, none⟩)] 23)).alloc (.cells #[.int .i64 m] 3)).alloc (.cells #[.slice none 0 0] 22) := ⟨_, rfl⟩
  have M2 : Mod [] w W2 := by rw [hW2]; exact (((Mod.refl [] w).alloc _).alloc _).alloc _
  have hbr : W2.heap[w.heap.size]? = some (.cells #[.pointer (some ⟨g, 0, none⟩)] 23 (0, 0)) := by rw [hW2]; exact hp_old (hp_old (hp_new w _ _ rfl))
  have hbv : W2.heap[w.heap.size + 1]? = some (.cells #[.int .i64 m] 3 (0, 0)) := by rw [hW2]; exact hp_old (hp_new _ _ _ (by simp))
  have hbn : W2.heap[w.heap.size + 2]? = some (.cells #[.slice none 0 0] 22 (0, 0)) := by rw [hW2]; exact hp_new _ _ _ (by simp)
  have h2 := h.mod0 M2
  have hsz := M2.size
  have hs2 : w.heap.size + 2 < W2.heap.size := lt_of_block hbn
  have hv1 : ∀ x, v.ownBlock = some x → x < w.heap.size := h.own_lt
  have cbr : W2.cell? ⟨w.heap.size, 0, none⟩ = some (.pointer (some ⟨g, 0, none⟩)) := by rw [cell_blk hbr]; rfl
  have cbv : W2.cell? ⟨w.heap.size + 1, 0, none⟩ = some (.int .i64 m) := by rw [cell_blk hbv]; rfl
  have HT : Hid (∀ (r : Value) (x : List UInt8) (R' : Rr) (w3 : World), IsR w3 B g v R' → Mod [g] w w3 → w3.heap[w.heap.size + 2]? = some (.cells #[r] 22 (0, 0)) → Own w3 W2.heap.size r x →
      w3.cell? ⟨w.heap.size + 2, 0, none⟩ = some r ∧ w3.frozen? ⟨w.heap.size + 2, 0, none⟩ = false ∧ (w3.setCell ⟨w.heap.size + 2, 0, none⟩ r).cell? ⟨w.heap.size + 2, 0, none⟩ = some r ∧ Own (w3.setCell ⟨w.heap.size + 2, 0, none⟩ r) w.heap.size r x ∧ IsR (w3.setCell ⟨w.heap.size + 2, 0, none⟩ r) B g v R' ∧ Mod [g] w (w3.setCell ⟨w.heap.size + 2, 0, none⟩ r)) := by
    refine Lib.hid ?_
    intro r x R' w3 hi hm hb ho
    have ms := (Mod.refl [w.heap.size + 2] w3).setCell (p := ⟨w.heap.size + 2, 0, none⟩) (.inl (by simp)) r
    refine ⟨by rw [cell_blk hb]; rfl, frozen_blk hb 0, by rw [cell_blk (hp_sc hb)]; rfl, (ho.mod ms (fun y hy hv => ?_)).mono M2.size, hi.mod ms (by simp; omega) (fun x hx hv => ?_), hm.setCell (p := ⟨w.heap.size + 2, 0, none⟩) (.inr (by simp)) _⟩
    · rw [List.mem_singleton] at hy
      subst hy
      have := ho.row _ hv
      omega
    · rw [List.mem_singleton] at hx
      subst hx
      have := hv1 _ hv
      omega
  have HCB := Lib.hid cbr
  have HCV := Lib.hid cbv
  have HBN := Lib.hid hbn
  have HM2 := Lib.hid M2
  have H2 := Lib.hid h2
  have HW2 := Lib.hid hW2
  have HV := Lib.hid hv1
  clear h hbr hbv hbn M2 h2 cbr cbv hW2 hv1
  by_cases he : R.e = 0
  · rw [if_neg (by simpa using he)]
    cases hp : manyP m (R.b.drop R.at_) with
    | ok y =>
      obtain ⟨n, c⟩ := y
      have HTY := Lib.hid (try_yes B g v R W2 H2.out he 101 #[.pointer (some ⟨w.heap.size, 0, none⟩), .pointer (some ⟨w.heap.size + 1, 0, none⟩), .pointer (some ⟨w.heap.size + 2, 0, none⟩)] callBytes1
        (fun w1 w2 => IsR w2 B g v { R with at_ := R.at_ + (c + n) } ∧ (∃ r, w2.heap[w.heap.size + 2]? = some (.cells #[r] 22 (0, 0)) ∧ Own w2 w1.heap.size r (((R.b.drop R.at_).drop c).take n)) ∧ Mod [g, w.heap.size + 2] w1 w2)
        (fun w1 m1 => bytes1_yes B g _ _ _ v R w1 (H2.out.mod0 m1) m n c hp (cell_mod m1 HCB.out (by simp)) (cell_mod m1 HCV.out (by simp)) (m1.get0 HBN.out) (by omega) (fun hv => by have := HV.out _ hv; omega) (by omega) (by omega) (by omega) (by omega)))
      show Calls _ _ _ _ (fun e w' => ∃ r, e = .returned r ∧ Own w' w.heap.size r (((R.b.drop R.at_).drop c).take n) ∧ IsR w' B g v { R with at_ := R.at_ + (c + n) } ∧ Mod [g] w w')
      obtain ⟨x, hx⟩ : ∃ x, x = ((R.b.drop R.at_).drop c).take n := ⟨_, rfl⟩
      rw [HW2.out, ← hx] at HTY
      rw [← hx]
      clear he hp hx
      go_enter Try.func70, Try.ntmps70
      go_wp2_with fail
      refine HTY.out.mono ?_
      rintro e w3 ⟨rfl, w1, m1, hi, ⟨r, hb, ho⟩, hm⟩
      rw [← HW2.out] at m1
      obtain ⟨pr, cr, hr, _, _⟩ := ho.rd
      subst hr
      have M3 : Mod [g] w w3 := ((HM2.out.trans0 m1).mono (by simp)).trans hm (fun x hx => by
        simp at hx
        rcases hx with rfl | rfl
        · exact .inl (by simp)
        · exact .inr (by omega))
      obtain ⟨c1, f1, g1, HE⟩ := HT.out _ _ _ w3 hi M3 hb (ho.mono m1.size)
      have HG1 := Lib.hid g1
      clear m1 hi hb hm g1 ho
      go_wp2_with fail
      exact bodyPost_ret (results_bytes rfl _ _ (w.heap.size + 2) pr _ cr rfl HG1.out) rfl ⟨_, rfl, HE⟩
    | error er =>
      have HTY := Lib.hid (try_no B g v R W2 H2.out he 101 #[.pointer (some ⟨w.heap.size, 0, none⟩), .pointer (some ⟨w.heap.size + 1, 0, none⟩), .pointer (some ⟨w.heap.size + 2, 0, none⟩)] callBytes1 er [g] (by simp; omega)
        (fun w1 m1 => bytes1_no B g _ _ _ v R w1 (H2.out.mod0 m1) m er hp (cell_mod m1 HCB.out (by simp)) (cell_mod m1 HCV.out (by simp))))
      rw [HW2.out] at HTY
      clear he hp
      go_enter Try.func70, Try.ntmps70
      go_wp2_with fail
      refine HTY.out.mono ?_
      rintro e w3 ⟨rfl, hi, hm⟩
      rw [← HW2.out] at hm
      have hb := hm.get HBN.out (by simp; omega)
      have M3 : Mod [g] w w3 := (HM2.out.mono (by simp)).trans hm (fun x hx => .inl (by simpa using hx))
      obtain ⟨c1, f1, g1, HE⟩ := HT.out _ [] _ w3 hi M3 hb (Own.nil _ _)
      have HG1 := Lib.hid g1
      clear hi hb hm g1
      go_wp2_with fail
      exact bodyPost_ret (results_bytes rfl _ _ (w.heap.size + 2) none 0 0 rfl HG1.out) rfl ⟨_, rfl, HE⟩
  · rw [if_pos he]
    refine (rBytes_skip B g v R w H.out he m).mono ?_
    rintro e w' ⟨rfl, hm⟩
    exact ⟨_, rfl, Own.nil _ _, H.out.mod0 hm, hm.mono (by simp)⟩
end Go.Proofs.Ytnmcbdppbpfegaa
