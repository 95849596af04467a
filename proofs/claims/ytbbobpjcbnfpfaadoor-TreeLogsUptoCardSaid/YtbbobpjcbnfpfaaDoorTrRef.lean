/- The reference's Sum over 'hf'. Condition: the reference's two tables lie in their variables. -/
import Derived.Test.YtbbobpjcbnfpfaaDoorRfTree
import Derived.Test.YtbbobpjcbnfpfaaDoorTrFns
import Derived.Test.YtbbobpjcbnfpfaaDoorTrRoot
import Derived.Test.YtbbobpjcbnfpfaaDoorOwnB
namespace Go.Proofs.YtbbobpjcbnfpfaaDoor
open Go.RowKit
/-- The reference's two tables lie in their variables. -/
structure Rf (w : World) : Prop where
  tr : TabR w
  tb : TabB w
theorem Rf.mod0 {a w : World} (h : Rf a) (m : Mod [] a w) : Rf w := ⟨TabR.mod m h.tr (by simp), TabB.mod m h.tb (by simp)⟩
theorem rsum {hf : Bs → Bs} {w : World} (h : Hs hf w) (r : Rf w) (q : Option Addr) (c n : Nat) (d : Bs) (hn : n = d.length) (hr : Rd V8 w q c d) (ht : d.length ≤ 70368744177664) :
    Calls Tryd.prog 63 #[.slice q n c] w fun e w' => e = .returned (dv (hf d)) ∧ Mod [] w w' := by
  subst hn
  rw [h.eq]
  exact ref_sum q c d w hr ht r.tr r.tb
end Go.Proofs.YtbbobpjcbnfpfaaDoor
namespace Go.Proofs.YtbbobpjcbnfpfaaDoor
open Go.RowKit
attribute [local go_sem high] one8 st8 cm8 b_and8 b_and8r b_and8l b_or8 b_or8r b_or8l b_xor8 b_xor8r b_xor8l b_andNot8 b_andNot8r b_andNot8l b_add8 b_add8r b_add8l b_sub8 b_sub8r b_sub8l b_mul8 b_mul8r b_mul8l b_eql8 b_eql8r b_eql8l b_neq8 b_neq8r b_neq8l b_lss8 b_lss8r b_lss8l b_leq8 b_leq8r b_leq8l b_gtr8 b_gtr8r b_gtr8l b_geq8 b_geq8r b_geq8l b_quo8r b_rem8r b_shl8r b_shr8r b_shl8l b_shr8l u_xor8 g_eql8 g_neq8 g_eql8' g_neq8' one32 st32 cm32 b_and32 b_and32r b_and32l b_or32 b_or32r b_or32l b_xor32 b_xor32r b_xor32l b_andNot32 b_andNot32r b_andNot32l b_add32 b_add32r b_add32l b_sub32 b_sub32r b_sub32l b_mul32 b_mul32r b_mul32l b_eql32 b_eql32r b_eql32l b_neq32 b_neq32r b_neq32l b_lss32 b_lss32r b_lss32l b_leq32 b_leq32r b_leq32l b_gtr32 b_gtr32r b_gtr32l b_geq32 b_geq32r b_geq32l b_quo32r b_rem32r b_shl32r b_shr32r b_shl32l b_shr32l u_xor32 g_eql32 g_neq32 g_eql32' g_neq32' one64 st64 cm64 b_and64 b_and64r b_and64l b_or64 b_or64r b_or64l b_xor64 b_xor64r b_xor64l b_andNot64 b_andNot64r b_andNot64l b_add64 b_add64r b_add64l b_sub64 b_sub64r b_sub64l b_mul64 b_mul64r b_mul64l b_eql64 b_eql64r b_eql64l b_neq64 b_neq64r b_neq64l b_lss64 b_lss64r b_lss64l b_leq64 b_leq64r b_leq64l b_gtr64 b_gtr64r b_gtr64l b_geq64 b_geq64r b_geq64l b_quo64r b_rem64r b_shl64r b_shr64r b_shl64l b_shr64l u_xor64 g_eql64 g_neq64 g_eql64' g_neq64' c_u8_u8 c_u8_u32 c_u8_u64 c_i_u8 c_u32_u8 c_u32_u32 c_u32_u64 c_i_u32 c_u64_u8 c_u64_u32 c_u64_u64 c_i_u64 c_u8_i c_u32_i
attribute [local go_sem ↓] ce8 ce32 ce64
attribute [local go_sem ↓] sliced_slp loadO26 storeO26
/-- Bytes of the call's own are handed back. -/
def BytesPost (d : Bs) (w : World) (e : Ending) (w' : World) : Prop := ∃ v, e = .returned v ∧ Own w' w.heap.size v d ∧ Mod [] w w'
theorem Own.one {w : World} {B : Nat} (g : Nat) (b : UInt8) (hg : w.heap[g]? = some (.cells #[V8 b] 5)) (hB : B ≤ g) : Own w B (.slice (some ⟨g, 0, none⟩) 1 1) [b] := by
  refine ⟨by simp, .inr ⟨g, 1, #[V8 b], rfl, hB, hg, ?_, ?_, ?_, ?_⟩⟩
  · simp
  · unfold maxLen; omega
  · simp
  · simp
theorem froz_app {P : Program} {ops : Array Oper} {rest : List Oper} {o : Oper} {a : Act} {w : World} {Q : Exit → Act → World → Prop} (args : Array Operand) (ats : Array TypeId) (ho : o.op = .call { callee := .builtin .append, args := args, argTypes := ats })
    (h : Froz (wpList P ops Q (o :: rest) a w)) : wpList P ops Q (o :: rest) a w := h
theorem leafText_any (p : Option Addr) (c n : Nat) (d : Bs) (w : World) (hn : n = d.length) (hr : Rd V8 w p c d) (hd : d.length ≤ 70368744177664) :
    Calls Tryd.prog 62 #[.slice p n c] w (BytesPost (0 :: d) w) := by
  subst hn
  have HR := Lib.hid (hr.mod0 ((Mod.refl [] w).alloc (.cells #[V8 0] 5)))
  clear hr
  go_enter Tryd.func62, Tryd.ntmps62
  go_wp2_with (at_builtin; with_reducible refine froz_app _ _ rfl ?_)
  unfold Froz
  refine wpList_pushAll rfl _ _ rfl w.heap.size _ [0] (Own.one _ _ (hp_new _ _ _ rfl) (Nat.le_refl _)) rfl p d.length c d rfl rfl HR.out (by simp; omega) (by simp) ?_
  intro v' w5 ho5 hg5
  have HO5 := Lib.hid ho5
  have HG5 := Lib.hid hg5
  clear ho5 hg5
  go_wp2_with fail
  go_ret
  exact ⟨_, rfl, HO5.out, ((Mod.refl [] w).alloc _).of_grown HG5.out (fun g hg => .inr (by injection hg with hg; subst hg; exact Nat.le_refl _))⟩
set_option maxRecDepth 100000 in
theorem nodeText_any (l r : Bs) (hl : l.length = 32) (hr : r.length = 32) (w : World) :
    Calls Tryd.prog 64 #[dv l, dv r] w (BytesPost (1 :: (l ++ r)) w) := by
  have HL := Lib.hid hl
  have HR := Lib.hid hr
  clear hl hr
  unfold dv
  go_enter Tryd.func64, Tryd.ntmps64
  go_wp2_with (at_builtin; with_reducible refine froz_app _ _ rfl ?_)
  unfold Froz
  have hb0 := hp_old (o := .cells #[V8 1] 5) (hp_old (o := .cells (r.map V8).toArray 24) (hp_new w (.cells (l.map V8).toArray 24) _ rfl))
  have hb1 := hp_old (o := .cells #[V8 1] 5) (hp_new (w.alloc (.cells (l.map V8).toArray 24)) (.cells (r.map V8).toArray 24) (w.heap.size + 1) (by simp))
  have M2 := (((Mod.refl [] w).alloc (.cells (l.map V8).toArray 24)).alloc (.cells (r.map V8).toArray 24)).alloc (.cells #[V8 1] 5)
  refine wpList_push rfl _ _ rfl w.heap.size _ [1] (Own.one (w.heap.size + 1 + 1) _ (hp_new _ _ _ (by simp)) (by omega)) rfl w.heap.size 0 32 32 l rfl HL.out.symm (range_blk hb0 0 _ (fun j v hv => by simpa using hv)) (by simp [HL.out]) (by simp; omega) ?_
  intro v' w5 ho5 hg5
  have m5 : Mod [w.heap.size + 1 + 1] _ w5 := (Mod.refl [w.heap.size + 1 + 1] _).of_grown hg5 (fun g hg => .inl (by injection hg with hg; simp [← hg]))
  have hb15 := m5.get hb1 (by simp)
  have M5 := M2.of_grown hg5 (fun g hg => .inr (by simp [Value.ownBlock] at hg; omega))
  have HO5 := Lib.hid ho5
  have HB15 := Lib.hid hb15
  have HM5 := Lib.hid M5
  clear hb0 hb1 ho5 hg5 m5 hb15 M2 M5
  go_wp2_with (at_builtin; with_reducible refine froz_app _ _ rfl ?_)
  unfold Froz
  refine wpList_push rfl _ _ rfl w.heap.size _ ([1] ++ l) HO5.out rfl (w.heap.size + 1) 0 32 32 r rfl HR.out.symm (range_blk HB15.out 0 _ (fun j v hv => by simpa using hv)) (by simp [HL.out, HR.out]) HM5.out.size ?_
  intro v7 w7 ho7 hg7
  have HO7 := Lib.hid ho7
  have HM7 := Lib.hid (HM5.out.of_grown hg7 (fun g hg => .inr (HO5.out.row g hg)))
  clear ho7 hg7
  go_wp2_with fail
  go_ret
  refine ⟨_, rfl, ?_, HM7.out⟩
  have h := HO7.out
  simpa using h
set_option maxRecDepth 100000 in
theorem rleaf_any {hf : Bs → Bs} (p : Option Addr) (c n : Nat) (d : Bs) (w : World) (hn : n = d.length) (hr : Rd V8 w p c d) (h : Hs hf w) (R : Rf w) (hd : d.length ≤ 4398046511104) :
    Calls Tryd.prog 24 #[.slice p n c] w fun e w' => e = .returned (dv (leafH hf d)) ∧ Mod [] w w' := by
  have HT := Lib.hid (fun (W : World) (m : Mod [] w W) => leafText_any p c n d W hn (hr.mod0 m) (by omega))
  have HH := Lib.hid h
  have HRf := Lib.hid R
  have HL := Lib.hid (h.len (0 :: d))
  clear h R hr hn
  go_enter Tryd.func24, Tryd.ntmps24
  go_wp2_with fail
  refine (HT.out _ ((Mod.refl [] w).alloc _)).mono ?_
  rintro e w1 ⟨v, rfl, ho, m1⟩
  obtain ⟨q, k, rfl, hq, _⟩ := ho.rd
  have M1 := Lib.hid (((Mod.refl [] w).alloc _).trans0 m1)
  have HRES := Lib.hid (m1.get0 (hp_new w _ _ rfl))
  have HQ := Lib.hid hq
  clear m1 ho hq
  go_wp2_with fail
  refine (rsum (HH.out.mod0 M1.out) (HRf.out.mod0 M1.out) q k _ (0 :: d) (by simp) HQ.out (by simp; omega)).mono ?_
  rintro e w2 ⟨rfl, m2⟩
  have hR2 := m2.get0 HRES.out
  have hS := storeDv (hf (0 :: d)) HL.out hR2 rfl
  have HR2 := Lib.hid hR2
  clear hR2
  go_wp2_with fail
  exact bodyPost_ret (results_dv rfl _ _ _ _ HL.out _ rfl (hp_setRow HR2.out)) rfl ⟨rfl, (M1.out.trans0 m2).setRow (.inr (Nat.le_refl _)) _⟩
set_option maxRecDepth 100000 in
theorem rnode_any {hf : Bs → Bs} (l r : Bs) (hl : l.length = 32) (hr : r.length = 32) (w : World) (h : Hs hf w) (R : Rf w) :
    Calls Tryd.prog 25 #[dv l, dv r] w fun e w' => e = .returned (dv (nodeH hf l r)) ∧ Mod [] w w' := by
  have HT := Lib.hid (fun (W : World) => nodeText_any l r hl hr W)
  have HH := Lib.hid h
  have HRf := Lib.hid R
  have HL := Lib.hid (h.len (1 :: (l ++ r)))
  have hl1 := fun (Y Z : Obj) => loadDv (w := ((w.alloc (.cells (l.map V8).toArray 24)).alloc Y).alloc Z) l hl (hp_old (hp_old (hp_new w _ _ rfl)))
  have hl2 := fun (Z : Obj) => loadDv (w := ((w.alloc (.cells (l.map V8).toArray 24)).alloc (.cells (r.map V8).toArray 24)).alloc Z) r hr (hp_old (hp_new _ _ (w.heap.size + 1) (by simp)))
  have HLL := Lib.hid hl
  have HRL := Lib.hid hr
  clear h R hl hr
  unfold dv at hl1 hl2 ⊢
  go_enter Tryd.func25, Tryd.ntmps25
  go_wp2_with fail
  refine (HT.out _).mono ?_
  rintro e w1 ⟨v, rfl, ho, m1⟩
  obtain ⟨q, k, rfl, hq, _⟩ := ho.rd
  have M1 := Lib.hid ((((((Mod.refl [] w).alloc _).alloc _).alloc _)).trans0 m1)
  have HRES := Lib.hid (m1.get0 (hp_new _ _ (w.heap.size + 1 + 1) (by simp)))
  have HQ := Lib.hid hq
  clear m1 ho hq hl1 hl2
  go_wp2_with fail
  refine (rsum (HH.out.mod0 M1.out) (HRf.out.mod0 M1.out) q k _ (1 :: (l ++ r)) (by simp) HQ.out (by simp [HLL.out, HRL.out])).mono ?_
  rintro e w2 ⟨rfl, m2⟩
  have hR2 := m2.get0 HRES.out
  have hS := storeDv (hf (1 :: (l ++ r))) HL.out hR2 rfl
  have HR2 := Lib.hid hR2
  clear hR2
  go_wp2_with fail
  exact bodyPost_ret (results_dv rfl _ _ _ _ HL.out _ rfl (hp_setRow HR2.out)) rfl ⟨rfl, (M1.out.trans0 m2).setRow (.inr (by omega)) _⟩
set_option maxRecDepth 100000 in
theorem below_any (n : Nat) (w : World) (h1 : 1 < n) (h2 : n ≤ 4611686018427387904) :
    Calls Tryd.prog 65 #[.int .i64 n] w fun e w' => e = .returned (.int .i64 (half n)) ∧ w = w' := by
  go_enter Tryd.func65, Tryd.ntmps65
  go_wp2
  go_loop [3] (fun v => ∃ k : Nat, (∃ e, k = 2 ^ e) ∧ 0 < k ∧ k < n ∧ v = .int .i64 k) (fun v => n - (intOf v).toNat)
  case atStart => exact ⟨1, ⟨0, rfl⟩, by omega, h1, rfl⟩
  case round =>
    obtain ⟨k, hp, hk0, hkn, rfl⟩ := hrel
    have HP := Lib.hid hp
    clear hp
    by_cases hlt : 2 * k < n
    · have hd : decide (2 * (k : Int) < (n : Int)) = true := by simp; omega
      go_wp2
      go_round
      case rel =>
        obtain ⟨e, he⟩ := HP.out
        exact ⟨2 * k, ⟨e + 1, by rw [he, Nat.pow_succ]; omega⟩, by omega, hlt, by go_num⟩
      case measure => simp [intOf]; omega
    · have hd : decide (2 * (k : Int) < (n : Int)) = false := by simp; omega
      have hh : half n = k := by
        obtain ⟨e, rfl⟩ := HP.out
        exact half_eq n e hkn (by omega)
      have HE := Lib.hid hh
      clear hh
      go_wp2
      go_ret
      rw [HE.out]
      exact ⟨rfl, rfl⟩
set_option maxRecDepth 100000 in
theorem rroot_any {hf : Bs → Bs} (N : Nat) : ∀ (xs : List SlR) (p : Option Addr) (c n : Nat) (w : World), n = xs.length → n ≤ N → Lv w p c xs → Hs hf w → Rf w →
    Calls Tryd.prog 26 #[.slice p n c] w fun e w' => e = .returned (dv (rootH hf (ds xs))) ∧ Mod [] w w' := by
  induction N with
  | zero =>
    intro xs p c n w hn hN h H R
    obtain rfl : xs = [] := List.eq_nil_of_length_eq_zero (by omega)
    obtain rfl : n = 0 := hn
    have he : rootH hf (ds []) = hf [] := by rw [rootH.eq_def]; rfl
    rw [he]
    have HS := Lib.hid (fun (W : World) (m : Mod [] w W) => rsum (H.mod0 m) (R.mod0 m) none 0 0 [] rfl (Rd.nil _ _ _ _) (by simp))
    have HL := Lib.hid (H.len [])
    clear h H he R
    go_enter Tryd.func26, Tryd.ntmps26
    go_wp2_with fail
    refine (HS.out _ ((Mod.refl [] w).alloc _)).mono ?_
    rintro e w1 ⟨rfl, m1⟩
    have HRES := Lib.hid (m1.get0 (hp_new w _ _ rfl))
    have hS := storeDv (hf []) HL.out HRES.out rfl
    go_wp2_with fail
    exact bodyPost_ret (results_dv rfl _ _ _ _ HL.out _ rfl (hp_setRow HRES.out)) rfl ⟨rfl, (((Mod.refl [] w).alloc _).trans0 m1).setRow (.inr (Nat.le_refl _)) _⟩
  | succ N ih =>
    intro xs p c n w hn hN h H R
    by_cases h0 : n ≤ N
    · exact ih xs p c n w hn h0 h H R
    by_cases h1 : n = 1
    · obtain ⟨x, rfl⟩ : ∃ x, xs = [x] := by
        match xs, hn with
        | [], hn => simp at hn; omega
        | [x], _ => exact ⟨x, rfl⟩
        | _ :: _ :: _, hn => simp at hn; omega
      subst h1
      have he : rootH hf (ds [x]) = leafH hf x.d := by rw [rootH.eq_def]; rfl
      rw [he]
      obtain ⟨b, o, rfl, hc⟩ := h.cell 0 x rfl
      have HS := Lib.hid (fun (W : World) (m : Mod [] w W) => rleaf_any x.p x.cap x.d.length x.d W rfl ((h.each x (by simp)).mod0 m) (H.mod0 m) (R.mod0 m) (h.small x (by simp)))
      have HL := Lib.hid (H.len (0 :: x.d))
      have hcr := fun (X : Obj) => show (w.alloc X).cell? ⟨b, o, none⟩ = some (.slice x.p x.d.length x.cap) by
        rw [World.cell?_of_block (w := w) (Below.heap_alloc w X b (block_lt_of_cell hc))]
        exact hc
      clear hc h H he hn R
      go_enter Tryd.func26, Tryd.ntmps26
      go_wp2_with fail
      refine (HS.out _ ((Mod.refl [] w).alloc _)).mono ?_
      rintro e w1 ⟨rfl, m1⟩
      have HRES := Lib.hid (m1.get0 (hp_new w _ _ rfl))
      have hS := storeDv (leafH hf x.d) HL.out HRES.out rfl
      go_wp2_with fail
      exact bodyPost_ret (results_dv rfl _ _ _ _ HL.out _ rfl (hp_setRow HRES.out)) rfl ⟨rfl, (((Mod.refl [] w).alloc _).trans0 m1).setRow (.inr (Nat.le_refl _)) _⟩
    · have hl := h.len
      have hn2 : 1 < n := by omega
      have hk := fun W => below_any n W hn2 (by omega)
      obtain ⟨K, hK⟩ : ∃ K, K = half n := ⟨_, rfl⟩
      have hK0 : 0 < K := by rw [hK]; exact half_pos n
      have hK1 : K < n := by rw [hK]; exact half_lt n hn2
      have he : rootH hf (ds xs) = nodeH hf (rootH hf (ds (xs.take K))) (rootH hf (ds (xs.drop K))) := by
        rw [rootH.eq_def, if_neg (by simp; omega), List.length_map, ← hn, ← hK]
        simp only [ds, List.map_take, List.map_drop]
      have HA := Lib.hid (fun (W : World) (m : Mod [] w W) => (ih (xs.take K) p c K W (by simp; omega) (by omega) ((h.mod0 m).take K) (H.mod0 m) (R.mod0 m)))
      have HB := Lib.hid (fun (W : World) (m : Mod [] w W) => (ih (xs.drop K) (slp p K c 1) (c - K) (n - K) W (by simp; omega) (by omega) ((h.mod0 m).drop K (by omega)) (H.mod0 m) (R.mod0 m)))
      have hcap : n ≤ c := by have := h.rd.le; omega
      rw [he]
      have hla := rootH_len H.len (ds (xs.take K))
      have hlb := rootH_len H.len (ds (xs.drop K))
      generalize rootH hf (ds (xs.take K)) = A at *
      generalize rootH hf (ds (xs.drop K)) = B at *
      have HLA := Lib.hid hla
      have HLB := Lib.hid hlb
      have HN := Lib.hid (fun (W : World) (m : Mod [] w W) => (rnode_any A B hla hlb W (H.mod0 m) (R.mod0 m)))
      have HL := Lib.hid (H.len (1 :: (A ++ B)))
      have e1 : decide ((n : Int) = 0) = false := by simp; omega
      have e2 : decide ((n : Int) = 1) = false := by simp; omega
      have f1 : (0 : Int) ≤ (K : Int) := by omega
      have f2 : (K : Int) ≤ (n : Int) := by omega
      have f3 : (K : Int) ≤ (c : Int) := by omega
      have f4 : (n : Int) ≤ (c : Int) := by omega
      rw [← hK] at hk
      have HK := Lib.hid hk
      clear h H he hn ih hla hlb hK h0 h1 hl hk R
      go_enter Tryd.func26, Tryd.ntmps26
      go_wp2_with (go_at_call 65; refine (HK.out _).mono ?_; rintro e w' ⟨rfl, rfl⟩)
      refine (HA.out _ ((Mod.refl [] w).alloc _)).mono ?_
      rintro e w1 ⟨rfl, m1⟩
      have hS := storeNewD w1 A HLA.out
      have M1 := Lib.hid ((((Mod.refl [] w).alloc _).trans0 m1).alloc (.cells (A.map V8).toArray 24))
      have HRES := Lib.hid (hp_old (o := .cells (A.map V8).toArray 24) (m1.get0 (hp_new w _ _ rfl)))
      have HBA := Lib.hid (hp_new w1 (.cells (A.map V8).toArray 24) _ rfl)
      clear m1
      go_wp2_with fail
      clear hS
      refine (HB.out _ M1.out).mono ?_
      rintro e w2 ⟨rfl, m2⟩
      have hS := storeNewD w2 B HLB.out
      have M2 := Lib.hid ((M1.out.trans0 m2).alloc (.cells (B.map V8).toArray 24))
      have HRES2 := Lib.hid (hp_old (o := .cells (B.map V8).toArray 24) (m2.get0 HRES.out))
      have hL1 := loadDv A HLA.out (hp_old (o := .cells (B.map V8).toArray 24) (m2.get0 HBA.out))
      have hL2 := loadDv B HLB.out (hp_new w2 (.cells (B.map V8).toArray 24) _ rfl)
      clear m2
      go_wp2_with fail
      clear hS hL1 hL2
      refine (HN.out _ M2.out).mono ?_
      rintro e w3 ⟨rfl, m3⟩
      have hR3 := m3.get0 HRES2.out
      have hS := storeDv (nodeH hf A B) HL.out hR3 rfl
      have HR3 := Lib.hid hR3
      have M3 := Lib.hid (M2.out.trans0 m3)
      clear hR3 m3
      go_wp2_with fail
      exact bodyPost_ret (results_dv rfl _ _ _ _ HL.out _ rfl (hp_setRow HR3.out)) rfl ⟨rfl, M3.out.setRow (.inr (Nat.le_refl _)) _⟩
end Go.Proofs.YtbbobpjcbnfpfaaDoor
