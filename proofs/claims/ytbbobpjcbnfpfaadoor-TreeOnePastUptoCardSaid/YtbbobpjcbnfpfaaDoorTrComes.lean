/- comes of the reference. Conditions: the reference's tables lie in their variables; at most 2^40 leaves. -/
import Derived.Test.YtbbobpjcbnfpfaaDoorTrCome
namespace Go.Proofs.YtbbobpjcbnfpfaaDoor
open Go.RowKit
attribute [local go_sem high] one8 st8 cm8 b_and8 b_and8r b_and8l b_or8 b_or8r b_or8l b_xor8 b_xor8r b_xor8l b_andNot8 b_andNot8r b_andNot8l b_add8 b_add8r b_add8l b_sub8 b_sub8r b_sub8l b_mul8 b_mul8r b_mul8l b_eql8 b_eql8r b_eql8l b_neq8 b_neq8r b_neq8l b_lss8 b_lss8r b_lss8l b_leq8 b_leq8r b_leq8l b_gtr8 b_gtr8r b_gtr8l b_geq8 b_geq8r b_geq8l b_quo8r b_rem8r b_shl8r b_shr8r b_shl8l b_shr8l u_xor8 g_eql8 g_neq8 g_eql8' g_neq8' one32 st32 cm32 b_and32 b_and32r b_and32l b_or32 b_or32r b_or32l b_xor32 b_xor32r b_xor32l b_andNot32 b_andNot32r b_andNot32l b_add32 b_add32r b_add32l b_sub32 b_sub32r b_sub32l b_mul32 b_mul32r b_mul32l b_eql32 b_eql32r b_eql32l b_neq32 b_neq32r b_neq32l b_lss32 b_lss32r b_lss32l b_leq32 b_leq32r b_leq32l b_gtr32 b_gtr32r b_gtr32l b_geq32 b_geq32r b_geq32l b_quo32r b_rem32r b_shl32r b_shr32r b_shl32l b_shr32l u_xor32 g_eql32 g_neq32 g_eql32' g_neq32' one64 st64 cm64 b_and64 b_and64r b_and64l b_or64 b_or64r b_or64l b_xor64 b_xor64r b_xor64l b_andNot64 b_andNot64r b_andNot64l b_add64 b_add64r b_add64l b_sub64 b_sub64r b_sub64l b_mul64 b_mul64r b_mul64l b_eql64 b_eql64r b_eql64l b_neq64 b_neq64r b_neq64l b_lss64 b_lss64r b_lss64l b_leq64 b_leq64r b_leq64l b_gtr64 b_gtr64r b_gtr64l b_geq64 b_geq64r b_geq64l b_quo64r b_rem64r b_shl64r b_shr64r b_shl64l b_shr64l u_xor64 g_eql64 g_neq64 g_eql64' g_neq64' c_u8_u8 c_u8_u32 c_u8_u64 c_i_u8 c_u32_u8 c_u32_u32 c_u32_u64 c_i_u32 c_u64_u8 c_u64_u32 c_u64_u64 c_i_u64 c_u8_i c_u32_i
attribute [local go_sem ↓] ce8 ce32 ce64
attribute [local go_sem ↓] sliced_slp loadO26 storeO26 loadO110 storeO110 buildO110
/-- What 'comes' hands back. -/
def ComesPost (a b : Bs) (ts : List Bs) (w : World) (e : Ending) (w' : World) : Prop := ∃ v ys, e = .returned (comeV a b v) ∧ TextsAt w' w.heap.size v ys ts ∧ Mod [] w w'
theorem TextsAt.nil (w : World) (B : Nat) : TextsAt w B (.slice none 0 0) [] [] := ⟨OwnE.nil _ _ _ _, by simp, rfl⟩
set_option maxRecDepth 100000 in
theorem comes_w (m n c : Nat) (was : Bs) (p : Option Addr) (w : World) (hw : was.length = 32) :
    Calls Tryd.prog 76 #[.int .i64 m, .int .i64 m, .bool true, dv was, .slice p n c] w (ComesPost was was [] w) := by
  have hL := fun (Z : Array Value) => loadDv (w := (w.alloc (.cells (was.map V8).toArray 24)).alloc (.cells Z 110)) was hw (hp_old (hp_new w _ _ rfl))
  have hS := fun (Z : Array Value) (hZ : Z.size = 65) => (storeCome (w := (w.alloc (.cells (was.map V8).toArray 24)).alloc (.cells Z 110)) (hp_new _ _ (w.heap.size + 1) (by simp)) hZ was was (.slice none 0 0) hw hw rfl).1
  have HF := Lib.hid (fun (Z : Array Value) (hZ : Z.size = 65) => (storeCome (w := (w.alloc (.cells (was.map V8).toArray 24)).alloc (.cells Z 110)) (hp_new _ _ (w.heap.size + 1) (by simp)) hZ was was (.slice none 0 0) hw hw rfl).2)
  have hB := run_come was was hw hw
  have HW := Lib.hid hw
  clear hw
  unfold dv at *
  go_enter Tryd.func76, Tryd.ntmps76
  go_wp2_with fail
  have hc := HF.out Tryd.zeroCells110 (by kernel_rfl)
  exact bodyPost_ret (results_cell_row rfl _ _ _ _ _ _ _ rfl hc.blk Tryd.underlying110 rfl (by rw [List.size_toArray, comeC_len hc.la hc.lb]; exact info110)) rfl ⟨_, [], rfl, TextsAt.nil _ _, (((Mod.refl [] w).alloc _).alloc _).setRow (.inr (by omega)) _⟩
set_option maxRecDepth 100000 in
theorem comes_f (m n c : Nat) (was x : Bs) (l : List Bs) (p : Option Addr) (w : World) (hw : was.length = 32) (hr : RdD w p c l) (h0 : l[0]? = some x) (hx : x.length = 32) (hn : n = l.length) :
    Calls Tryd.prog 76 #[.int .i64 m, .int .i64 m, .bool false, dv was, .slice p n c] w (ComesPost x x [] w) := by
  obtain ⟨b, o, rfl, _⟩ := hr.elem dgc_len 0 x h0
  have hn0 : 0 < n := by have := (List.getElem?_eq_some_iff.1 h0).1; omega
  have f1 : (0 : Int) < (n : Int) := by omega
  have HR := Lib.hid hr
  have hB := run_come x x hx hx
  have H0 := Lib.hid h0
  have HX := Lib.hid hx
  clear hw hr h0 hn
  unfold dv
  go_enter Tryd.func76, Tryd.ntmps76
  go_wp2_with fail
  refine abs_w (C := fun W => Code.wp _ _ _ _ W) (fun W => W.heap[w.heap.size + 1]? = some (.cells Tryd.zeroCells110 110) ∧ Mod [] w W) ⟨hp_new _ _ _ (by simp), ((Mod.refl [] w).alloc _).alloc _⟩ ?_
  rintro U ⟨hu, mu⟩
  have hL := loadD_at (w := U.drew) (HR.out.mod0 mu.drew) (i := 0) x H0.out HX.out
  rw [Nat.zero_mul, Nat.add_zero] at hL
  obtain ⟨hS, hC⟩ := storeCome (w := U.drew) (hp_drew hu) (by kernel_rfl) x x (.slice none 0 0) HX.out HX.out rfl
  have HC := Lib.hid hC
  have HM := Lib.hid ((mu.drew).setRow (g := w.heap.size + 1) (.inr (by omega)) (comeC x x (.slice none 0 0)).toArray)
  clear hu mu hC
  go_region
  all_goals
    go_wp2_with fail
    exact bodyPost_ret (results_cell_row rfl _ _ _ _ _ _ _ rfl HC.out.blk Tryd.underlying110 rfl (by rw [List.size_toArray, comeC_len HC.out.la HC.out.lb]; exact info110)) rfl ⟨_, [], rfl, TextsAt.nil _ _, HM.out⟩
end Go.Proofs.YtbbobpjcbnfpfaaDoor
namespace Go.Proofs.YtbbobpjcbnfpfaaDoor
open Go.RowKit
attribute [local go_sem high] one8 st8 cm8 b_and8 b_and8r b_and8l b_or8 b_or8r b_or8l b_xor8 b_xor8r b_xor8l b_andNot8 b_andNot8r b_andNot8l b_add8 b_add8r b_add8l b_sub8 b_sub8r b_sub8l b_mul8 b_mul8r b_mul8l b_eql8 b_eql8r b_eql8l b_neq8 b_neq8r b_neq8l b_lss8 b_lss8r b_lss8l b_leq8 b_leq8r b_leq8l b_gtr8 b_gtr8r b_gtr8l b_geq8 b_geq8r b_geq8l b_quo8r b_rem8r b_shl8r b_shr8r b_shl8l b_shr8l u_xor8 g_eql8 g_neq8 g_eql8' g_neq8' one32 st32 cm32 b_and32 b_and32r b_and32l b_or32 b_or32r b_or32l b_xor32 b_xor32r b_xor32l b_andNot32 b_andNot32r b_andNot32l b_add32 b_add32r b_add32l b_sub32 b_sub32r b_sub32l b_mul32 b_mul32r b_mul32l b_eql32 b_eql32r b_eql32l b_neq32 b_neq32r b_neq32l b_lss32 b_lss32r b_lss32l b_leq32 b_leq32r b_leq32l b_gtr32 b_gtr32r b_gtr32l b_geq32 b_geq32r b_geq32l b_quo32r b_rem32r b_shl32r b_shr32r b_shl32l b_shr32l u_xor32 g_eql32 g_neq32 g_eql32' g_neq32' one64 st64 cm64 b_and64 b_and64r b_and64l b_or64 b_or64r b_or64l b_xor64 b_xor64r b_xor64l b_andNot64 b_andNot64r b_andNot64l b_add64 b_add64r b_add64l b_sub64 b_sub64r b_sub64l b_mul64 b_mul64r b_mul64l b_eql64 b_eql64r b_eql64l b_neq64 b_neq64r b_neq64l b_lss64 b_lss64r b_lss64l b_leq64 b_leq64r b_leq64l b_gtr64 b_gtr64r b_gtr64l b_geq64 b_geq64r b_geq64l b_quo64r b_rem64r b_shl64r b_shr64r b_shl64l b_shr64l u_xor64 g_eql64 g_neq64 g_eql64' g_neq64' c_u8_u8 c_u8_u32 c_u8_u64 c_i_u8 c_u32_u8 c_u32_u32 c_u32_u64 c_i_u32 c_u64_u8 c_u64_u32 c_u64_u64 c_i_u64 c_u8_i c_u32_i
attribute [local go_sem ↓] ce8 ce32 ce64
attribute [local go_sem ↓] sliced_slp loadO26 storeO26 loadO110 storeO110 buildO110
/-- A come is written: the texts stay. -/
theorem TextsAt.off {w w' : World} {B : Nat} {v : Value} {ys : List SlR} {ts : List Bs} (h : TextsAt w B v ys ts) {g : Nat} {Z : Array Value} (hz : w.heap[g]? = some (.cells Z 110)) (m : Mod [g] w w') : TextsAt w' B v ys ts := by
  refine ⟨h.own.mod m (fun x hx hb => ?_), fun y hy => (h.each y hy).mod m (fun x hx hb => ?_), h.is⟩
  · rw [List.mem_singleton.1 hx] at hb
    rcases h.own.2 with ⟨rfl, _⟩ | ⟨g', cap, cur, rfl, _, hb', _⟩
    · cases hb
    · injection hb with hb
      simp only at hb
      subst hb
      rw [hz] at hb'
      injection hb' with hb'
      injection hb' with _ h2 _
      exact absurd h2 (by decide)
  · rw [List.mem_singleton.1 hx] at hb
    rcases (h.each y hy).2 with ⟨e, _⟩ | ⟨g', cap, cur, e, _, hb', _⟩
    · rw [e] at hb; cases hb
    · rw [e] at hb
      injection hb with hb
      simp only at hb
      subst hb
      rw [hz] at hb'
      injection hb' with hb'
      injection hb' with _ h2 _
      exact absurd h2 (by decide)
/-- A list of texts grows: a come stays. -/
theorem blk_grown {w w1 w' : World} {g : Nat} {Z : Array Value} {B : Nat} {u : Value} {l : List SlR} (h : w.heap[g]? = some (.cells Z 110)) (ho : OwnL w1 B u l) (k : Mod [] w w1) (hg : w1.grownBy w' u.ownBlock) : w'.heap[g]? = some (.cells Z 110) := by
  have h1 := k.get0 h
  refine (hg.block g (lt_of_block h1) (fun hx => ?_)).trans h1
  rcases ho.2 with ⟨rfl, _⟩ | ⟨g', cap, cur, rfl, _, hb', _⟩
  · cases hx
  · injection hx with hx
    simp only at hx
    subst hx
    rw [h1] at hb'
    injection hb' with hb'
    injection hb' with _ h2 _
    exact absurd h2 (by decide)
theorem come_grown {w w1 w' : World} {g : Nat} {a b : Bs} {v : Value} {B : Nat} {u : Value} {l : List SlR} (h : ComeAt w g a b v) (ho : OwnL w1 B u l) (k : Mod [] w w1) (hg : w1.grownBy w' u.ownBlock) : ComeAt w' g a b v := ⟨blk_grown h.blk ho k hg, h.la, h.lb, h.one⟩
theorem TextsAt.one {w : World} {B : Nat} {v : Value} {ys : List SlR} {ts : List Bs} (h : TextsAt w B v ys ts) : v.oneCell' = true := by
  obtain ⟨p, c, rfl, _⟩ := h.own.rd
  rfl
set_option maxRecDepth 100000 in
set_option maxHeartbeats 2000000 in
theorem comes_left {hf : Bs → Bs} (m n K j c : Nat) (fb : Bool) (was x a0 b0 : Bs) (ts : List Bs) (l : List Bs) (p : Option Addr) (w : World) (h1 : 1 < n) (hs : n ≤ 1099511627776) (hK : K = half n) (hmn : m ≠ n) (hmk : m ≤ K) (hw : was.length = 32) (hx : x.length = 32) (hj : j = l.length) (hj4 : j ≤ 64) (hts : ts.length ≤ 4294967296) (la : a0.length = 32) (lb : b0.length = 32) (hr : RdD w p c (l ++ [x])) (H : Hs hf w) (R : Rf w)
    (hA : ∀ W, Mod [] w W → Calls Tryd.prog 76 #[.int .i64 m, .int .i64 K, .bool fb, dv was, .slice p j c] W (ComesPost a0 b0 ts W)) :
    Calls Tryd.prog 76 #[.int .i64 m, .int .i64 n, .bool fb, dv was, .slice p (j + 1 : Nat) c] w (ComesPost a0 (hf (1 :: (b0 ++ x))) (ts ++ [1 :: (b0 ++ x)]) w) := by
  have hkk := fun W => below_any n W (by omega) (by omega)
  rw [← hK] at hkk
  obtain ⟨b, o, rfl, _⟩ := hr.elem dgc_len j x (by rw [hj]; simp)
  have hle := hr.le
  have hcj : j + 1 ≤ c := by simp at hle; omega
  have HK := Lib.hid hkk
  have HA := Lib.hid hA
  have HH := Lib.hid H
  have HRf := Lib.hid R
  have HW := Lib.hid hw
  have HX := Lib.hid hx
  have HRD := Lib.hid (fun (W : World) (k : Mod [] w W) => loadD_at (hr.mod0 k) (i := j) x (by rw [hj]; simp) hx)
  have HLA := Lib.hid la
  have HLB := Lib.hid lb
  have e1 : decide ((m : Int) = (n : Int)) = false := by simp; omega
  have e9 : ((m : Int) == (n : Int)) = false := by simp; omega
  have e8 : decide (m = n) = false := by simp; omega
  have hd : decide ((m : Int) ≤ (K : Int)) = true := by simp; omega
  have f1 : (0 : Int) ≤ (j : Int) := by omega
  have f2 : (j : Int) < ((j + 1 : Nat) : Int) := by omega
  have f3 : (j : Int) ≤ (c : Int) := by omega
  have f4 : ((j + 1 : Nat) : Int) - 1 = (j : Int) := by omega
  have f5 : IntKind.i64.wrap (j : Int) = (j : Int) := wrI _ (by omega) (by omega)
  clear hK hw hx hr H R hA hkk hmn hj la lb hle
  unfold dv
  go_enter Tryd.func76, Tryd.ntmps76
  go_wp2_with fail
  refine abs_w (C := fun W => Calls _ _ _ W _) (fun W => W.heap[w.heap.size]? = some (.cells (was.map V8).toArray 24) ∧ W.heap[w.heap.size + 1]? = some (.cells Tryd.zeroCells110 110) ∧ Mod [] w W) ⟨hp_old (hp_new _ _ _ rfl), hp_new _ _ _ (by simp), ((Mod.refl [] w).alloc _).alloc _⟩ ?_
  rintro U ⟨u8, u10, mU⟩
  refine (HK.out _).mono ?_
  rintro e w2 ⟨rfl, rfl⟩
  have hl := HRD.out _ mU
  have hS := storeNewD U x HX.out
  have HU8 := Lib.hid u8
  have HU10 := Lib.hid u10
  have HMU := Lib.hid mU
  clear u8 u10 mU
  go_wp2_with fail
  refine abs_w (C := fun W => Code.wp _ _ _ _ W) (fun W => W.heap[w.heap.size]? = some (.cells (was.map V8).toArray 24) ∧ W.heap[w.heap.size + 1]? = some (.cells Tryd.zeroCells110 110) ∧ W.heap[U.heap.size]? = some (.cells (x.map V8).toArray 24) ∧ Mod [] w W) ⟨hp_old HU8.out, hp_old HU10.out, hp_new _ _ _ rfl, HMU.out.alloc _⟩ ?_
  rintro V ⟨v8, v10, vx, mV⟩
  have l1 := loadDv (w := V.drew) was HW.out (hp_drew v8)
  have l2 := fun (O : Obj) => loadDv (w := (V.alloc O).drew) was HW.out (hp_drew (hp_old v8))
  have HV10 := Lib.hid v10
  have HVX := Lib.hid vx
  have HMV := Lib.hid mV
  have HVD := Lib.hid mV.drew
  have HVA := Lib.hid (mV.alloc (.cells Tryd.zeroCells110 110)).drew
  have HZC := Lib.hid (show (Tryd.zeroCells110).size = 65 by kernel_rfl)
  have f6 : (0 : Int) ≤ ((j + 1 : Nat) : Int) := by omega
  clear v8 v10 vx mV hl hS HU8 HU10 HMU
  go_region_law (first
    | (go_simp; go_at_call 76; with_reducible refine (HA.out _ HVD.out).mono ?_
       rintro _ w4 ⟨v4, ys, rfl, ht4, m4⟩
       obtain ⟨b1, b2⟩ := storeCome (hp_new w4 (.cells Tryd.zeroCells110 110) _ rfl) HZC.out a0 b0 v4 HLA.out HLB.out ht4.one)
    | (go_simp; go_at_call 76; with_reducible refine (HA.out _ HVA.out).mono ?_
       rintro _ w4 ⟨v4, ys, rfl, ht4, m4⟩
       obtain ⟨b1, b2⟩ := storeCome (m4.get0 (hp_new V (.cells Tryd.zeroCells110 110) _ rfl)) HZC.out a0 b0 v4 HLA.out HLB.out ht4.one))
  all_goals
    have sV := lt_of_block HVX.out
    have sW := HMV.out.size
    have s10 := lt_of_block HV10.out
    have s4 := m4.size
    simp at s4
    first
      | (refine abs_w (C := fun W => Exit.then _ _ _ _ W) (fun W => ComeAt W w4.heap.size a0 b0 v4 ∧ W.heap[U.heap.size]? = some (.cells (x.map V8).toArray 24) ∧ W.heap[w.heap.size + 1]? = some (.cells Tryd.zeroCells110 110) ∧ TextsAt W w.heap.size v4 ys ts ∧ Mod [] w W ∧ w.heap.size + 1 ≠ w4.heap.size ∧ w.heap.size ≤ w4.heap.size) ⟨b2, hp_setRow_ne (hp_old ((((Mod.refl [] V).drew).trans0 m4).get0 HVX.out)) (by omega), hp_setRow_ne (hp_old ((((Mod.refl [] V).drew).trans0 m4).get0 HV10.out)) (by omega), ((ht4.mono (B' := w.heap.size) (by have := HVD.out.size; omega)).mod0 ((Mod.refl [] w4).alloc (.cells Tryd.zeroCells110 110))).off (hp_new w4 _ _ rfl) ((Mod.refl [w4.heap.size] _).setRow (.inl (by simp)) _), ((HVD.out.trans0 m4).alloc _).setRow (.inr (by omega)) _, by omega, by omega⟩ ?_; rintro W5 ⟨hc5, hx5, h105, ht5, m5, hgn, hgb⟩; obtain ⟨g, hg⟩ : ∃ g, g = w4.heap.size := ⟨_, rfl⟩; rw [← hg] at hc5 hgn hgb ⊢; clear hg)
      | (refine abs_w (C := fun W => Exit.then _ _ _ _ W) (fun W => ComeAt W V.heap.size a0 b0 v4 ∧ W.heap[U.heap.size]? = some (.cells (x.map V8).toArray 24) ∧ W.heap[w.heap.size + 1]? = some (.cells Tryd.zeroCells110 110) ∧ TextsAt W w.heap.size v4 ys ts ∧ Mod [] w W ∧ w.heap.size + 1 ≠ V.heap.size ∧ w.heap.size ≤ V.heap.size) ⟨b2, hp_setRow_ne ((((Mod.refl [] V).alloc (.cells Tryd.zeroCells110 110)).drew.trans0 m4).get0 HVX.out) (by omega), hp_setRow_ne ((((Mod.refl [] V).alloc (.cells Tryd.zeroCells110 110)).drew.trans0 m4).get0 HV10.out) (by omega), (ht4.mono (B' := w.heap.size) (by have := HVA.out.size; omega)).off (m4.get0 (hp_new V _ _ rfl)) ((Mod.refl [V.heap.size] _).setRow (.inl (by simp)) _), (HVA.out.trans0 m4).setRow (.inr (by omega)) _, by omega, by omega⟩ ?_; rintro W5 ⟨hc5, hx5, h105, ht5, m5, hgn, hgb⟩; obtain ⟨g, hg⟩ : ∃ g, g = V.heap.size := ⟨_, rfl⟩; rw [← hg] at hc5 hgn hgb ⊢; clear hg)
    obtain ⟨pv, cv, hv, _⟩ := ht5.own.rd
    have HC5 := Lib.hid hc5
    have HX5 := Lib.hid hx5
    have H105 := Lib.hid h105
    have HT5 := Lib.hid ht5
    have HM5 := Lib.hid m5
    have HGN := Lib.hid hgn
    have HGB := Lib.hid hgb
    clear b1 b2 ht4 m4 hc5 hx5 h105 ht5 m5 hgn hgb l1 l2 s4 s10 sV sW
    subst hv
    have lb := HC5.out.load1
    have lx := loadDv x HX.out HX5.out
    obtain ⟨T, hT⟩ : ∃ T, T = 1 :: (b0 ++ x) := ⟨_, rfl⟩
    have hTl : T.length ≤ 70368744177664 := by rw [hT]; simp [HLB.out, HX.out]
    have HTX := Lib.hid (nodeText_any b0 x HLB.out HX.out W5)
    rw [← hT] at HTX
    have HTE := Lib.hid hT
    clear hT
    go_wp2_with fail
    refine HTX.out.mono ?_
    rintro _ w6 ⟨v6, rfl, ho6, m6⟩
    obtain ⟨p6, c6, rfl, _, _⟩ := ho6.rd
    have HO6 := Lib.hid (ho6.mono (B' := w.heap.size) HM5.out.size)
    have HC6 := Lib.hid (HC5.out.mod0 m6)
    have H106 := Lib.hid (m6.get0 H105.out)
    have HT6 := Lib.hid (HT5.out.mod0 m6)
    have HM6 := Lib.hid (HM5.out.trans0 m6)
    have hc64 := HC6.out.c64
    clear ho6 m6 lb lx HTX HX5
    go_wp2_with (at_builtin; with_reducible refine froz_app _ _ rfl ?_)
    unfold Froz
    refine pushL rfl _ _ rfl w.heap.size _ ys (HT6.out.own.alloc _) rfl w6.heap.size ⟨p6, c6, T⟩ rfl ((hp_new _ _ _ rfl).trans (by simp [SlR.v])) (by rw [HT6.out.len]; exact hts) (by have := HM6.out.size; simp; omega) ?_
    intro v8 w8 ho8 hg8
    have hown := HT6.out.own
    have HC8 := Lib.hid (come_grown HC6.out (hown.alloc _) ((Mod.refl [] w6).alloc _) hg8)
    have H108 := Lib.hid (blk_grown H106.out (hown.alloc _) ((Mod.refl [] w6).alloc _) hg8)
    have HT8 := Lib.hid (show TextsAt w8 w.heap.size v8 (ys ++ [(⟨p6, c6, T⟩ : SlR)]) (ts ++ [T]) from by
      refine ⟨ho8, fun y' hy' => ?_, ?_⟩
      · rcases List.mem_append.1 hy' with hy' | hy'
        · exact ((HT6.out.each y' hy').alloc _).grownL (hown.alloc _) hg8
        · rw [List.mem_singleton] at hy'
          subst hy'
          exact (HO6.out.alloc _).grownL (hown.alloc _) hg8
      · rw [← HT6.out.is]; simp [ds])
    have HM8 := Lib.hid ((HM6.out.alloc _).of_grown hg8 (fun r hr => .inr (hown.row r hr)))
    obtain ⟨p8, c8, hv8, _⟩ := ho8.rd
    rw [show (ys ++ [(⟨p6, c6, T⟩ : SlR)]).length = ys.length + 1 by simp] at hv8
    subst hv8
    have hc8 := HC8.out.c64
    have hf8 := HC8.out.f64
    clear ho8 hg8 hown hc64 HC6 H106 HT6 HM6
    go_wp2_with fail
    have hset : Mod [g] w8 (w8.setCell ⟨g, 64, none⟩ (.slice p8 (ys.length + 1) c8)) := (Mod.refl [g] w8).setCell (.inl (by simp)) _
    refine abs_w (C := fun W => Calls _ _ _ W _) (fun W => ComeAt W g a0 b0 (.slice p8 (ys.length + 1) c8) ∧ W.heap[w.heap.size + 1]? = some (.cells Tryd.zeroCells110 110) ∧ TextsAt W w.heap.size (.slice p8 (ys.length + 1) c8) (ys ++ [(⟨p6, c6, T⟩ : SlR)]) (ts ++ [T]) ∧ Mod [] w W)
      ⟨HC8.out.set64 _ rfl, hset.get H108.out (by simpa using HGN.out), HT8.out.off HC8.out.blk hset, HM8.out.trans hset (fun r hr => .inr (by rw [List.mem_singleton.1 hr]; exact HGB.out))⟩ ?_
    rintro W9 ⟨hc9, h109, ht9, m9⟩
    have HC9 := Lib.hid hc9
    have H109 := Lib.hid h109
    have HT9 := Lib.hid ht9
    have HM9 := Lib.hid m9
    have hrt := own_rd (ht9.each ⟨p6, c6, T⟩ (by simp))
    clear hset hc9 h109 ht9 m9 hc8 hf8 HC8 H108 HT8 HM8 HO6
    refine (rsum (HH.out.mod0 HM9.out) (HRf.out.mod0 HM9.out) p6 c6 _ T rfl hrt hTl).mono ?_
    rintro _ w10 ⟨rfl, m10⟩
    obtain ⟨D, hD⟩ : ∃ D, D = hf T := ⟨_, rfl⟩
    have hDl : D.length = 32 := by rw [hD]; exact HH.out.len T
    rw [← hD]
    have HDE := Lib.hid hD
    have HC10 := Lib.hid (HC9.out.mod0 m10)
    have H1010 := Lib.hid (m10.get0 H109.out)
    have HT10 := Lib.hid (HT9.out.mod0 m10)
    have HM10 := Lib.hid (HM9.out.trans0 m10)
    obtain ⟨s1, c1⟩ := HC10.out.store1 D hDl
    have h10n := hp_setRow_ne (cs := (comeC a0 D (.slice p8 (ys.length + 1) c8)).toArray) H1010.out HGN.out
    obtain ⟨s2, c2⟩ := storeCome h10n (by kernel_rfl) a0 D (.slice p8 (ys.length + 1) c8) HLA.out hDl rfl
    have l3 := c1.load
    have k1 : Mod [g] w10 (w10.setRow g (comeC a0 D (.slice p8 (ys.length + 1) c8)).toArray) := (Mod.refl [g] _).setRow (.inl (by simp)) _
    have k2 : Mod [w.heap.size + 1] (w10.setRow g (comeC a0 D (.slice p8 (ys.length + 1) c8)).toArray) ((w10.setRow g (comeC a0 D (.slice p8 (ys.length + 1) c8)).toArray).setRow (w.heap.size + 1) (comeC a0 D (.slice p8 (ys.length + 1) c8)).toArray) := (Mod.refl [w.heap.size + 1] _).setRow (.inl (by simp)) _
    have HCE := Lib.hid c2
    have HTE2 := Lib.hid ((HT10.out.off HC10.out.blk k1).off h10n k2)
    have HME := Lib.hid ((HM10.out.setRow (g := g) (.inr HGB.out) (comeC a0 D (.slice p8 (ys.length + 1) c8)).toArray).setRow (g := w.heap.size + 1) (.inr (by omega)) (comeC a0 D (.slice p8 (ys.length + 1) c8)).toArray)
    clear m10 hD c1 c2 k1 k2 h10n hrt HC10 HT10 HM10 HC9 H109 HT9 HM9
    go_wp2_with fail
    rw [← HTE.out, ← HDE.out]
    exact bodyPost_ret (results_cell_row rfl _ _ _ _ _ _ _ rfl HCE.out.blk Tryd.underlying110 rfl (by rw [List.size_toArray, comeC_len HCE.out.la HCE.out.lb]; exact info110)) rfl ⟨_, _, rfl, HTE2.out, HME.out⟩
end Go.Proofs.YtbbobpjcbnfpfaaDoor
namespace Go.Proofs.YtbbobpjcbnfpfaaDoor
open Go.RowKit
attribute [local go_sem high] one8 st8 cm8 b_and8 b_and8r b_and8l b_or8 b_or8r b_or8l b_xor8 b_xor8r b_xor8l b_andNot8 b_andNot8r b_andNot8l b_add8 b_add8r b_add8l b_sub8 b_sub8r b_sub8l b_mul8 b_mul8r b_mul8l b_eql8 b_eql8r b_eql8l b_neq8 b_neq8r b_neq8l b_lss8 b_lss8r b_lss8l b_leq8 b_leq8r b_leq8l b_gtr8 b_gtr8r b_gtr8l b_geq8 b_geq8r b_geq8l b_quo8r b_rem8r b_shl8r b_shr8r b_shl8l b_shr8l u_xor8 g_eql8 g_neq8 g_eql8' g_neq8' one32 st32 cm32 b_and32 b_and32r b_and32l b_or32 b_or32r b_or32l b_xor32 b_xor32r b_xor32l b_andNot32 b_andNot32r b_andNot32l b_add32 b_add32r b_add32l b_sub32 b_sub32r b_sub32l b_mul32 b_mul32r b_mul32l b_eql32 b_eql32r b_eql32l b_neq32 b_neq32r b_neq32l b_lss32 b_lss32r b_lss32l b_leq32 b_leq32r b_leq32l b_gtr32 b_gtr32r b_gtr32l b_geq32 b_geq32r b_geq32l b_quo32r b_rem32r b_shl32r b_shr32r b_shl32l b_shr32l u_xor32 g_eql32 g_neq32 g_eql32' g_neq32' one64 st64 cm64 b_and64 b_and64r b_and64l b_or64 b_or64r b_or64l b_xor64 b_xor64r b_xor64l b_andNot64 b_andNot64r b_andNot64l b_add64 b_add64r b_add64l b_sub64 b_sub64r b_sub64l b_mul64 b_mul64r b_mul64l b_eql64 b_eql64r b_eql64l b_neq64 b_neq64r b_neq64l b_lss64 b_lss64r b_lss64l b_leq64 b_leq64r b_leq64l b_gtr64 b_gtr64r b_gtr64l b_geq64 b_geq64r b_geq64l b_quo64r b_rem64r b_shl64r b_shr64r b_shl64l b_shr64l u_xor64 g_eql64 g_neq64 g_eql64' g_neq64' c_u8_u8 c_u8_u32 c_u8_u64 c_i_u8 c_u32_u8 c_u32_u32 c_u32_u64 c_i_u32 c_u64_u8 c_u64_u32 c_u64_u64 c_i_u64 c_u8_i c_u32_i
attribute [local go_sem ↓] ce8 ce32 ce64
attribute [local go_sem ↓] sliced_slp loadO26 storeO26 loadO110 storeO110 buildO110
set_option maxRecDepth 100000 in
set_option maxHeartbeats 2000000 in
theorem comes_right {hf : Bs → Bs} (m n K j c : Nat) (fb : Bool) (was x a0 b0 : Bs) (ts : List Bs) (l : List Bs) (p : Option Addr) (w : World) (h1 : 1 < n) (hs : n ≤ 1099511627776) (hK : K = half n) (hmn : m ≠ n) (hml : m ≤ n) (hmk : ¬ m ≤ K) (hw : was.length = 32) (hx : x.length = 32) (hj : j = l.length) (hj4 : j ≤ 64) (hts : ts.length ≤ 4294967296) (la : a0.length = 32) (lb : b0.length = 32) (hr : RdD w p c (l ++ [x])) (H : Hs hf w) (R : Rf w)
    (hA : ∀ W, Mod [] w W → Calls Tryd.prog 76 #[.int .i64 (m - K : Nat), .int .i64 (n - K : Nat), .bool false, dv was, .slice p j c] W (ComesPost a0 b0 ts W)) :
    Calls Tryd.prog 76 #[.int .i64 m, .int .i64 n, .bool fb, dv was, .slice p (j + 1 : Nat) c] w (ComesPost (hf (1 :: (x ++ a0))) (hf (1 :: (x ++ b0))) (ts ++ [1 :: (x ++ a0), 1 :: (x ++ b0)]) w) := by
  have hkk := fun W => below_any n W (by omega) (by omega)
  rw [← hK] at hkk
  obtain ⟨b, o, rfl, _⟩ := hr.elem dgc_len j x (by rw [hj]; simp)
  have hle := hr.le
  have hcj : j + 1 ≤ c := by simp at hle; omega
  have HK := Lib.hid hkk
  have HA := Lib.hid hA
  have HH := Lib.hid H
  have HRf := Lib.hid R
  have HW := Lib.hid hw
  have HX := Lib.hid hx
  have HRD := Lib.hid (fun (W : World) (k : Mod [] w W) => loadD_at (hr.mod0 k) (i := j) x (by rw [hj]; simp) hx)
  have HLA := Lib.hid la
  have HLB := Lib.hid lb
  have e1 : decide ((m : Int) = (n : Int)) = false := by simp; omega
  have e9 : ((m : Int) == (n : Int)) = false := by simp; omega
  have e8 : decide (m = n) = false := by simp; omega
  have hd : decide ((m : Int) ≤ (K : Int)) = false := by simp; omega
  have hK1 : K < n := by rw [hK]; exact half_lt n (by omega)
  have g1 : (m : Int) - (K : Int) = ((m - K : Nat) : Int) := by omega
  have g2 : (n : Int) - (K : Int) = ((n - K : Nat) : Int) := by omega
  have g3 : IntKind.i64.wrap ((m - K : Nat) : Int) = ((m - K : Nat) : Int) := wrI _ (by omega) (by omega)
  have g4 : IntKind.i64.wrap ((n - K : Nat) : Int) = ((n - K : Nat) : Int) := wrI _ (by omega) (by omega)
  have f1 : (0 : Int) ≤ (j : Int) := by omega
  have f2 : (j : Int) < ((j + 1 : Nat) : Int) := by omega
  have f3 : (j : Int) ≤ (c : Int) := by omega
  have f4 : ((j + 1 : Nat) : Int) - 1 = (j : Int) := by omega
  have f5 : IntKind.i64.wrap (j : Int) = (j : Int) := wrI _ (by omega) (by omega)
  clear hK hw hx hr H R hA hkk hmn hj la lb hle
  unfold dv
  go_enter Tryd.func76, Tryd.ntmps76
  go_wp2_with fail
  refine abs_w (C := fun W => Calls _ _ _ W _) (fun W => W.heap[w.heap.size]? = some (.cells (was.map V8).toArray 24) ∧ W.heap[w.heap.size + 1]? = some (.cells Tryd.zeroCells110 110) ∧ Mod [] w W) ⟨hp_old (hp_new _ _ _ rfl), hp_new _ _ _ (by simp), ((Mod.refl [] w).alloc _).alloc _⟩ ?_
  rintro U ⟨u8, u10, mU⟩
  refine (HK.out _).mono ?_
  rintro e w2 ⟨rfl, rfl⟩
  have hl := HRD.out _ mU
  have hS := storeNewD U x HX.out
  have HU8 := Lib.hid u8
  have HU10 := Lib.hid u10
  have HMU := Lib.hid mU
  clear u8 u10 mU
  go_wp2_with fail
  refine abs_w (C := fun W => Code.wp _ _ _ _ W) (fun W => W.heap[w.heap.size]? = some (.cells (was.map V8).toArray 24) ∧ W.heap[w.heap.size + 1]? = some (.cells Tryd.zeroCells110 110) ∧ W.heap[U.heap.size]? = some (.cells (x.map V8).toArray 24) ∧ Mod [] w W) ⟨hp_old HU8.out, hp_old HU10.out, hp_new _ _ _ rfl, HMU.out.alloc _⟩ ?_
  rintro V ⟨v8, v10, vx, mV⟩
  have l1 := loadDv (w := V.drew) was HW.out (hp_drew v8)
  have l2 := fun (O : Obj) => loadDv (w := (V.alloc O).drew) was HW.out (hp_drew (hp_old v8))
  have HV10 := Lib.hid v10
  have HVX := Lib.hid vx
  have HMV := Lib.hid mV
  have HVD := Lib.hid mV.drew
  have HVA := Lib.hid (mV.alloc (.cells Tryd.zeroCells110 110)).drew
  have HZC := Lib.hid (show (Tryd.zeroCells110).size = 65 by kernel_rfl)
  have f6 : (0 : Int) ≤ ((j + 1 : Nat) : Int) := by omega
  clear v8 v10 vx mV hl hS HU8 HU10 HMU
  go_region_law (first
    | (go_simp; go_at_call 76; with_reducible refine (HA.out _ HVD.out).mono ?_
       rintro _ w4 ⟨v4, ys, rfl, ht4, m4⟩
       obtain ⟨b1, b2⟩ := storeCome (hp_new w4 (.cells Tryd.zeroCells110 110) _ rfl) HZC.out a0 b0 v4 HLA.out HLB.out ht4.one)
    | (go_simp; go_at_call 76; with_reducible refine (HA.out _ HVA.out).mono ?_
       rintro _ w4 ⟨v4, ys, rfl, ht4, m4⟩
       obtain ⟨b1, b2⟩ := storeCome (m4.get0 (hp_new V (.cells Tryd.zeroCells110 110) _ rfl)) HZC.out a0 b0 v4 HLA.out HLB.out ht4.one))
  all_goals
    have sV := lt_of_block HVX.out
    have sW := HMV.out.size
    have s10 := lt_of_block HV10.out
    have s4 := m4.size
    simp at s4
    first
      | (refine abs_w (C := fun W => Exit.then _ _ _ _ W) (fun W => ComeAt W w4.heap.size a0 b0 v4 ∧ W.heap[U.heap.size]? = some (.cells (x.map V8).toArray 24) ∧ W.heap[w.heap.size + 1]? = some (.cells Tryd.zeroCells110 110) ∧ TextsAt W w.heap.size v4 ys ts ∧ Mod [] w W ∧ w.heap.size + 1 ≠ w4.heap.size ∧ w.heap.size ≤ w4.heap.size) ⟨b2, hp_setRow_ne (hp_old ((((Mod.refl [] V).drew).trans0 m4).get0 HVX.out)) (by omega), hp_setRow_ne (hp_old ((((Mod.refl [] V).drew).trans0 m4).get0 HV10.out)) (by omega), ((ht4.mono (B' := w.heap.size) (by have := HVD.out.size; omega)).mod0 ((Mod.refl [] w4).alloc (.cells Tryd.zeroCells110 110))).off (hp_new w4 _ _ rfl) ((Mod.refl [w4.heap.size] _).setRow (.inl (by simp)) _), ((HVD.out.trans0 m4).alloc _).setRow (.inr (by omega)) _, by omega, by omega⟩ ?_; rintro W5 ⟨hc5, hx5, h105, ht5, m5, hgn, hgb⟩; obtain ⟨g, hg⟩ : ∃ g, g = w4.heap.size := ⟨_, rfl⟩; rw [← hg] at hc5 hgn hgb ⊢; clear hg)
      | (refine abs_w (C := fun W => Exit.then _ _ _ _ W) (fun W => ComeAt W V.heap.size a0 b0 v4 ∧ W.heap[U.heap.size]? = some (.cells (x.map V8).toArray 24) ∧ W.heap[w.heap.size + 1]? = some (.cells Tryd.zeroCells110 110) ∧ TextsAt W w.heap.size v4 ys ts ∧ Mod [] w W ∧ w.heap.size + 1 ≠ V.heap.size ∧ w.heap.size ≤ V.heap.size) ⟨b2, hp_setRow_ne ((((Mod.refl [] V).alloc (.cells Tryd.zeroCells110 110)).drew.trans0 m4).get0 HVX.out) (by omega), hp_setRow_ne ((((Mod.refl [] V).alloc (.cells Tryd.zeroCells110 110)).drew.trans0 m4).get0 HV10.out) (by omega), (ht4.mono (B' := w.heap.size) (by have := HVA.out.size; omega)).off (m4.get0 (hp_new V _ _ rfl)) ((Mod.refl [V.heap.size] _).setRow (.inl (by simp)) _), (HVA.out.trans0 m4).setRow (.inr (by omega)) _, by omega, by omega⟩ ?_; rintro W5 ⟨hc5, hx5, h105, ht5, m5, hgn, hgb⟩; obtain ⟨g, hg⟩ : ∃ g, g = V.heap.size := ⟨_, rfl⟩; rw [← hg] at hc5 hgn hgb ⊢; clear hg)
    obtain ⟨pv, cv, hv, _⟩ := ht5.own.rd
    have HC5 := Lib.hid hc5
    have HX5 := Lib.hid hx5
    have H105 := Lib.hid h105
    have HT5 := Lib.hid ht5
    have HM5 := Lib.hid m5
    have HGN := Lib.hid hgn
    have HGB := Lib.hid hgb
    clear b1 b2 ht4 m4 hc5 hx5 h105 ht5 m5 hgn hgb l1 l2 s4 s10 sV sW
    subst hv
    have la := HC5.out.load0
    have lx := loadDv x HX.out HX5.out
    obtain ⟨T, hT⟩ : ∃ T, T = 1 :: (x ++ a0) := ⟨_, rfl⟩
    obtain ⟨T2, hT2⟩ : ∃ T2, T2 = 1 :: (x ++ b0) := ⟨_, rfl⟩
    have hTl : T.length ≤ 70368744177664 := by rw [hT]; simp [HLA.out, HX.out]
    have hTl2 : T2.length ≤ 70368744177664 := by rw [hT2]; simp [HLB.out, HX.out]
    have HTX := Lib.hid (nodeText_any x a0 HX.out HLA.out W5)
    have HTX2 := Lib.hid (fun W => nodeText_any x b0 HX.out HLB.out W)
    rw [← hT] at HTX
    rw [← hT2] at HTX2
    have HTE := Lib.hid hT
    have HTE2 := Lib.hid hT2
    clear hT hT2
    go_wp2_with fail
    refine HTX.out.mono ?_
    rintro _ w6 ⟨v6, rfl, ho6, m6⟩
    obtain ⟨p6, c6, rfl, _, _⟩ := ho6.rd
    have HO6 := Lib.hid (ho6.mono (B' := w.heap.size) HM5.out.size)
    have HC6 := Lib.hid (HC5.out.mod0 m6)
    have HX6 := Lib.hid (m6.get0 HX5.out)
    have H106 := Lib.hid (m6.get0 H105.out)
    have HT6 := Lib.hid (HT5.out.mod0 m6)
    have HM6 := Lib.hid (HM5.out.trans0 m6)
    clear ho6 m6 la lx HTX HX5 HC5 H105 HT5 HM5
    have lb := HC6.out.load1
    have lx := loadDv x HX.out HX6.out
    go_wp2_with fail
    refine (HTX2.out _).mono ?_
    rintro _ w7 ⟨v7, rfl, ho7, m7⟩
    obtain ⟨p7, c7, rfl, _, _⟩ := ho7.rd
    have HO7 := Lib.hid (ho7.mono (B' := w.heap.size) HM6.out.size)
    have HO67 := Lib.hid (HO6.out.mod0 m7)
    have HC7 := Lib.hid (HC6.out.mod0 m7)
    have H107 := Lib.hid (m7.get0 H106.out)
    have HT7 := Lib.hid (HT6.out.mod0 m7)
    have HM7 := Lib.hid (HM6.out.trans0 m7)
    have hc64 := HC7.out.c64
    clear ho7 m7 lb lx HTX2 HX6 HC6 H106 HT6 HM6 HO6
    go_wp2_with (at_builtin; with_reducible refine froz_app _ _ rfl ?_)
    unfold Froz
    refine wpList_pushE (.slice none 0 0) 24 Tryd.underlying25 infoSl rfl oneSl rfl _ _ rfl w.heap.size _ ys (HT7.out.own.alloc _) rfl w7.heap.size 0 2 2 [(⟨p6, c6, T⟩ : SlR), ⟨p7, c7, T2⟩] rfl rfl (range_blk (hp_new w7 _ _ rfl) 0 _ (fun j v hv => by rw [Nat.zero_add]; simpa [SlR.v] using hv)) (by rw [HT7.out.len]; unfold maxLen; simp; omega) (by rw [HT7.out.len]; simp; omega) (by have := HM7.out.size; simp; omega) ?_
    intro v8 w8 ho8 hg8
    have hown := HT7.out.own
    have HC8 := Lib.hid (come_grown HC7.out (hown.alloc _) ((Mod.refl [] w7).alloc _) hg8)
    have H108 := Lib.hid (blk_grown H107.out (hown.alloc _) ((Mod.refl [] w7).alloc _) hg8)
    have HT8 := Lib.hid (show TextsAt w8 w.heap.size v8 (ys ++ [(⟨p6, c6, T⟩ : SlR), ⟨p7, c7, T2⟩]) (ts ++ [T, T2]) from by
      refine ⟨ho8, fun y' hy' => ?_, ?_⟩
      · rcases List.mem_append.1 hy' with hy' | hy'
        · exact ((HT7.out.each y' hy').alloc _).grownL (hown.alloc _) hg8
        · rcases List.mem_cons.1 hy' with hy' | hy'
          · subst hy'
            exact (HO67.out.alloc _).grownL (hown.alloc _) hg8
          · rw [List.mem_singleton] at hy'
            subst hy'
            exact (HO7.out.alloc _).grownL (hown.alloc _) hg8
      · rw [← HT7.out.is]; simp [ds])
    have HM8 := Lib.hid ((HM7.out.alloc _).of_grown hg8 (fun r hr => .inr (hown.row r hr)))
    obtain ⟨p8, c8, hv8, _⟩ := ho8.rd
    rw [show (ys ++ [(⟨p6, c6, T⟩ : SlR), ⟨p7, c7, T2⟩]).length = ys.length + 2 by simp] at hv8
    subst hv8
    have hc8 := HC8.out.c64
    have hf8 := HC8.out.f64
    clear ho8 hg8 hown hc64 HC7 H107 HT7 HM7
    go_wp2_with fail
    have hset : Mod [g] w8 (w8.setCell ⟨g, 64, none⟩ (.slice p8 (ys.length + 2) c8)) := (Mod.refl [g] w8).setCell (.inl (by simp)) _
    refine abs_w (C := fun W => Calls _ _ _ W _) (fun W => ComeAt W g a0 b0 (.slice p8 (ys.length + 2) c8) ∧ W.heap[w.heap.size + 1]? = some (.cells Tryd.zeroCells110 110) ∧ TextsAt W w.heap.size (.slice p8 (ys.length + 2) c8) (ys ++ [(⟨p6, c6, T⟩ : SlR), ⟨p7, c7, T2⟩]) (ts ++ [T, T2]) ∧ Mod [] w W)
      ⟨HC8.out.set64 _ rfl, hset.get H108.out (by simpa using HGN.out), HT8.out.off HC8.out.blk hset, HM8.out.trans hset (fun r hr => .inr (by rw [List.mem_singleton.1 hr]; exact HGB.out))⟩ ?_
    rintro W9 ⟨hc9, h109, ht9, m9⟩
    have HC9 := Lib.hid hc9
    have H109 := Lib.hid h109
    have HT9 := Lib.hid ht9
    have HM9 := Lib.hid m9
    have hrt := own_rd (ht9.each ⟨p6, c6, T⟩ (by simp))
    clear hset hc9 h109 ht9 m9 hc8 hf8 HC8 H108 HT8 HM8 HO67 HO7
    refine (rsum (HH.out.mod0 HM9.out) (HRf.out.mod0 HM9.out) p6 c6 _ T rfl hrt hTl).mono ?_
    rintro _ w10 ⟨rfl, m10⟩
    obtain ⟨D, hD⟩ : ∃ D, D = hf T := ⟨_, rfl⟩
    have hDl : D.length = 32 := by rw [hD]; exact HH.out.len T
    rw [← hD]
    have HDE := Lib.hid hD
    have HC10 := Lib.hid (HC9.out.mod0 m10)
    have H1010 := Lib.hid (m10.get0 H109.out)
    have HT10 := Lib.hid (HT9.out.mod0 m10)
    have HM10 := Lib.hid (HM9.out.trans0 m10)
    obtain ⟨s1, c1⟩ := HC10.out.store0 D hDl
    have k1 : Mod [g] w10 (w10.setRow g (comeC D b0 (.slice p8 (ys.length + 2) c8)).toArray) := (Mod.refl [g] _).setRow (.inl (by simp)) _
    clear m10 hD hrt HC9 H109 HT9 HM9
    go_wp2_with fail
    refine abs_w (C := fun W => Calls _ _ _ W _) (fun W => ComeAt W g D b0 (.slice p8 (ys.length + 2) c8) ∧ W.heap[w.heap.size + 1]? = some (.cells Tryd.zeroCells110 110) ∧ TextsAt W w.heap.size (.slice p8 (ys.length + 2) c8) (ys ++ [(⟨p6, c6, T⟩ : SlR), ⟨p7, c7, T2⟩]) (ts ++ [T, T2]) ∧ Mod [] w W)
      ⟨c1, hp_setRow_ne H1010.out HGN.out, HT10.out.off HC10.out.blk k1, HM10.out.setRow (.inr HGB.out) _⟩ ?_
    rintro W11 ⟨hc11, h1011, ht11, m11⟩
    have HC11 := Lib.hid hc11
    have H1011 := Lib.hid h1011
    have HT11 := Lib.hid ht11
    have HM11 := Lib.hid m11
    have hrt2 := own_rd (ht11.each ⟨p7, c7, T2⟩ (by simp))
    clear hc11 h1011 ht11 m11 s1 c1 k1 HC10 H1010 HT10 HM10
    refine (rsum (HH.out.mod0 HM11.out) (HRf.out.mod0 HM11.out) p7 c7 _ T2 rfl hrt2 hTl2).mono ?_
    rintro _ w12 ⟨rfl, m12⟩
    obtain ⟨D2, hD2⟩ : ∃ D2, D2 = hf T2 := ⟨_, rfl⟩
    have hDl2 : D2.length = 32 := by rw [hD2]; exact HH.out.len T2
    rw [← hD2]
    have HDE2 := Lib.hid hD2
    have HC12 := Lib.hid (HC11.out.mod0 m12)
    have H1012 := Lib.hid (m12.get0 H1011.out)
    have HT12 := Lib.hid (HT11.out.mod0 m12)
    have HM12 := Lib.hid (HM11.out.trans0 m12)
    obtain ⟨s1, c1⟩ := HC12.out.store1 D2 hDl2
    have h10n := hp_setRow_ne (cs := (comeC D D2 (.slice p8 (ys.length + 2) c8)).toArray) H1012.out HGN.out
    obtain ⟨s2, c2⟩ := storeCome h10n (by kernel_rfl) D D2 (.slice p8 (ys.length + 2) c8) hDl hDl2 rfl
    have l3 := c1.load
    have k1 : Mod [g] w12 (w12.setRow g (comeC D D2 (.slice p8 (ys.length + 2) c8)).toArray) := (Mod.refl [g] _).setRow (.inl (by simp)) _
    have k2 : Mod [w.heap.size + 1] (w12.setRow g (comeC D D2 (.slice p8 (ys.length + 2) c8)).toArray) ((w12.setRow g (comeC D D2 (.slice p8 (ys.length + 2) c8)).toArray).setRow (w.heap.size + 1) (comeC D D2 (.slice p8 (ys.length + 2) c8)).toArray) := (Mod.refl [w.heap.size + 1] _).setRow (.inl (by simp)) _
    have HCE := Lib.hid c2
    have HTF := Lib.hid ((HT12.out.off HC12.out.blk k1).off h10n k2)
    have HME := Lib.hid ((HM12.out.setRow (g := g) (.inr HGB.out) (comeC D D2 (.slice p8 (ys.length + 2) c8)).toArray).setRow (g := w.heap.size + 1) (.inr (by omega)) (comeC D D2 (.slice p8 (ys.length + 2) c8)).toArray)
    clear m12 hD2 c1 c2 k1 k2 h10n hrt2 HC12 HT12 HM12 HC11 H1011 HT11 HM11
    go_wp2_with fail
    rw [← HTE.out, ← HTE2.out, ← HDE.out, ← HDE2.out]
    exact bodyPost_ret (results_cell_row rfl _ _ _ _ _ _ _ rfl HCE.out.blk Tryd.underlying110 rfl (by rw [List.size_toArray, comeC_len HCE.out.la HCE.out.lb]; exact info110)) rfl ⟨_, _, rfl, HTF.out, HME.out⟩
end Go.Proofs.YtbbobpjcbnfpfaaDoor
namespace Go.Proofs.YtbbobpjcbnfpfaaDoor
open Go.RowKit
theorem comes_ts_len {hf : Bs → Bs} (n : Nat) : ∀ (m : Nat) (fb : Bool) (was : Bs) (l : List Bs), (comesH hf m n fb was l).2.2.length ≤ 2 * long m n fb := by
  induction n using Nat.strongRecOn with
  | ind n ih =>
    intro m fb was l
    rw [comesH, long]
    by_cases h1 : n ≤ 1 ∨ m = n
    · rw [if_pos h1]; split <;> simp
    · rw [if_neg h1, if_neg h1]
      have hlt := half_lt n (by omega)
      have hp := half_pos n
      by_cases h2 : m ≤ half n
      · rw [if_pos h2, if_pos h2]
        have := ih (half n) hlt m fb was l.dropLast
        simp only [List.length_append, List.length_cons, List.length_nil]
        omega
      · rw [if_neg h2, if_neg h2]
        have := ih (n - half n) (by omega) (m - half n) false was l.dropLast
        simp only [List.length_append, List.length_cons, List.length_nil]
        omega
set_option maxRecDepth 100000 in
theorem comes_any {hf : Bs → Bs} (N : Nat) : ∀ (m n : Nat) (was : Bs) (fb : Bool) (path : List Bs) (p : Option Addr) (c k : Nat) (w : World), n ≤ N → 1 ≤ m → m ≤ n → n ≤ 1099511627776 → was.length = 32 → All32 path → k = path.length → path.length = long m n fb → RdD w p c path → Hs hf w → Rf w →
    Calls Tryd.prog 76 #[.int .i64 m, .int .i64 n, .bool fb, dv was, .slice p k c] w (ComesPost (comesH hf m n fb was path).1 (comesH hf m n fb was path).2.1 (comesH hf m n fb was path).2.2 w) := by
  induction N with
  | zero => intro m n was fb path p c k w h0 h1 h2; omega
  | succ N ih =>
    intro m n was fb path p c k w hN h1 hmn hs hw ap hk hlg hr H R
    by_cases h0 : n ≤ N
    · exact ih m n was fb path p c k w h0 h1 hmn hs hw ap hk hlg hr H R
    have h41 := long_le 40 m n fb (by omega)
    rw [long] at hlg
    rw [comesH]
    by_cases hb : n ≤ 1 ∨ m = n
    · obtain rfl : m = n := by omega
      rw [if_pos hb] at hlg ⊢
      cases fb
      · rw [if_neg (by simp)] at hlg ⊢
        obtain ⟨x, rfl⟩ : ∃ x, path = [x] := List.length_eq_one_iff.1 hlg
        exact comes_f m k c was x [x] p w hw hr rfl (ap x (by simp)) hk
      · rw [if_pos rfl]
        exact comes_w m k c was p w hw
    · rw [if_neg hb] at hlg ⊢
      have hK0 := half_pos n
      have hK1 := half_lt n (by omega)
      have hp : path ≠ [] := by
        rintro rfl
        split at hlg <;> simp at hlg
      obtain ⟨q, x, rfl⟩ : ∃ q x, path = q ++ [x] := ⟨path.dropLast, path.getLast hp, (List.dropLast_concat_getLast hp).symm⟩
      obtain ⟨j, rfl⟩ : ∃ j, k = j + 1 := ⟨q.length, by simpa using hk⟩
      have hj : j = q.length := by simp at hk; omega
      have hx : x.length = 32 := ap x (by simp)
      have aq : All32 q := fun y hy => ap y (by simp [hy])
      have hr' : RdD w p c q := by
        have h := hr.take q.length
        rwa [List.take_left' rfl] at h
      have hql : (q ++ [x]).length = q.length + 1 := by simp
      rw [hql] at hlg
      rw [List.dropLast_concat, List.getLast?_concat, Option.getD_some]
      by_cases hmk : m ≤ half n
      · rw [if_pos hmk] at hlg ⊢
        have hl2 : q.length = long m (half n) fb := by omega
        have h42 := long_le 40 m (half n) fb (by omega)
        have hj64 : j ≤ 64 := by omega
        have h2l : 2 * long m (half n) fb ≤ 4294967296 := by omega
        have htl := Nat.le_trans (comes_ts_len (hf := hf) (half n) m fb was q) h2l
        have hN2 : half n ≤ N := by omega
        have hs2 : half n ≤ 1099511627776 := by omega
        have hm1 : m ≠ n := by omega
        have hn1 : 1 < n := by omega
        have hcl := comes_length H.len (half n) m fb was q hw aq hl2
        have hA := fun (W : World) (m' : Mod [] w W) => ih m (half n) was fb q p c j W hN2 h1 hmk hs2 hw aq hj hl2 (hr'.mod0 m') (H.mod0 m') (R.mod0 m')
        clear ih
        generalize comesH hf m (half n) fb was q = C at *
        obtain ⟨a0, b0, ts⟩ := C
        exact comes_left m n (half n) j c fb was x a0 b0 ts q p w hn1 hs rfl hm1 hmk hw hx hj hj64 htl hcl.1 hcl.2 hr H R hA
      · rw [if_neg hmk] at hlg ⊢
        have hl2 : q.length = long (m - half n) (n - half n) false := by omega
        have h42 := long_le 40 (m - half n) (n - half n) false (by omega)
        have hj64 : j ≤ 64 := by omega
        have h2l : 2 * long (m - half n) (n - half n) false ≤ 4294967296 := by omega
        have htl := Nat.le_trans (comes_ts_len (hf := hf) (n - half n) (m - half n) false was q) h2l
        have hN2 : n - half n ≤ N := by omega
        have hs2 : n - half n ≤ 1099511627776 := by omega
        have hm3 : 1 ≤ m - half n := by omega
        have hm4 : m - half n ≤ n - half n := by omega
        have hm1 : m ≠ n := by omega
        have hn1 : 1 < n := by omega
        have hcl := comes_length H.len (n - half n) (m - half n) false was q hw aq hl2
        have hA := fun (W : World) (m' : Mod [] w W) => ih (m - half n) (n - half n) was false q p c j W hN2 hm3 hm4 hs2 hw aq hj hl2 (hr'.mod0 m') (H.mod0 m') (R.mod0 m')
        clear ih
        generalize comesH hf (m - half n) (n - half n) false was q = C at *
        obtain ⟨a0, b0, ts⟩ := C
        exact comes_right m n (half n) j c fb was x a0 b0 ts q p w hn1 hs rfl hm1 hmn hmk hw hx hj hj64 htl hcl.1 hcl.2 hr H R hA
end Go.Proofs.YtbbobpjcbnfpfaaDoor
