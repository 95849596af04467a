/- cut, shown, Check of the program's tree. Conditions: the three tables lie in their variables; fewer than 2^42 bytes a leaf. -/
import Derived.Test.YtbbobpjcbnfpfaaDoorTrMem
import Derived.Test.YtbbobpjcbnfpfaaDoorTrRoot
import Derived.Test.YtbbobpjcbnfpfaaDoorTrOne
namespace Go.Proofs.YtbbobpjcbnfpfaaDoor
open Go.RowKit
attribute [local go_sem high] one8 st8 cm8 b_and8 b_and8r b_and8l b_or8 b_or8r b_or8l b_xor8 b_xor8r b_xor8l b_andNot8 b_andNot8r b_andNot8l b_add8 b_add8r b_add8l b_sub8 b_sub8r b_sub8l b_mul8 b_mul8r b_mul8l b_eql8 b_eql8r b_eql8l b_neq8 b_neq8r b_neq8l b_lss8 b_lss8r b_lss8l b_leq8 b_leq8r b_leq8l b_gtr8 b_gtr8r b_gtr8l b_geq8 b_geq8r b_geq8l b_quo8r b_rem8r b_shl8r b_shr8r b_shl8l b_shr8l u_xor8 g_eql8 g_neq8 g_eql8' g_neq8' one32 st32 cm32 b_and32 b_and32r b_and32l b_or32 b_or32r b_or32l b_xor32 b_xor32r b_xor32l b_andNot32 b_andNot32r b_andNot32l b_add32 b_add32r b_add32l b_sub32 b_sub32r b_sub32l b_mul32 b_mul32r b_mul32l b_eql32 b_eql32r b_eql32l b_neq32 b_neq32r b_neq32l b_lss32 b_lss32r b_lss32l b_leq32 b_leq32r b_leq32l b_gtr32 b_gtr32r b_gtr32l b_geq32 b_geq32r b_geq32l b_quo32r b_rem32r b_shl32r b_shr32r b_shl32l b_shr32l u_xor32 g_eql32 g_neq32 g_eql32' g_neq32' one64 st64 cm64 b_and64 b_and64r b_and64l b_or64 b_or64r b_or64l b_xor64 b_xor64r b_xor64l b_andNot64 b_andNot64r b_andNot64l b_add64 b_add64r b_add64l b_sub64 b_sub64r b_sub64l b_mul64 b_mul64r b_mul64l b_eql64 b_eql64r b_eql64l b_neq64 b_neq64r b_neq64l b_lss64 b_lss64r b_lss64l b_leq64 b_leq64r b_leq64l b_gtr64 b_gtr64r b_gtr64l b_geq64 b_geq64r b_geq64l b_quo64r b_rem64r b_shl64r b_shr64r b_shl64l b_shr64l u_xor64 g_eql64 g_neq64 g_eql64' g_neq64' c_u8_u8 c_u8_u32 c_u8_u64 c_i_u8 c_u32_u8 c_u32_u32 c_u32_u64 c_i_u32 c_u64_u8 c_u64_u32 c_u64_u64 c_i_u64 c_u8_i c_u32_i
attribute [local go_sem ↓] ce8 ce32 ce64
attribute [local go_sem ↓] sliced_slp loadO26 storeO26 buildO24
theorem run_zeroD (w : World) : (BuildO 24 #[]).run Tryd.prog w = .ok (dv (zeros 32)) w := run_build w _ _ _ built26
theorem RdN.shrink {α : Type} {s : Nat} {f : α → List Value} {w : World} {p : Option Addr} {c : Nat} {d : List α} (h : RdN s f w p c d) (c' : Nat) (hc : d.length ≤ c') : RdN s f w p c' d := ⟨hc, h.at_⟩
theorem results_cut {fn : Func} {a b p : Tmp} (h : fn.results = #[.tmp a, .cell p 24, .tmp b]) (tmps : Array Value) (w : World) (g : Nat) (d : List UInt8) (hd : d.length = 32) (fr : Nat × Nat)
    (hp : tmps.getD p undef = .pointer (some ⟨g, 0, none⟩)) (hg : w.heap[g]? = some (.cells (d.map V8).toArray 24 fr)) : (results fn tmps).run Tryd.prog w = .ok (.tuple #[tmps.getD a undef, dv d, tmps.getD b undef]) w := by
  have hp' : tmps[p]?.getD undef = .pointer (some ⟨g, 0, none⟩) := by simpa using hp
  have hrun := run_loadVar_row (P := Tryd.prog) w g _ 24 (d.map V8).toArray fr _ hg Tryd.underlying24 rfl (by simpa [hd] using info26)
  simp [results, h, hp', asAddr, hrun]; rfl
set_option maxRecDepth 100000 in
theorem cut_no (p : Option Addr) (c : Nat) (w : World) :
    Calls Tryd.prog 83 #[.slice p 0 c] w fun e w' => e = .returned (.tuple #[.slice none 0 0, dv (zeros 32), .bool false]) ∧ Mod [] w w' := by
  have hB := run_zeroD
  have hS := storeNewD w (zeros 32) (zeros_length 32)
  go_enter Tryd.func83, Tryd.ntmps83
  go_wp2_with fail
  exact bodyPost_ret (results_cut rfl _ _ _ _ (zeros_length 32) _ rfl (hp_new w _ _ rfl)) rfl ⟨rfl, (Mod.refl [] w).alloc _⟩
set_option maxRecDepth 100000 in
theorem cut_yes (p : Option Addr) (c n : Nat) (q : List Bs) (x : Bs) (w : World) (hn : n = q.length) (hr : RdD w p c (q ++ [x])) (hx : x.length = 32) (hq : n ≤ 4294967296) :
    Calls Tryd.prog 83 #[.slice p (n + 1 : Nat) c] w fun e w' => e = .returned (.tuple #[.slice p n n, dv x, .bool true]) ∧ Mod [] w w' := by
  obtain ⟨b, o, rfl, _⟩ := hr.at_ (by simp)
  have hle := hr.le
  have HR := Lib.hid hr
  have f1 : (0 : Int) ≤ (n : Int) := by omega
  have f2 : (n : Int) ≤ (c : Int) := by simp at hle; omega
  have f3 : (n : Int) < ((n + 1 : Nat) : Int) := by omega
  have f4 : ((n + 1 : Nat) : Int) - 1 = (n : Int) := by omega
  have e1 : decide ((n : Int) < 0) = false := by simp
  have HN := Lib.hid hn
  clear hr hn hle
  go_enter Tryd.func83, Tryd.ntmps83
  go_wp2_with fail
  refine abs_w (C := fun W => Code.wp _ _ _ _ W) (fun W => W.heap[w.heap.size]? = some (.cells ((zeros 32).map V8).toArray 24) ∧ Mod [] w W) ⟨hp_new _ _ _ rfl, (Mod.refl [] w).alloc _⟩ ?_
  rintro W ⟨hz, hm⟩
  have hL := loadD_at (HR.out.mod0 hm.drew) (i := n) x (by rw [HN.out]; simp) hx
  have hS := storeDv (w := W.drew) x hx (hp_drew hz) (by simp [zeros_length])
  have HZ := Lib.hid (hp_drew hz)
  have HM := Lib.hid hm
  clear hz hm
  go_region
  go_wp2_with fail
  exact bodyPost_ret (results_cut rfl _ _ _ _ hx _ rfl (hp_setRow HZ.out)) rfl ⟨rfl, HM.out.drew.setRow (.inr (Nat.le_refl _)) _⟩
/-- What 'shown' hands back. -/
def ShownPost (o : Option Bs) (w : World) (v : Value) (w' : World) : Prop := ∃ (d : Bs) (ok : Bool), v = .tuple #[dv d, .bool ok] ∧ d.length = 32 ∧ o = (if ok = true then some d else none) ∧ Mod [] w w'
set_option maxRecDepth 100000 in
theorem shown_one (i c n : Nat) (lf : Bs) (p : Option Addr) (w : World) (O : Option Bs) (hO : O = (if ((n : Int) == 0) = true then some lf else none)) (hlf : lf.length = 32) :
    Calls Tryd.prog 69 #[.int .i64 (1 : Nat), .int .i64 i, dv lf, .slice p n c] w fun e w' => ∃ v, e = .returned v ∧ ShownPost O w v w' := by
  have HFIN := Lib.hid hO
  have hL := fun (Z : Array Value) => loadDv (w := (w.alloc (.cells (lf.map V8).toArray 24)).alloc (.cells Z 24)) lf hlf (hp_old (hp_new w _ _ rfl))
  have hS := fun (Z : Array Value) (hZ : Z.size = 32) => storeDv (w := (w.alloc (.cells (lf.map V8).toArray 24)).alloc (.cells Z 24)) lf hlf (hp_new _ _ (w.heap.size + 1) (by simp)) hZ
  have HLF := Lib.hid hlf
  clear hO hlf
  unfold dv at *
  go_enter Tryd.func69, Tryd.ntmps69
  go_wp2_with fail
  exact bodyPost_ret (results_dv2 rfl _ _ _ _ HLF.out _ rfl (hp_setRow (hp_new _ _ _ (by simp)))) rfl ⟨_, rfl, lf, _, rfl, HLF.out, HFIN.out, (((Mod.refl [] w).alloc _).alloc _).setRow (.inr (by omega)) _⟩
set_option maxRecDepth 100000 in
theorem shown_none (size i c : Nat) (lf : Bs) (p : Option Addr) (w : World) (h1 : 1 < size) :
    Calls Tryd.prog 69 #[.int .i64 size, .int .i64 i, dv lf, .slice p 0 c] w fun e w' => ∃ v, e = .returned v ∧ ShownPost none w v w' := by
  have hC := fun W => cut_no p c W
  have hzl := zeros_length 32
  generalize zeros 32 = z at hC hzl
  have HC := Lib.hid hC
  have HZL := Lib.hid hzl
  have hb : decide ((size : Int) = 1) = false := by simp; omega
  clear hC hzl
  unfold dv
  go_enter Tryd.func69, Tryd.ntmps69
  go_wp2_with fail
  refine (HC.out _).mono ?_
  rintro e w1 ⟨rfl, m1⟩
  have hS := storeNewD w1 z HZL.out
  have hL := loadDv (w := w1.alloc (.cells (z.map V8).toArray 24)) z HZL.out (hp_new _ _ _ rfl)
  have hR := hp_old (o := .cells (z.map V8).toArray 24) (m1.get0 (hp_new _ _ (w.heap.size + 1) (by simp)))
  have hS2 := storeDv (w := w1.alloc (.cells (z.map V8).toArray 24)) z HZL.out hR rfl
  have HR := Lib.hid hR
  have M1 := Lib.hid (((((Mod.refl [] w).alloc _).alloc _).trans0 m1).alloc (.cells (z.map V8).toArray 24))
  clear hR m1
  go_wp2_with fail
  exact bodyPost_ret (results_dv2 rfl _ _ _ _ HZL.out _ rfl (hp_setRow HR.out)) rfl ⟨_, rfl, z, false, rfl, HZL.out, rfl, M1.out.setRow (.inr (by omega)) _⟩
set_option maxRecDepth 100000 in
theorem shown_left {hf : Bs → Bs} (size i K m c : Nat) (lf x : Bs) (q : List Bs) (p : Option Addr) (w : World) (O : Option Bs) (h1 : 1 < size) (hs : size ≤ 1099511627776) (hi : i ≤ 1099511627776) (hK : K = half size) (hlf : lf.length = 32) (hx : x.length = 32) (hik : i < K) (H : Hs hf w)
    (hC : ∀ W, Mod [] w W → Calls Tryd.prog 83 #[.slice p (m + 1 : Nat) c] W fun e w' => e = .returned (.tuple #[.slice p m m, dv x, .bool true]) ∧ Mod [] W w')
    (hA : ∀ W, Mod [] w W → Calls Tryd.prog 69 #[.int .i64 K, .int .i64 i, dv lf, .slice p m m] W fun e w' => ∃ v, e = .returned v ∧ ShownPost O W v w') :
    Calls Tryd.prog 69 #[.int .i64 size, .int .i64 i, dv lf, .slice p (m + 1 : Nat) c] w fun e w' => ∃ v, e = .returned v ∧ ShownPost (O.map (fun b => nodeH hf b x)) w v w' := by
  have hkk := fun W => half_any size W (by omega) (by omega)
  have hK1 : K < size := by rw [hK]; exact half_lt size (by omega)
  rw [← hK] at hkk
  have HK := Lib.hid hkk
  have HA := Lib.hid hA
  have HC := Lib.hid hC
  have HFIN := Lib.hid (fun (d : Bs) (ok : Bool) (h : O = if ok = true then some d else none) => show (O.map (fun b => nodeH hf b x)) = (if ok = true then some (nodeH hf d x) else none) by rw [h]; cases ok <;> rfl)
  generalize O.map (fun b => nodeH hf b x) = OO at HFIN ⊢
  have HX := Lib.hid hx
  have HLF := Lib.hid hlf
  have HH := Lib.hid H
  have hb : decide ((size : Int) = 1) = false := by simp; omega
  have hd : decide ((i : Int) < (K : Int)) = true := by simp; omega
  clear hK hlf hx H hC hA hkk
  unfold dv
  go_enter Tryd.func69, Tryd.ntmps69
  go_wp2_with fail
  refine (HC.out _ (((Mod.refl [] w).alloc _).alloc _)).mono ?_
  rintro e w1 ⟨rfl, m1⟩
  have hS := storeNewD w1 x HX.out
  have M1 := Lib.hid (((((Mod.refl [] w).alloc _).alloc _).trans0 m1).alloc (.cells (x.map V8).toArray 24))
  have HLAST := Lib.hid (hp_new w1 (.cells (x.map V8).toArray 24) _ rfl)
  have HRES := Lib.hid (hp_old (o := .cells (x.map V8).toArray 24) (m1.get0 (hp_new _ _ (w.heap.size + 1) (by simp))))
  have HBOX := Lib.hid (hp_old (o := .cells (x.map V8).toArray 24) (m1.get0 (hp_old (hp_new w (.cells (lf.map V8).toArray 24) _ rfl))))
  have hL := loadDv lf HLF.out HBOX.out
  clear m1
  go_wp2_with (go_at_call 60; refine (HK.out _).mono ?_; rintro e w2 ⟨rfl, rfl⟩)
  refine (HA.out _ M1.out).mono ?_
  rintro e w3 ⟨_, rfl, d, ok, rfl, hdl, hO, m3⟩
  clear hL hS
  have hS := storeNewD w3 d hdl
  have M3 := Lib.hid ((M1.out.trans0 m3).alloc (.cells (d.map V8).toArray 24))
  have hL1 := loadDv d hdl (hp_new w3 (.cells (d.map V8).toArray 24) _ rfl)
  have hL2 := loadDv x HX.out (hp_old (o := .cells (d.map V8).toArray 24) (m3.get0 HLAST.out))
  have HRES3 := Lib.hid (hp_old (o := .cells (d.map V8).toArray 24) (m3.get0 HRES.out))
  have HF := Lib.hid (HFIN.out d ok hO)
  have HN := Lib.hid (node_any d x hdl HX.out _ (HH.out.mod0 M3.out))
  have HLN := Lib.hid (HH.out.len (1 :: (d ++ x)))
  clear m3 hO hdl
  go_wp2_with fail
  refine HN.out.mono ?_
  rintro e w4 ⟨rfl, m4⟩
  have hR4 := m4.get0 HRES3.out
  have hS4 := storeDv (nodeH hf d x) HLN.out hR4 rfl
  have HR4 := Lib.hid hR4
  have M4 := Lib.hid (M3.out.trans0 m4)
  clear hR4 m4
  go_wp2_with fail
  exact bodyPost_ret (results_dv2 rfl _ _ _ _ HLN.out _ rfl (hp_setRow HR4.out)) rfl ⟨_, rfl, _, _, rfl, HLN.out, HF.out, M4.out.setRow (.inr (by omega)) _⟩
set_option maxRecDepth 100000 in
theorem shown_right {hf : Bs → Bs} (size i K m c : Nat) (lf x : Bs) (q : List Bs) (p : Option Addr) (w : World) (O : Option Bs) (h1 : 1 < size) (hs : size ≤ 1099511627776) (hi : i ≤ 1099511627776) (hK : K = half size) (hlf : lf.length = 32) (hx : x.length = 32) (hik : ¬ i < K) (H : Hs hf w)
    (hC : ∀ W, Mod [] w W → Calls Tryd.prog 83 #[.slice p (m + 1 : Nat) c] W fun e w' => e = .returned (.tuple #[.slice p m m, dv x, .bool true]) ∧ Mod [] W w')
    (hA : ∀ W, Mod [] w W → Calls Tryd.prog 69 #[.int .i64 (size - K : Nat), .int .i64 (i - K : Nat), dv lf, .slice p m m] W fun e w' => ∃ v, e = .returned v ∧ ShownPost O W v w') :
    Calls Tryd.prog 69 #[.int .i64 size, .int .i64 i, dv lf, .slice p (m + 1 : Nat) c] w fun e w' => ∃ v, e = .returned v ∧ ShownPost (O.map (fun b => nodeH hf x b)) w v w' := by
  have hkk := fun W => half_any size W (by omega) (by omega)
  have hK1 : K < size := by rw [hK]; exact half_lt size (by omega)
  rw [← hK] at hkk
  have HK := Lib.hid hkk
  have HA := Lib.hid hA
  have HC := Lib.hid hC
  have HFIN := Lib.hid (fun (d : Bs) (ok : Bool) (h : O = if ok = true then some d else none) => show (O.map (fun b => nodeH hf x b)) = (if ok = true then some (nodeH hf x d) else none) by rw [h]; cases ok <;> rfl)
  generalize O.map (fun b => nodeH hf x b) = OO at HFIN ⊢
  have HX := Lib.hid hx
  have HLF := Lib.hid hlf
  have HH := Lib.hid H
  have hb : decide ((size : Int) = 1) = false := by simp; omega
  have hd : decide ((i : Int) < (K : Int)) = false := by simp; omega
  have g1 : (size : Int) - (K : Int) = ((size - K : Nat) : Int) := by omega
  have g2 : (i : Int) - (K : Int) = ((i - K : Nat) : Int) := by omega
  clear hK hlf hx H hC hA hkk
  unfold dv
  go_enter Tryd.func69, Tryd.ntmps69
  go_wp2_with fail
  refine (HC.out _ (((Mod.refl [] w).alloc _).alloc _)).mono ?_
  rintro e w1 ⟨rfl, m1⟩
  have hS := storeNewD w1 x HX.out
  have M1 := Lib.hid (((((Mod.refl [] w).alloc _).alloc _).trans0 m1).alloc (.cells (x.map V8).toArray 24))
  have HLAST := Lib.hid (hp_new w1 (.cells (x.map V8).toArray 24) _ rfl)
  have HRES := Lib.hid (hp_old (o := .cells (x.map V8).toArray 24) (m1.get0 (hp_new _ _ (w.heap.size + 1) (by simp))))
  have HBOX := Lib.hid (hp_old (o := .cells (x.map V8).toArray 24) (m1.get0 (hp_old (hp_new w (.cells (lf.map V8).toArray 24) _ rfl))))
  have hL := loadDv lf HLF.out HBOX.out
  clear m1
  go_wp2_with (go_at_call 60; refine (HK.out _).mono ?_; rintro e w2 ⟨rfl, rfl⟩)
  refine (HA.out _ M1.out).mono ?_
  rintro e w3 ⟨_, rfl, d, ok, rfl, hdl, hO, m3⟩
  clear hL hS
  have hS := storeNewD w3 d hdl
  have M3 := Lib.hid ((M1.out.trans0 m3).alloc (.cells (d.map V8).toArray 24))
  have hL1 := loadDv d hdl (hp_new w3 (.cells (d.map V8).toArray 24) _ rfl)
  have hL2 := loadDv x HX.out (hp_old (o := .cells (d.map V8).toArray 24) (m3.get0 HLAST.out))
  have HRES3 := Lib.hid (hp_old (o := .cells (d.map V8).toArray 24) (m3.get0 HRES.out))
  have HF := Lib.hid (HFIN.out d ok hO)
  have HN := Lib.hid (node_any x d HX.out hdl _ (HH.out.mod0 M3.out))
  have HLN := Lib.hid (HH.out.len (1 :: (x ++ d)))
  clear m3 hO hdl
  go_wp2_with fail
  refine HN.out.mono ?_
  rintro e w4 ⟨rfl, m4⟩
  have hR4 := m4.get0 HRES3.out
  have hS4 := storeDv (nodeH hf x d) HLN.out hR4 rfl
  have HR4 := Lib.hid hR4
  have M4 := Lib.hid (M3.out.trans0 m4)
  clear hR4 m4
  go_wp2_with fail
  exact bodyPost_ret (results_dv2 rfl _ _ _ _ HLN.out _ rfl (hp_setRow HR4.out)) rfl ⟨_, rfl, _, _, rfl, HLN.out, HF.out, M4.out.setRow (.inr (by omega)) _⟩
theorem shown_any {hf : Bs → Bs} (N : Nat) : ∀ (size i : Nat) (lf : Bs) (path : List Bs) (p : Option Addr) (c n : Nat) (w : World), size ≤ N → 1 ≤ size → size ≤ 1099511627776 → i ≤ 1099511627776 → lf.length = 32 → All32 path → n = path.length → n ≤ 4294967296 → RdD w p c path → Hs hf w →
    Calls Tryd.prog 69 #[.int .i64 size, .int .i64 i, dv lf, .slice p n c] w fun e w' => ∃ v, e = .returned v ∧ ShownPost (shownH hf size i lf path) w v w' := by
  induction N with
  | zero => intro size i lf path p c n w h0 h1; omega
  | succ N ih =>
    intro size i lf path p c n w hN h1 hs hi hlf ap hn hn4 hr H
    by_cases h0 : size ≤ N
    · exact ih size i lf path p c n w h0 h1 hs hi hlf ap hn hn4 hr H
    rw [shownH]
    by_cases hs1 : size = 1
    · subst hs1
      rw [if_pos (Nat.le_refl 1)]
      refine shown_one i c n lf p w _ ?_ hlf
      by_cases he : path = []
      · subst he; simp [hn]
      · have : 0 < path.length := List.length_pos_iff.2 he
        rw [if_neg he, if_neg (by simp; omega)]
    · rw [if_neg (by omega)]
      by_cases hp : path = []
      · subst hp
        rw [if_pos rfl]
        obtain rfl : n = 0 := by simpa using hn
        exact shown_none size i c lf p w (by omega)
      · rw [if_neg hp]
        obtain ⟨q, x, rfl⟩ : ∃ q x, path = q ++ [x] := ⟨path.dropLast, path.getLast hp, (List.dropLast_concat_getLast hp).symm⟩
        obtain ⟨m, rfl⟩ : ∃ m, n = m + 1 := ⟨q.length, by simpa using hn⟩
        have hm : m = q.length := by simp at hn; omega
        have hx : x.length = 32 := ap x (by simp)
        have aq : All32 q := fun y hy => ap y (by simp [hy])
        have hr' : RdD w p m q := by
          have h := (hr.take q.length).shrink m (by simp; omega)
          rwa [List.take_left' rfl] at h
        rw [List.dropLast_concat, List.getLast?_concat, Option.getD_some]
        have hC := fun (W : World) (m' : Mod [] w W) => cut_yes p c m q x W hm (hr.mod0 m') hx (by omega)
        have hK0 := half_pos size
        have hK1 := half_lt size (by omega)
        by_cases hik : i < half size
        · rw [if_pos hik]
          exact shown_left size i (half size) m c lf x q p w _ (by omega) hs hi rfl hlf hx hik H hC (fun W m' => ih (half size) i lf q p m m W (by omega) (by omega) (by omega) hi hlf aq hm (by omega) (hr'.mod0 m') (H.mod0 m'))
        · rw [if_neg hik]
          exact shown_right size i (half size) m c lf x q p w _ (by omega) hs hi rfl hlf hx hik H hC (fun W m' => ih (size - half size) (i - half size) lf q p m m W (by omega) (by omega) (by omega) (by omega) hlf aq hm (by omega) (hr'.mod0 m') (H.mod0 m'))
end Go.Proofs.YtbbobpjcbnfpfaaDoor
