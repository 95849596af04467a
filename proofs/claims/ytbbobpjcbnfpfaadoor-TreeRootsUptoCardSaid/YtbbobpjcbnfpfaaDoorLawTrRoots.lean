/- TreeRoots. Conditions: the tables lie in their variables; at most 2^20 bytes and leaves. -/
import Derived.Test.YtbbobpjcbnfpfaaDoorTrBack
import Derived.Test.YtbbobpjcbnfpfaaDoorTrRef
import Derived.Test.YtbbobpjcbnfpfaaDoorTrDs
namespace Go.Proofs.YtbbobpjcbnfpfaaDoor
open Go.RowKit
attribute [local go_sem high] one8 st8 cm8 b_and8 b_and8r b_and8l b_or8 b_or8r b_or8l b_xor8 b_xor8r b_xor8l b_andNot8 b_andNot8r b_andNot8l b_add8 b_add8r b_add8l b_sub8 b_sub8r b_sub8l b_mul8 b_mul8r b_mul8l b_eql8 b_eql8r b_eql8l b_neq8 b_neq8r b_neq8l b_lss8 b_lss8r b_lss8l b_leq8 b_leq8r b_leq8l b_gtr8 b_gtr8r b_gtr8l b_geq8 b_geq8r b_geq8l b_quo8r b_rem8r b_shl8r b_shr8r b_shl8l b_shr8l u_xor8 g_eql8 g_neq8 g_eql8' g_neq8' one32 st32 cm32 b_and32 b_and32r b_and32l b_or32 b_or32r b_or32l b_xor32 b_xor32r b_xor32l b_andNot32 b_andNot32r b_andNot32l b_add32 b_add32r b_add32l b_sub32 b_sub32r b_sub32l b_mul32 b_mul32r b_mul32l b_eql32 b_eql32r b_eql32l b_neq32 b_neq32r b_neq32l b_lss32 b_lss32r b_lss32l b_leq32 b_leq32r b_leq32l b_gtr32 b_gtr32r b_gtr32l b_geq32 b_geq32r b_geq32l b_quo32r b_rem32r b_shl32r b_shr32r b_shl32l b_shr32l u_xor32 g_eql32 g_neq32 g_eql32' g_neq32' one64 st64 cm64 b_and64 b_and64r b_and64l b_or64 b_or64r b_or64l b_xor64 b_xor64r b_xor64l b_andNot64 b_andNot64r b_andNot64l b_add64 b_add64r b_add64l b_sub64 b_sub64r b_sub64l b_mul64 b_mul64r b_mul64l b_eql64 b_eql64r b_eql64l b_neq64 b_neq64r b_neq64l b_lss64 b_lss64r b_lss64l b_leq64 b_leq64r b_leq64l b_gtr64 b_gtr64r b_gtr64l b_geq64 b_geq64r b_geq64l b_quo64r b_rem64r b_shl64r b_shr64r b_shl64l b_shr64l u_xor64 g_eql64 g_neq64 g_eql64' g_neq64' c_u8_u8 c_u8_u32 c_u8_u64 c_i_u8 c_u32_u8 c_u32_u32 c_u32_u64 c_i_u32 c_u64_u8 c_u64_u32 c_u64_u64 c_i_u64 c_u8_i c_u32_i
attribute [local go_sem ↓] ce8 ce32 ce64
attribute [local go_sem ↓] sliced_slp loadO26 storeO26
/-- What TreeRoots is asked of. -/
structure Wd where
  data : SlR
  left : Bs
  right : Bs
  lp : Option Addr
  lc : Nat
  leaves : List SlR
def Wd.cells (x : Wd) : List Value := x.data.v :: (x.left.map V8 ++ (x.right.map V8 ++ [.slice x.lp x.leaves.length x.lc]))
structure Wd.In (W : World) (x : Wd) : Prop where
  data : Rd V8 W x.data.p x.data.cap x.data.d
  left : x.left.length = 32
  right : x.right.length = 32
  leaves : Lv W x.lp x.lc x.leaves
  ld : x.data.d.length ≤ 1048576
  ll : x.leaves.length ≤ 1048576
structure WdBox (w : World) (b : Nat) (x : Wd) : Prop where
  c0 : w.cell? ⟨b, 0, none⟩ = some (.slice x.data.p x.data.d.length x.data.cap)
  l : (LoadO 24 (.pointer (some ⟨b, 1, none⟩))).run Tryd.prog w = .ok (dv x.left) w
  r : (LoadO 24 (.pointer (some ⟨b, 33, none⟩))).run Tryd.prog w = .ok (dv x.right) w
  c65 : w.cell? ⟨b, 65, none⟩ = some (.slice x.lp x.leaves.length x.lc)
theorem Wd.box {w : World} {b : Nat} {x : Wd} {t : TypeId} (h : w.heap[b]? = some (.cells x.cells.toArray t)) (hl : x.left.length = 32) (hr : x.right.length = 32) : WdBox w b x := by
  have e1 : (x.left.map V8).length = 32 := by rw [List.length_map, hl]
  have e2 : (x.right.map V8).length = 32 := by rw [List.length_map, hr]
  refine ⟨?_, ?_, ?_, ?_⟩
  · rw [cell_blk h]; rfl
  · refine loadO_mid (cs := x.left.map V8) (range_blk h 1 _ (fun j v hv => ?_)) Tryd.underlying24 rfl (by rw [e1]; exact info26)
    rw [List.getElem?_toArray, Nat.add_comm]
    unfold Wd.cells
    rw [List.getElem?_cons_succ, List.getElem?_append_left (List.getElem?_eq_some_iff.1 hv).1]
    exact hv
  · refine loadO_mid (cs := x.right.map V8) (range_blk h 33 _ (fun j v hv => ?_)) Tryd.underlying24 rfl (by rw [e2]; exact info26)
    rw [List.getElem?_toArray, show 33 + j = (32 + j) + 1 by omega]
    unfold Wd.cells
    rw [List.getElem?_cons_succ, List.getElem?_append_right (by omega), e1, Nat.add_sub_cancel_left, List.getElem?_append_left (List.getElem?_eq_some_iff.1 hv).1]
    exact hv
  · rw [cell_blk h, List.getElem?_toArray]
    unfold Wd.cells
    rw [show 65 = 64 + 1 by rfl, List.getElem?_cons_succ, List.getElem?_append_right (by omega), List.getElem?_append_right (by omega), e1, e2]
    rfl
theorem Loan.lv {w : World} {B m co c : Nat} {po : Option Addr} {ys : List SlR} (h : Loan w B m po co ys) (hs : ∀ t ∈ ds ys, t.length ≤ 4398046511104) (hl : ys.length ≤ 4294967296) (hc : ys.length ≤ c) : Lv w (some ⟨m, 0, none⟩) c ys := by
  obtain ⟨ms, _, h2, _⟩ := h.mine
  exact ⟨mine_rd h2 hc, h.held.rd, fun y hy => hs _ (List.mem_map.2 ⟨y, hy, rfl⟩), hl⟩
theorem Wrote.lv {w w' : World} {B m c : Nat} {ys zs : List SlR} (h : Wrote w B m ys zs w') (hs : ∀ t ∈ ds (putD ys zs), t.length ≤ 4398046511104) (hl : (putD ys zs).length ≤ 4294967296) (hc : (putD ys zs).length ≤ c) : Lv w' (some ⟨m, 0, none⟩) c (putD ys zs) := by
  obtain ⟨ms, _, h2⟩ := h.mine
  exact ⟨mine_rd h2 hc, h.held.rd, fun y hy => hs _ (List.mem_map.2 ⟨y, hy, rfl⟩), hl⟩
theorem Lv.ds_small {w : World} {p : Option Addr} {c : Nat} {xs : List SlR} (h : Lv w p c xs) : ∀ t ∈ ds xs, t.length ≤ 4398046511104 := by
  intro t ht
  obtain ⟨x, hx, rfl⟩ := List.mem_map.1 ht
  exact h.small x hx
theorem oth_small {l : List Bs} (h : ∀ t ∈ l, t.length ≤ 4398046511104) : ∀ t ∈ l.map otherOf, t.length ≤ 4398046511104 := by
  intro t ht
  obtain ⟨x, hx, rfl⟩ := List.mem_map.1 ht
  rw [otherOf_length]; exact h x hx
theorem lens_oth (l : List Bs) : l.map List.length = (l.map otherOf).map List.length := by
  rw [List.map_map]
  exact List.map_congr_left fun x _ => (otherOf_length x).symm
/-- Other leaves are written into the lent ones. -/
theorem write_oth {w : World} (l : List Bs) (n : Nat) (hn : n ≤ 1048576) (B m co : Nat) (po : Option Addr) (ys : List SlR) (hy : ds ys = l) (hyl : ys.length = n) (hs : ∀ t ∈ l, t.length ≤ 4398046511104) (hL : Loan w B m po co ys) (g : Nat) (zs : List SlR) (W : World) (k : Mod [] w W)
    (hz : ds zs = l.map otherOf) (ht : Twin W w.heap.size g zs) :
    Calls Tryd.prog 22 #[.agg #[.slice (some ⟨m, 0, none⟩) (n + 9) (n + 9), .slice po n co, .int .i64 n], .slice (some ⟨g, 0, none⟩) n n] W fun e w' => e = .returned (.tuple #[]) ∧ Wrote W B m ys zs w' := by
  have hzl : zs.length = n := by
    have h1 := congrArg List.length hz
    have h2 := congrArg List.length hy
    simp [ds] at *; omega
  have hlt : ∀ b ∈ blks ys, b < w.heap.size := fun b hb => by
    obtain ⟨_, d, hd⟩ := held_blk hL.held hb
    exact lt_of_block hd
  refine write_loan zs (some ⟨g, 0, none⟩) n n W hzl.symm (ht.lv (fun z hz' => ?_) (by omega) (by omega)) hn B m co po ys (hL.mod0 k) (by rw [hy, hz]; exact lens_oth l) (fun p hp hb => ?_) (fun z hz' p hp hb => ?_)
  · exact oth_small hs _ (by rw [← hz]; exact List.mem_map.2 ⟨z, hz', rfl⟩)
  · injection hp with hp
    subst hp
    have h1 : g < w.heap.size := hlt g hb
    have h2 := ht.le
    omega
  · obtain ⟨_, g', h1, h2, _⟩ := ht.held.at_ z hz'
    rw [hp] at h1; injection h1 with h1
    subst h1
    have h1 : g' < w.heap.size := hlt g' hb
    omega
theorem DgAt.lt {w : World} {L : List (Nat × Bs)} (h : DgAt w L) {x : Nat × Bs} (hx : x ∈ L) : x.1 < w.heap.size := lt_of_block (h x hx).2
set_option maxRecDepth 100000 in
set_option maxHeartbeats 4000000 in
theorem roots_law {hf : Bs → Bs} (x : Wd) (w : World) (h : x.In w) (H : Hs hf w) (R : Rf w) :
    Calls Tryd.prog 3 #[.agg x.cells.toArray] w fun e w' => e = .returned (.bool true) ∧ Mod [] w w' := by
  have HH := Lib.hid H
  have HRf := Lib.hid R
  have HI := Lib.hid h
  have M0 := Lib.hid ((Mod.refl [] w).alloc (.cells x.cells.toArray 27))
  have HB0 := Lib.hid (hp_new w (.cells x.cells.toArray 27) _ rfl)
  clear H R h
  have g1 := HI.out.ld
  have g2 := HI.out.ll
  obtain ⟨nd, hnd⟩ : ∃ nd, nd = x.data.d.length := ⟨_, rfl⟩
  obtain ⟨nl, hnl⟩ : ∃ nl, nl = x.leaves.length := ⟨_, rfl⟩
  rw [← hnd] at g1
  rw [← hnl] at g2
  have HND := Lib.hid hnd
  have HNL := Lib.hid hnl
  obtain ⟨A, hA⟩ : ∃ A, A = leafH hf x.data.d := ⟨_, rfl⟩
  obtain ⟨N, hN⟩ : ∃ N, N = nodeH hf x.left x.right := ⟨_, rfl⟩
  obtain ⟨Rt, hRt⟩ : ∃ Rt, Rt = rootH hf (ds x.leaves) := ⟨_, rfl⟩
  obtain ⟨S, hS⟩ : ∃ S, S = rootH hf ((ds x.leaves).map otherOf) := ⟨_, rfl⟩
  have HA32 := Lib.hid (show A.length = 32 from by rw [hA]; exact HH.out.len _)
  have HN32 := Lib.hid (show N.length = 32 from by rw [hN]; exact HH.out.len _)
  have HR32 := Lib.hid (show Rt.length = 32 from by rw [hRt]; exact rootH_len HH.out.len _)
  have HS32 := Lib.hid (show S.length = 32 from by rw [hS]; exact rootH_len HH.out.len _)
  have HAe := Lib.hid hA
  have HNe := Lib.hid hN
  have HRe := Lib.hid hRt
  have HSe := Lib.hid hS
  clear hnd hnl hA hN hRt hS
  go_enter Tryd.func3, Tryd.ntmps3
  go_wp2_with fail
  have HB := Lib.hid HB0.out
  have M := Lib.hid M0.out
  clear HB0 M0
  refine (awake_any _ (HH.out.mod0 M.out)).mono ?_
  rintro e w1 ⟨rfl, mm⟩
  have HB' := Lib.hid (mm.get0 HB.out)
  have M' := Lib.hid (M.out.trans0 mm)
  clear M HB
  have HB := Lib.hid HB'.out
  have M := Lib.hid M'.out
  clear M' HB'
  clear mm
  obtain ⟨b0, bl, br, b65⟩ := Wd.box HB.out HI.out.left HI.out.right
  rw [← HND.out] at b0
  rw [← HNL.out] at b65
  go_wp2_with fail
  have hle := lent_any x.data.p x.data.cap x.data.d w1 (HI.out.data.mod0 M.out) (by have := HND.out; omega)
  rw [← HND.out] at hle
  refine hle.mono ?_
  rintro e w2 ⟨rfl, ho, mm⟩
  clear hle b0 bl br b65
  obtain ⟨bo, hbo⟩ : ∃ bo, bo = w1.heap.size := ⟨_, rfl⟩
  rw [← hbo] at ho ⊢
  have HO := Lib.hid ho
  clear ho hbo
  have HB' := Lib.hid (mm.get0 HB.out)
  have M' := Lib.hid (M.out.trans0 mm)
  clear M HB
  have HB := Lib.hid HB'.out
  have M := Lib.hid M'.out
  clear M' HB'
  clear mm
  obtain ⟨b0, bl, br, b65⟩ := Wd.box HB.out HI.out.left HI.out.right
  rw [← HND.out] at b0
  rw [← HNL.out] at b65
  have q0 : (0 : Int) ≤ (nd : Int) := by omega
  have q1 : (nd : Int) ≤ (nd : Int) + 70 := by omega
  go_wp2_with fail
  have hcl := leaf_any (hf := hf) (some ⟨bo, 0, none⟩) (nd + 70) nd x.data.d w2 HND.out (rd_front HO.out (by have := HND.out; omega)) (HH.out.mod0 M.out) (by have := HND.out; omega)
  rw [← HAe.out] at hcl
  refine hcl.mono ?_
  rintro e w3 ⟨rfl, mm⟩
  clear hcl
  clear b0 bl br b65
  have hS := storeNewD w3 A HA32.out
  have DG := Lib.hid ((DgAt.nil w3).new (Mod.refl [] w3) A HA32.out _ rfl)
  have ma := mm.alloc (.cells (A.map V8).toArray 24)
  have HB' := Lib.hid (ma.get0 HB.out)
  have HO' := Lib.hid (ma.get0 HO.out)
  have M' := Lib.hid (M.out.trans0 ma)
  clear M HB HO
  have HB := Lib.hid HB'.out
  have HO := Lib.hid HO'.out
  have M := Lib.hid M'.out
  clear M' HB' HO'
  clear mm ma
  obtain ⟨b0, bl, br, b65⟩ := Wd.box HB.out HI.out.left HI.out.right
  rw [← HND.out] at b0
  rw [← HNL.out] at b65
  go_wp2_with fail
  clear hS
  have hke := kept_any bo (nd + 70) x.data.d x.data.p x.data.cap x.data.d (nd + 70) (by rw [HND.out]) rfl _ (rd_whole HO.out (by rw [List.length_append, marks_length, HND.out]; omega)) (HI.out.data.mod0 M.out) (by have := HND.out; omega)
  rw [← HND.out] at hke
  simp only [beq_self_eq_true] at hke
  refine hke.mono ?_
  rintro e w4 ⟨rfl, mm⟩
  clear hke HO b0 bl br b65
  have HB' := Lib.hid (mm.get0 HB.out)
  have DG' := Lib.hid (DG.out.mod0 mm)
  have M' := Lib.hid (M.out.trans0 mm)
  clear M HB DG
  have HB := Lib.hid HB'.out
  have DG := Lib.hid DG'.out
  have M := Lib.hid M'.out
  clear M' HB' DG'
  clear mm
  obtain ⟨b0, bl, br, b65⟩ := Wd.box HB.out HI.out.left HI.out.right
  rw [← HND.out] at b0
  rw [← HNL.out] at b65
  go_wp2_with fail
  have hcl := node_any (hf := hf) x.left x.right HI.out.left HI.out.right _ (HH.out.mod0 M.out)
  rw [← HNe.out] at hcl
  refine hcl.mono ?_
  rintro e w5 ⟨rfl, mm⟩
  clear hcl
  clear b0 bl br b65
  have hS := storeNewD w5 N HN32.out
  have DG' := Lib.hid (DG.out.new mm N HN32.out _ rfl)
  clear DG
  have DG := Lib.hid DG'.out
  clear DG'
  have ma := mm.alloc (.cells (N.map V8).toArray 24)
  have HB' := Lib.hid (ma.get0 HB.out)
  have M' := Lib.hid (M.out.trans0 ma)
  clear M HB
  have HB := Lib.hid HB'.out
  have M := Lib.hid M'.out
  clear M' HB'
  clear mm ma
  obtain ⟨b0, bl, br, b65⟩ := Wd.box HB.out HI.out.left HI.out.right
  rw [← HND.out] at b0
  rw [← HNL.out] at b65
  go_wp2_with fail
  clear hS
  refine (some_any x.lp nl x.lc (by omega) _).mono ?_
  rintro e w6 ⟨rfl, rfl⟩
  go_wp2_with fail
  have HBW := Lib.hid M.out.size
  have hln := lend_any x.leaves x.lp x.lc nl _ HNL.out (HI.out.leaves.mod0 M.out) (by omega)
  refine hln.mono ?_
  rintro e w7 ⟨m, po, co, ys, rfl, hyd, hln2, mm⟩
  clear hln b0 bl br b65
  unfold loanV
  have hyl : ys.length = nl := by
    have h1 := congrArg List.length hyd
    have h2 := HNL.out
    simp [ds] at *; omega
  have HYL := Lib.hid hyl
  have HYD := Lib.hid hyd
  have HL0 := Lib.hid hln2
  have ma := mm.alloc (.cells #[.slice (some ⟨m, 0, none⟩) (nl + 9) (nl + 9), .slice po nl co, .int .i64 nl] 35)
  have hxx := hp_new w7 (.cells #[.slice (some ⟨m, 0, none⟩) (nl + 9) (nl + 9), .slice po nl co, .int .i64 nl] 35) _ rfl
  have HX := Lib.hid hxx
  have HL := Lib.hid (HL0.out.mod0 ((Mod.refl [] w7).alloc (.cells #[.slice (some ⟨m, 0, none⟩) (nl + 9) (nl + 9), .slice po nl co, .int .i64 nl] 35)))
  obtain ⟨B, hB⟩ : ∃ B, B = w5.heap.size := ⟨_, rfl⟩
  clear hyl hyd hln2 HL0 hxx
  have HB' := Lib.hid (ma.get0 HB.out)
  have DG' := Lib.hid (DG.out.mod0 ma)
  have M' := Lib.hid (M.out.trans0 ma)
  clear M HB DG
  have HB := Lib.hid HB'.out
  have DG := Lib.hid DG'.out
  have M := Lib.hid M'.out
  clear M' HB' DG'
  clear mm ma hB
  obtain ⟨b0, bl, br, b65⟩ := Wd.box HB.out HI.out.left HI.out.right
  rw [← HND.out] at b0
  rw [← HNL.out] at b65
  have x0 := cell_blk HX.out 0
  have x1 := cell_blk HX.out 1
  have x2 := cell_blk HX.out 2
  simp only [List.getElem?_toArray, List.getElem?_cons_zero, List.getElem?_cons_succ] at x0 x1 x2
  go_wp2_with fail
  have hcl := root_any (hf := hf) nl ys (some ⟨m, 0, none⟩) (nl + 9) nl _ HYL.out.symm (Nat.le_refl _) (HL.out.lv (by rw [HYD.out]; exact HI.out.leaves.ds_small) (by rw [HYL.out]; omega) (by rw [HYL.out]; omega)) (HH.out.mod0 M.out)
  rw [HYD.out, ← HRe.out] at hcl
  refine hcl.mono ?_
  rintro e w8 ⟨rfl, mm⟩
  clear hcl
  clear b0 bl br b65 x0 x1 x2
  have hS := storeNewD w8 Rt HR32.out
  have DG' := Lib.hid (DG.out.new mm Rt HR32.out _ rfl)
  clear DG
  have DG := Lib.hid DG'.out
  clear DG'
  have ma := mm.alloc (.cells (Rt.map V8).toArray 24)
  have HB' := Lib.hid (ma.get0 HB.out)
  have HX' := Lib.hid (ma.get0 HX.out)
  have HL' := Lib.hid (HL.out.mod0 ma)
  have M' := Lib.hid (M.out.trans0 ma)
  clear M HB HX HL
  have HB := Lib.hid HB'.out
  have HX := Lib.hid HX'.out
  have HL := Lib.hid HL'.out
  have M := Lib.hid M'.out
  clear M' HB' HX' HL'
  clear mm ma
  obtain ⟨b0, bl, br, b65⟩ := Wd.box HB.out HI.out.left HI.out.right
  rw [← HND.out] at b0
  rw [← HNL.out] at b65
  have x0 := cell_blk HX.out 0
  have x1 := cell_blk HX.out 1
  have x2 := cell_blk HX.out 2
  simp only [List.getElem?_toArray, List.getElem?_cons_zero, List.getElem?_cons_succ] at x0 x1 x2
  go_wp2_with fail
  clear hS
  have hbk := back_any x.leaves x.lp x.lc nl _ HNL.out (HI.out.leaves.mod0 M.out) (by omega) _ m co po ys HL.out HYD.out
  unfold loanV at hbk
  refine hbk.mono ?_
  rintro e w9 ⟨rfl, mm⟩
  clear hbk b0 bl br b65 x0 x1 x2
  have HB' := Lib.hid (mm.get0 HB.out)
  have HX' := Lib.hid (mm.get0 HX.out)
  have HL' := Lib.hid (HL.out.mod0 mm)
  have DG' := Lib.hid (DG.out.mod0 mm)
  have M' := Lib.hid (M.out.trans0 mm)
  clear M HB HX HL DG
  have HB := Lib.hid HB'.out
  have HX := Lib.hid HX'.out
  have HL := Lib.hid HL'.out
  have DG := Lib.hid DG'.out
  have M := Lib.hid M'.out
  clear M' HB' HX' HL' DG'
  clear mm
  obtain ⟨b0, bl, br, b65⟩ := Wd.box HB.out HI.out.left HI.out.right
  rw [← HND.out] at b0
  rw [← HNL.out] at b65
  have x0 := cell_blk HX.out 0
  have x1 := cell_blk HX.out 1
  have x2 := cell_blk HX.out 2
  simp only [List.getElem?_toArray, List.getElem?_cons_zero, List.getElem?_cons_succ] at x0 x1 x2
  have HOT := Lib.hid (fun (W : World) (k : Mod [] w9 W) => other_any x.leaves x.lp x.lc nl W HNL.out (HI.out.leaves.mod0 (M.out.trans0 k)))
  have HWR := Lib.hid (fun (g : Nat) (zs : List SlR) (W : World) (k : Mod [] w9 W) (hz : ds zs = (ds x.leaves).map otherOf) (ht : Twin W w9.drew.heap.size g zs) => write_oth (ds x.leaves) nl g2 _ m co po ys HYD.out HYL.out HI.out.leaves.ds_small HL.out g zs W k hz ht)
  go_wp2_with fail
  go_region_law (first
    | (go_simp; go_at_call 23; with_reducible refine (HOT.out _ (Mod.refl [] w9).drew).mono ?_
       rintro _ w10 ⟨g, zs, rfl, hzd, htw, mo⟩
       have mo2 := (Mod.refl [] w9).drew.trans0 mo
       have y0 := cell_mod0 mo2 x0
       have y1 := cell_mod0 mo2 x1
       have y2 := cell_mod0 mo2 x2)
    | (go_simp; go_at_call 22; with_reducible refine (HWR.out g zs w10 mo2 hzd htw).mono ?_
       rintro _ w11 ⟨rfl, hwr⟩))
  all_goals
    have hh10 := HL.out.held.mod0 mo2
    have hzl : zs.length = nl := by
      have h1 := congrArg List.length hzd
      have h2 := HNL.out
      simp [ds] at *; omega
    have HB' := Lib.hid (hwr.md.get (mo2.get0 HB.out) (not_blk hh10 (mo2.get0 HB.out) (by decide)))
    have HX' := Lib.hid (hwr.md.get (mo2.get0 HX.out) (not_blk hh10 (mo2.get0 HX.out) (by decide)))
    have DG' := Lib.hid ((DG.out.mod0 mo2).mod hwr.md (fun z hz => not_blk hh10 ((DG.out.mod0 mo2) z hz).2 (by decide)))
    have M' := Lib.hid ((M.out.trans0 mo2).trans hwr.md (fun b hb => .inr (by have h1 := (held_blk hh10 hb).1; have h2 := HBW.out; omega)))
    have HW := Lib.hid hwr
    have HZD := Lib.hid hzd
    have HZL := Lib.hid hzl
    have HPL := Lib.hid (show (putD ys zs).length = nl from by unfold putD; have := HYL.out; simp; omega)
    have HPD := Lib.hid (show ds (putD ys zs) = (ds x.leaves).map otherOf from (putD_ds (by rw [HYL.out, hzl])).trans hzd)
    clear hh10 hzl hwr hzd htw mo mo2 y0 y1 y2 b0 bl br b65 x0 x1 x2 HOT HWR M HB HX DG HL
    have M := Lib.hid M'.out
    have HB := Lib.hid HB'.out
    have HX := Lib.hid HX'.out
    have DG := Lib.hid DG'.out
    clear M' HB' HX' DG'
    obtain ⟨b0, bl, br, b65⟩ := Wd.box HB.out HI.out.left HI.out.right
    rw [← HND.out] at b0
    rw [← HNL.out] at b65
    have x0 := cell_blk HX.out 0
    have x1 := cell_blk HX.out 1
    have x2 := cell_blk HX.out 2
    simp only [List.getElem?_toArray, List.getElem?_cons_zero, List.getElem?_cons_succ] at x0 x1 x2
    go_wp2_with fail
    have hcl := root_any (hf := hf) nl (putD ys zs) (some ⟨m, 0, none⟩) (nl + 9) nl _ HPL.out.symm (Nat.le_refl _) (HW.out.lv (by rw [HPD.out]; exact oth_small HI.out.leaves.ds_small) (by rw [HPL.out]; omega) (by rw [HPL.out]; omega)) (HH.out.mod0 M.out)
    rw [HPD.out, ← HSe.out] at hcl
    refine hcl.mono ?_
    rintro e w12 ⟨rfl, mm⟩
    clear hcl
    clear b0 bl br b65 x0 x1 x2
    have hS := storeNewD w12 S HS32.out
    have DG' := Lib.hid (DG.out.new mm S HS32.out _ rfl)
    clear DG
    have DG := Lib.hid DG'.out
    clear DG'
    have ma := mm.alloc (.cells (S.map V8).toArray 24)
    have HB' := Lib.hid (ma.get0 HB.out)
    have HX' := Lib.hid (ma.get0 HX.out)
    have M' := Lib.hid (M.out.trans0 ma)
    clear M HB HX
    have HB := Lib.hid HB'.out
    have HX := Lib.hid HX'.out
    have M := Lib.hid M'.out
    clear M' HB' HX'
    clear mm ma
    obtain ⟨b0, bl, br, b65⟩ := Wd.box HB.out HI.out.left HI.out.right
    rw [← HND.out] at b0
    rw [← HNL.out] at b65
    have x0 := cell_blk HX.out 0
    have x1 := cell_blk HX.out 1
    have x2 := cell_blk HX.out 2
    simp only [List.getElem?_toArray, List.getElem?_cons_zero, List.getElem?_cons_succ] at x0 x1 x2
    go_wp2_with fail
    clear hS
    have hcl := rleaf_any (hf := hf) x.data.p x.data.cap nd x.data.d _ HND.out (HI.out.data.mod0 M.out) (HH.out.mod0 M.out) (HRf.out.mod0 M.out) (by have := HND.out; omega)
    rw [← HAe.out] at hcl
    refine hcl.mono ?_
    rintro e w13 ⟨rfl, mm⟩
    clear hcl
    clear b0 bl br b65 x0 x1 x2
    have hS := storeNewD w13 A HA32.out
    have DG' := Lib.hid (DG.out.new mm A HA32.out _ rfl)
    clear DG
    have DG := Lib.hid DG'.out
    clear DG'
    have ma := mm.alloc (.cells (A.map V8).toArray 24)
    have HB' := Lib.hid (ma.get0 HB.out)
    have HX' := Lib.hid (ma.get0 HX.out)
    have M' := Lib.hid (M.out.trans0 ma)
    clear M HB HX
    have HB := Lib.hid HB'.out
    have HX := Lib.hid HX'.out
    have M := Lib.hid M'.out
    clear M' HB' HX'
    clear mm ma
    obtain ⟨b0, bl, br, b65⟩ := Wd.box HB.out HI.out.left HI.out.right
    rw [← HND.out] at b0
    rw [← HNL.out] at b65
    have x0 := cell_blk HX.out 0
    have x1 := cell_blk HX.out 1
    have x2 := cell_blk HX.out 2
    simp only [List.getElem?_toArray, List.getElem?_cons_zero, List.getElem?_cons_succ] at x0 x1 x2
    go_wp2_with fail
    clear hS
    have hcl := rnode_any (hf := hf) x.left x.right HI.out.left HI.out.right _ (HH.out.mod0 M.out) (HRf.out.mod0 M.out)
    rw [← HNe.out] at hcl
    refine hcl.mono ?_
    rintro e w14 ⟨rfl, mm⟩
    clear hcl
    clear b0 bl br b65 x0 x1 x2
    have hS := storeNewD w14 N HN32.out
    have DG' := Lib.hid (DG.out.new mm N HN32.out _ rfl)
    clear DG
    have DG := Lib.hid DG'.out
    clear DG'
    have ma := mm.alloc (.cells (N.map V8).toArray 24)
    have HB' := Lib.hid (ma.get0 HB.out)
    have HX' := Lib.hid (ma.get0 HX.out)
    have M' := Lib.hid (M.out.trans0 ma)
    clear M HB HX
    have HB := Lib.hid HB'.out
    have HX := Lib.hid HX'.out
    have M := Lib.hid M'.out
    clear M' HB' HX'
    clear mm ma
    obtain ⟨b0, bl, br, b65⟩ := Wd.box HB.out HI.out.left HI.out.right
    rw [← HND.out] at b0
    rw [← HNL.out] at b65
    have x0 := cell_blk HX.out 0
    have x1 := cell_blk HX.out 1
    have x2 := cell_blk HX.out 2
    simp only [List.getElem?_toArray, List.getElem?_cons_zero, List.getElem?_cons_succ] at x0 x1 x2
    go_wp2_with fail
    clear hS
    have hcl := rroot_any (hf := hf) nl x.leaves x.lp x.lc nl _ HNL.out (Nat.le_refl _) (HI.out.leaves.mod0 M.out) (HH.out.mod0 M.out) (HRf.out.mod0 M.out)
    rw [← HRe.out] at hcl
    refine hcl.mono ?_
    rintro e w15 ⟨rfl, mm⟩
    clear hcl
    clear b0 bl br b65 x0 x1 x2
    have hS := storeNewD w15 Rt HR32.out
    have DG' := Lib.hid (DG.out.new mm Rt HR32.out _ rfl)
    clear DG
    have DG := Lib.hid DG'.out
    clear DG'
    have ma := mm.alloc (.cells (Rt.map V8).toArray 24)
    have HB' := Lib.hid (ma.get0 HB.out)
    have HX' := Lib.hid (ma.get0 HX.out)
    have M' := Lib.hid (M.out.trans0 ma)
    clear M HB HX
    have HB := Lib.hid HB'.out
    have HX := Lib.hid HX'.out
    have M := Lib.hid M'.out
    clear M' HB' HX'
    clear mm ma
    obtain ⟨b0, bl, br, b65⟩ := Wd.box HB.out HI.out.left HI.out.right
    rw [← HND.out] at b0
    rw [← HNL.out] at b65
    have x0 := cell_blk HX.out 0
    have x1 := cell_blk HX.out 1
    have x2 := cell_blk HX.out 2
    simp only [List.getElem?_toArray, List.getElem?_cons_zero, List.getElem?_cons_succ] at x0 x1 x2
    go_wp2_with fail
    clear hS
    refine (other_any x.leaves x.lp x.lc nl _ HNL.out (HI.out.leaves.mod0 M.out)).mono ?_
    rintro e w16 ⟨g2', zs2, rfl, hzd2, htw2, mm⟩
    have hzl2 : zs2.length = nl := by
      have h1 := congrArg List.length hzd2
      have h2 := HNL.out
      simp [ds] at *; omega
    have HT2 := Lib.hid htw2
    have HZ2 := Lib.hid hzd2
    have HZL2 := Lib.hid hzl2
    clear htw2 hzd2 hzl2 b0 bl br b65 x0 x1 x2
    have HB' := Lib.hid (mm.get0 HB.out)
    have HX' := Lib.hid (mm.get0 HX.out)
    have DG' := Lib.hid (DG.out.mod0 mm)
    have M' := Lib.hid (M.out.trans0 mm)
    clear M HB HX DG
    have HB := Lib.hid HB'.out
    have HX := Lib.hid HX'.out
    have DG := Lib.hid DG'.out
    have M := Lib.hid M'.out
    clear M' HB' HX' DG'
    clear mm
    obtain ⟨b0, bl, br, b65⟩ := Wd.box HB.out HI.out.left HI.out.right
    rw [← HND.out] at b0
    rw [← HNL.out] at b65
    have x0 := cell_blk HX.out 0
    have x1 := cell_blk HX.out 1
    have x2 := cell_blk HX.out 2
    simp only [List.getElem?_toArray, List.getElem?_cons_zero, List.getElem?_cons_succ] at x0 x1 x2
    go_wp2_with fail
    have hcl := rroot_any (hf := hf) nl zs2 (some ⟨g2', 0, none⟩) nl nl _ HZL2.out.symm (Nat.le_refl _) (HT2.out.lv (fun z hz => oth_small HI.out.leaves.ds_small _ (by rw [← HZ2.out]; exact List.mem_map.2 ⟨z, hz, rfl⟩)) (by rw [HZL2.out]; omega) (by rw [HZL2.out]; omega)) (HH.out.mod0 M.out) (HRf.out.mod0 M.out)
    rw [HZ2.out, ← HSe.out] at hcl
    refine hcl.mono ?_
    rintro e w17 ⟨rfl, mm⟩
    clear hcl
    clear b0 bl br b65 x0 x1 x2
    have hS := storeNewD w17 S HS32.out
    have DG' := Lib.hid (DG.out.new mm S HS32.out _ rfl)
    clear DG
    have DG := Lib.hid DG'.out
    clear DG'
    have ma := mm.alloc (.cells (S.map V8).toArray 24)
    have HB' := Lib.hid (ma.get0 HB.out)
    have HX' := Lib.hid (ma.get0 HX.out)
    have M' := Lib.hid (M.out.trans0 ma)
    clear M HB HX
    have HB := Lib.hid HB'.out
    have HX := Lib.hid HX'.out
    have M := Lib.hid M'.out
    clear M' HB' HX'
    clear mm ma
    obtain ⟨b0, bl, br, b65⟩ := Wd.box HB.out HI.out.left HI.out.right
    rw [← HND.out] at b0
    rw [← HNL.out] at b65
    have x0 := cell_blk HX.out 0
    have x1 := cell_blk HX.out 1
    have x2 := cell_blk HX.out 2
    simp only [List.getElem?_toArray, List.getElem?_cons_zero, List.getElem?_cons_succ] at x0 x1 x2
    clear b0 bl br b65 x0 x1 x2
    have hL0 := DG.out.load 0 _ _ rfl
    have hL1 := DG.out.load 1 _ _ rfl
    have hL2 := DG.out.load 2 _ _ rfl
    have hL3 := DG.out.load 3 _ _ rfl
    have hL4 := DG.out.load 4 _ _ rfl
    have hL5 := DG.out.load 5 _ _ rfl
    have hL6 := DG.out.load 6 _ _ rfl
    have hL7 := DG.out.load 7 _ _ rfl
    have hEA := fun w => eqD w A A HA32.out HA32.out
    have hEN := fun w => eqD w N N HN32.out HN32.out
    have hERt := fun w => eqD w Rt Rt HR32.out HR32.out
    have hES := fun w => eqD w S S HS32.out HS32.out
    have hG := eqGuardD
    go_wp2_with fail
    clear hS
    go_ret
    exact ⟨rfl, M.out⟩
end Go.Proofs.YtbbobpjcbnfpfaaDoor
