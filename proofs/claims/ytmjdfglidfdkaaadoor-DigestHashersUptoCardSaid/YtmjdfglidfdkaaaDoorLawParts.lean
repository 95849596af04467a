/- DigestParts. Conditions: the three tables lie in their variables; at most 2^20 bytes together. -/
import Derived.Test.YtmjdfglidfdkaaaDoorPartsLib
namespace Go.Proofs.YtmjdfglidfdkaaaDoor
open Go.RowKit
attribute [local go_sem high] one8 st8 cm8 b_and8 b_and8r b_and8l b_or8 b_or8r b_or8l b_xor8 b_xor8r b_xor8l b_andNot8 b_andNot8r b_andNot8l b_add8 b_add8r b_add8l b_sub8 b_sub8r b_sub8l b_mul8 b_mul8r b_mul8l b_eql8 b_eql8r b_eql8l b_neq8 b_neq8r b_neq8l b_lss8 b_lss8r b_lss8l b_leq8 b_leq8r b_leq8l b_gtr8 b_gtr8r b_gtr8l b_geq8 b_geq8r b_geq8l b_quo8r b_rem8r b_shl8r b_shr8r b_shl8l b_shr8l u_xor8 g_eql8 g_neq8 g_eql8' g_neq8' one32 st32 cm32 b_and32 b_and32r b_and32l b_or32 b_or32r b_or32l b_xor32 b_xor32r b_xor32l b_andNot32 b_andNot32r b_andNot32l b_add32 b_add32r b_add32l b_sub32 b_sub32r b_sub32l b_mul32 b_mul32r b_mul32l b_eql32 b_eql32r b_eql32l b_neq32 b_neq32r b_neq32l b_lss32 b_lss32r b_lss32l b_leq32 b_leq32r b_leq32l b_gtr32 b_gtr32r b_gtr32l b_geq32 b_geq32r b_geq32l b_quo32r b_rem32r b_shl32r b_shr32r b_shl32l b_shr32l u_xor32 g_eql32 g_neq32 g_eql32' g_neq32' one64 st64 cm64 b_and64 b_and64r b_and64l b_or64 b_or64r b_or64l b_xor64 b_xor64r b_xor64l b_andNot64 b_andNot64r b_andNot64l b_add64 b_add64r b_add64l b_sub64 b_sub64r b_sub64l b_mul64 b_mul64r b_mul64l b_eql64 b_eql64r b_eql64l b_neq64 b_neq64r b_neq64l b_lss64 b_lss64r b_lss64l b_leq64 b_leq64r b_leq64l b_gtr64 b_gtr64r b_gtr64l b_geq64 b_geq64r b_geq64l b_quo64r b_rem64r b_shl64r b_shr64r b_shl64l b_shr64l u_xor64 g_eql64 g_neq64 g_eql64' g_neq64' c_u8_u8 c_u8_u32 c_u8_u64 c_i_u8 c_u32_u8 c_u32_u32 c_u32_u64 c_i_u32 c_u64_u8 c_u64_u32 c_u64_u64 c_i_u64 c_u8_i c_u32_i
attribute [local go_sem ↓] ce8 ce32 ce64
attribute [local go_sem ↓] loadO26 storeO26
attribute [local irreducible] compress hst laidOf fin refOf
theorem infoSl : (Tryd.prog.info? 22).map (fun i => (i.zero, i.size, i.bytes)) = some (some (.slice none 0 0), 1, 24) := by kernel_rfl
theorem oneSl (x : SlR) : (SlR.v x).oneCell' = true := rfl
theorem madeCells_nil (n : Nat) : madeCells (Value.slice none 0 0).cells n = (mineOf [] [] n).toArray := by
  unfold mineOf
  apply Array.ext
  · simp [madeCells, show (Value.slice none 0 0).cells = #[.slice none 0 0] from rfl]
  · intro i h1 h2
    simp [madeCells]
    rw [show (Value.slice none 0 0).cells = #[.slice none 0 0] from rfl]
    simp [Nat.mod_one]
    rfl
theorem wpList_makeSl {ops : Array Oper} {rest : List Oper} {o : Oper} {a : Act} {Q : Exit → Act → World → Prop} {w : World} (hgd : o.guard = none) (l c : Operand) (ho : o.op = .makeSlice 30 l c) (n : Nat) (C : Int)
    (hl : a.eval l = .int .i64 C) (hc : a.eval c = .int .i64 C) (hC : C = n) (hn : n ≤ 4294967296)
    (h : wpList Tryd.prog ops Q rest (a.put o.dst (.slice (some ⟨w.heap.size, 0, none⟩) n n)) (w.alloc (.cells (mineOf [] [] n).toArray 22))) : wpList Tryd.prog ops Q (o :: rest) a w := by
  obtain ⟨i0, hi, hz0, hz1, hz2⟩ := info_parts infoSl
  subst hC
  have hrun := run_make (P := Tryd.prog) w 30 22 i0 (.slice none 0 0) Tryd.underlying30 hi hz0 .i64 .i64 n n (by omega) (by omega) (by rw [hz2]; omega) (by omega)
  rw [hz1, Int.toNat_natCast, Nat.mul_one, madeCells_nil] at hrun
  refine wpList_plain hgd fun K hK => ?_
  unfold Oper.wp
  simp [execOp, ho, hl, hc, hrun, Result.andThen]
  exact hK _ _ (by simpa using h)
theorem froz_app {P : Program} {ops : Array Oper} {rest : List Oper} {o : Oper} {a : Act} {w : World} {Q : Exit → Act → World → Prop} (args : Array Operand) (ats : Array TypeId) (ho : o.op = .call { callee := .builtin .append, args := args, argTypes := ats })
    (h : Froz (wpList P ops Q (o :: rest) a w)) : wpList P ops Q (o :: rest) a w := h
/-- How memory stands behind the first Parts. -/
structure PSt (w wr : World) (m q ba : Nat) (po : Option Addr) (co n : Nat) (z : List UInt8) (ys zs : List SlR) : Prop where
  own : Rd SlR.v wr po co (ys.map wide)
  mine : wr.heap[m]? = some (.cells (mineOf ys (List.replicate 8 (markSl q)) 0).toArray 22 (0, 0))
  held : Held wr (m + 1) zs
  mark : wr.heap[q]? = some (.cells (([109, 97, 114, 107] : List UInt8).map V8).toArray 5 (4, 5))
  a : wr.heap[ba]? = some (.cells (z.map V8).toArray 26 (0, 0))
  mod : Mod [] w wr
theorem PSt.mod0 {w wr w' : World} {m q ba : Nat} {po : Option Addr} {co n : Nat} {z : List UInt8} {ys zs : List SlR} (h : PSt w wr m q ba po co n z ys zs) (hm : Mod [] wr w') : PSt w w' m q ba po co n z ys zs :=
  ⟨h.own.mod0 hm, hm.get0 h.mine, h.held.mod0 hm, hm.get0 h.mark, hm.get0 h.a, h.mod.trans0 hm⟩
theorem PSt.drewN {w wr : World} {m q ba : Nat} {po : Option Addr} {co n : Nat} {z : List UInt8} {ys zs : List SlR} (h : PSt w wr m q ba po co n z ys zs) (t : Nat) : PSt w (wr.drewN t) m q ba po co n z ys zs := h.mod0 ((Mod.refl [] wr).drewN t)
theorem of_held {w : World} {B : Nat} {ys : List SlR} (h : Held w B ys) (k : Nat) (y : SlR) (hy : ys[k]? = some y) : ∃ g, y = ⟨some ⟨g, 0, none⟩, y.d.length + 80, y.d⟩ ∧ B ≤ g ∧ w.heap[g]? = some (.cells ((y.d ++ marks 80).map V8).toArray 5 (0, 0)) := by
  obtain ⟨h0, g, h1, h2, h3⟩ := h.at_ y (List.mem_of_getElem? hy)
  refine ⟨g, ?_, h2, h3⟩
  cases y
  simp only at h0 h1
  rw [h0, h1]
theorem PSt.turn {w wr : World} {m q ba : Nat} {po : Option Addr} {co n : Nat} {z : List UInt8} {ys zs : List SlR} (h : PSt w wr m q ba po co n z ys zs) (hmw : w.heap.size ≤ m) (k : Nat) (y : SlR) (hy : zs[k]? = some y) (g : Nat) (hg : y.p = some ⟨g, 0, none⟩) (d : List UInt8) (hd : d.length = y.d.length) :
    PSt w (wr.setRow g ((d ++ marks 80).map V8).toArray) m q ba po co n z ys (zs.set k ⟨y.p, y.cap, d⟩) := by
  obtain ⟨h0, g', h1, h2, h3⟩ := h.held.at_ y (List.mem_of_getElem? hy)
  rw [hg] at h1; injection h1 with h1; injection h1 with h1
  subst h1
  have hm : Mod [g] wr (wr.setRow g ((d ++ marks 80).map V8).toArray) := (Mod.refl [g] wr).setRow (.inl (by simp)) _
  refine ⟨h.own.mod hm (fun hne p hp => ?_), hm.get h.mine (by simp; omega), h.held.turn k y hy g hg d hd, hm.get h.mark ?_, hm.get h.a ?_, h.mod.setRow (.inr (by omega)) _⟩
  · rintro hx
    rw [List.mem_singleton] at hx
    obtain ⟨x, l, hxl⟩ := List.exists_cons_of_ne_nil hne
    obtain ⟨b, o, e, hc⟩ := h.own.cell 0 x (by rw [hxl]; rfl)
    rw [hp] at e; injection e with e; subst e
    simp only at hx
    subst hx
    rw [cell_blk h3, List.getElem?_toArray, List.getElem?_map] at hc
    cases hq : (y.d ++ marks 80)[o + 0]? with
    | none => rw [hq] at hc; cases hc
    | some v => rw [hq] at hc; simp only [Option.map_some, Option.some.injEq] at hc; cases hc
  · rintro hx
    rw [List.mem_singleton] at hx
    subst hx
    have := h.mark
    rw [h3] at this
    injection this with this
    injection this with _ _ this
    exact absurd this (by decide)
  · rintro hx
    rw [List.mem_singleton] at hx
    subst hx
    have := h.a
    rw [h3] at this
    injection this with this
    injection this with _ this _
    exact absurd this (by decide)
/-- What Parts hands back of lists of the bytes d together, wherever they lie. -/
structure PartsS (w : World) (d : List UInt8) (x : List UInt8) : Prop where
  go : ∀ (q : Option Addr) (c n : Nat) (zs : List SlR) (w1 : World), n = zs.length → joined zs = d → Rd SlR.v w1 q c zs → (∀ z ∈ zs, Rd V8 w1 z.p z.cap z.d) → zs.length < 4611686018427387904 → Mod [] w w1 → Calls Tryd.prog 18 #[.slice q n c] w1 fun e w' => e = .returned (dv x) ∧ Mod [] w1 w'
  ref : ∀ (q : Option Addr) (c n : Nat) (zs : List SlR) (w1 : World), n = zs.length → joined zs = d → Rd SlR.v w1 q c zs → (∀ z ∈ zs, Rd V8 w1 z.p z.cap z.d) → zs.length < 4611686018427387904 → Mod [] w w1 → Calls Tryd.prog 20 #[.slice q n c] w1 fun e w' => e = .returned (dv x) ∧ Mod [] w1 w'
theorem parts_of (w : World) (d x : List UInt8) (hx : x = fin d 0 0) (ht : Tab w) (htr : TabR w) (htb : TabB w) (hd : d.length ≤ 70368744177664) : PartsS w d x := by
  subst hx
  constructor
  · intro q c n zs w1 hn hj hr hz hl hm
    subst hn hj
    rw [joined_length] at hd
    exact parts_any q c zs w1 hr hz (Tab.mod hm ht (by simp)) (Nat.lt_of_lt_of_le ht.lt hm.size) hl (by omega)
  · intro q c n zs w1 hn hj hr hz hl hm
    subst hn hj
    rw [joined_length] at hd
    exact ref_parts q c zs w1 hr hz hd hl (TabR.mod hm htr (by simp)) (TabB.mod hm htb (by simp))
set_option maxRecDepth 100000 in
set_option maxHeartbeats 2000000 in
theorem parts_law (pp : Option Addr) (cp : Nat) (xs : List SlR) (w : World) (hr : Rd SlR.v w pp cp xs) (hx : ∀ x ∈ xs, Rd V8 w x.p x.cap x.d) (ht : Tab w) (htr : TabR w) (htb : TabB w) (hl : total xs ≤ 1048576) (hn : xs.length ≤ 1048576) :
    Calls Tryd.prog 4 #[.slice pp xs.length cp] w fun e w' => e = .returned (.bool true) ∧ Mod [] w w' := by
  have HR := Lib.hid hr
  have HX := Lib.hid hx
  have HT := Lib.hid ht
  have HTR := Lib.hid htr
  have HTB := Lib.hid htb
  obtain ⟨z, SX⟩ := sums_of w (joined xs) ht htr htb (by rw [joined_length]; omega)
  obtain ⟨y, SY⟩ := sums_of w (otherOf (joined xs)) ht htr htb (by rw [otherOf_length, joined_length]; omega)
  obtain ⟨u, SU⟩ := sums_of w [] ht htr htb (by simp)
  have PX := parts_of w (joined xs) z SX.eq ht htr htb (by rw [joined_length]; omega)
  have PY := parts_of w (otherOf (joined xs)) y SY.eq ht htr htb (by rw [otherOf_length, joined_length]; omega)
  have PU := parts_of w [] u SU.eq ht htr htb (by simp)
  have hzl := SX.len
  have hyl0 := SY.len
  have hul := SU.len
  have HZL := Lib.hid hzl
  have HYL0 := Lib.hid hyl0
  have HUL := Lib.hid hul
  clear hr hx ht htr htb hzl hyl0 hul
  go_enter Tryd.func4, Tryd.ntmps4
  go_wp2_with fail
  refine (awake_any w HT.out).mono ?_
  rintro e w1 ⟨rfl, m1⟩
  go_wp2_with fail
  refine (small_any pp cp xs w1 (HR.out.mod0 m1) hl (by omega)).mono ?_
  rintro e w2 ⟨rfl, rfl⟩
  go_wp2_with (at_make; refine wpList_makeSl rfl _ _ rfl (xs.length + 8) _ rfl rfl (by omega) (by omega) ?_)
  obtain ⟨m, hm⟩ : ∃ m, m = w2.heap.size := ⟨_, rfl⟩
  obtain ⟨W1, hW1⟩ : ∃ W1, W1 = w2.alloc (.cells (mineOf [] [] (xs.length + 8)).toArray 22) := ⟨_, rfl⟩
  have hmw := m1.size
  have M1 : Mod [] w W1 := by rw [hW1]; exact m1.alloc _
  have HM := Lib.hid (show W1.heap[m]? = some (.cells (mineOf [] [] (xs.length + 8)).toArray 22) by rw [hW1]; exact hp_new _ _ _ hm)
  rw [← hW1, ← hm]
  rw [← hm] at hmw
  clear hW1 hm m1
  go_wp2_with fail
  go_loopw [5, 7] (fun v iv wr => ∃ (k : Nat) (ys : List SlR) (vo : Value), k ≤ xs.length ∧ iv = .int .i64 k ∧ vo = v ∧ ys.map (·.d) = (xs.take k).map (·.d) ∧ OwnE 22 SlR.v wr (m + 1) vo (ys.map wide) ∧ wr.heap[m]? = some (.cells (mineOf ys [] (xs.length + 8 - k)).toArray 22 (0, 0)) ∧ Held wr (m + 1) ys ∧ Mod [] w wr) (fun _ iv _ => xs.length - (intOf iv).toNat)
  case atStart => exact ⟨0, [], _, by omega, rfl, rfl, rfl, OwnE.nil _ _ _ _, HM.out, Held.nil _ _, M1⟩
  case round =>
    clear M1 HM
    obtain ⟨k, ys, vo, hk, rfl, rfl, hyx, hown, hmine, hheld, hmod⟩ := hrel
    have HYX := Lib.hid hyx
    have HOWN := Lib.hid hown
    have HMINE := Lib.hid hmine
    have HHELD := Lib.hid hheld
    have hylen : ys.length = k := by
      have := congrArg List.length hyx
      simpa [Nat.min_eq_left hk] using this
    have HYL := Lib.hid hylen
    have hmlt := lt_of_block hmine
    clear hyx hown hmine hheld hylen
    by_cases hlt : k < xs.length
    · obtain ⟨x, hxk⟩ : ∃ x, xs[k]? = some x := ⟨xs[k], List.getElem?_eq_getElem hlt⟩
      have hxl := total_mem xs x (List.mem_of_getElem? hxk)
      have hxd := HX.out x (List.mem_of_getElem? hxk)
      obtain ⟨b, o, rfl, hc⟩ := HR.out.cell k x hxk
      have hb : b < w.heap.size := block_lt_of_cell hc
      have hcr : wr.cell? ⟨b, o + k, none⟩ = some x.v := by
        rw [World.cell?_of_block (w := w) (hmod.block b hb (by simp))]; exact hc
      have HXK := Lib.hid hxk
      have HXD := Lib.hid hxd
      have HC := Lib.hid hc
      clear hxk hxd hc
      go_wp2_with fail
      refine (lent_any x.p x.cap x.d _ (HXD.out.mod0 hmod) (by omega)).mono ?_
      rintro e w3 ⟨rfl, hg, m3⟩
      obtain ⟨g, hgd⟩ : ∃ g, g = wr.heap.size := ⟨_, rfl⟩
      have hgw := hmod.size
      rw [← hgd] at hg hgw ⊢
      rw [← hgd] at hmlt
      have M3 := hmod.trans0 m3
      have HOWN3 := Lib.hid (HOWN.out.mod0 m3)
      have HMINE3 := Lib.hid (m3.get0 HMINE.out)
      have hnew : ∀ y ∈ ys, ∀ g', y.p = some ⟨g', 0, none⟩ → g' ≠ g := fun y hy g' hg' => by
        have := (HHELD.out.at_ y hy).lt hg'
        omega
      have HHELD3 := Lib.hid ((HHELD.out.mod0 m3).snoc hg (by omega) hnew)
      have hcr3 : w3.cell? ⟨b, o + k, none⟩ = some x.v := by
        rw [World.cell?_of_block (w := w) (M3.block b hb (by simp))]; exact HC.out
      have hgl3 := lt_of_block hg
      have hv : SlR.v (wide ⟨some ⟨g, 0, none⟩, x.d.length + 80, x.d⟩) = .slice (some ⟨g, 0, none⟩) (x.d.length + 80) (x.d.length + 80) := by simp [SlR.v, wide, marks_length]
      have hrg := range_oneE SlR.v w3 (wide ⟨some ⟨g, 0, none⟩, x.d.length + 80, x.d⟩) 22 w3.heap.size rfl
      rw [hv] at hrg
      have HRG := Lib.hid hrg
      have HV := Lib.hid hv
      clear hg m3 hnew hmod hrg hv hcr hgd
      go_wp2_with (at_builtin; with_reducible refine froz_app _ _ rfl ?_)
      unfold Froz
      refine wpList_pushE (.slice none 0 0) 24 Tryd.underlying30 infoSl rfl oneSl rfl _ _ rfl (m + 1) _ _ (HOWN3.out.alloc _) rfl w3.heap.size 0 1 1 [wide ⟨some ⟨g, 0, none⟩, x.d.length + 80, x.d⟩] rfl rfl HRG.out (by rw [List.length_map, HYL.out]; unfold maxLen; simp; omega) (by rw [List.length_map, HYL.out]; simp; omega) (by simp; omega) ?_
      intro v' w5 ho5 hg5
      have MA := (Mod.refl [] w3).alloc (.cells #[Value.slice (some ⟨g, 0, none⟩) (x.d.length + 80) (x.d.length + 80)] 22)
      have M5 : Mod [] w w5 := (M3.trans0 MA).of_grown hg5 (fun r hr => .inr (by have := HOWN3.out.row r hr; omega))
      have HMINE5 := Lib.hid ((hg5.block m (by simp; omega) (fun hx => by have := HOWN3.out.row m hx.symm; omega)).trans (MA.get0 HMINE3.out))
      have HHELD5 := Lib.hid (HHELD3.out.grown MA hg5 HOWN3.out)
      have HOWN5 := Lib.hid ho5
      have hcr5 : w5.cell? ⟨b, o + k, none⟩ = some x.v := by
        rw [World.cell?_of_block (w := w) (M5.block b hb (by simp))]; exact HC.out
      have hme : (mineOf ys [] (xs.length + 8 - k))[k]? = some (SlR.v nilSl) := by
        unfold mineOf
        rw [List.getElem?_map, List.append_nil, List.getElem?_append_right (by rw [HYL.out]; omega), HYL.out, List.getElem?_replicate, if_pos (by omega)]
        rfl
      have hcm : w5.cell? ⟨m, k, none⟩ = some (SlR.v nilSl) := by rw [cell_blk HMINE5.out, List.getElem?_toArray]; exact hme
      have hfm : w5.frozen? ⟨m, k, none⟩ = false := frozen_blk HMINE5.out k
      unfold SlR.v at hcr5
      clear ho5 hg5 MA M3 HOWN3 HMINE3 HHELD3 hcr3 hme
      go_wp2
      go_roundw
      case rel =>
        have hset : Mod [m] w5 (w5.setCell ⟨m, k, none⟩ (Value.slice (some ⟨g, 0, none⟩) x.d.length (x.d.length + 80))) := (Mod.refl [m] w5).setCell (.inl (by simp)) _
        refine ⟨k + 1, ys ++ [⟨some ⟨g, 0, none⟩, x.d.length + 80, x.d⟩], _, by omega, by go_num, rfl, ?_, ?_, ?_, HHELD5.out.mod hset (fun y hy r hr => ?_), M5.setCell (.inr hmw) _⟩
        · rw [List.map_append, HYX.out, List.take_add_one, HXK.out]; simp
        · rw [List.map_append]
          exact HOWN5.out.mod hset (fun r hr hb => by simp at hr; have := HOWN5.out.row r hb; omega)
        · have h := hp_sc (j := k) (v := (Value.slice (some ⟨g, 0, none⟩) x.d.length (x.d.length + 80))) HMINE5.out
          have hr : xs.length + 8 - k = (xs.length + 8 - (k + 1)) + 1 := by omega
          have hm2 := mine_set (ys := ys) (r := xs.length + 8 - (k + 1)) ⟨some ⟨g, 0, none⟩, x.d.length + 80, x.d⟩
          rw [hr] at h
          rw [HYL.out] at hm2
          rw [List.setIfInBounds_toArray] at h
          exact h.trans (by rw [← hm2]; rfl)
        · have := HHELD5.out.at_ y hy
          obtain ⟨_, g', h1, h2, _⟩ := this
          rw [hr] at h1; injection h1 with h1; injection h1 with h1
          simp; omega
      case measure => simp [intOf]; omega
    · have hkk : k = xs.length := by omega
      have hd : decide ((k : Int) < (xs.length : Int)) = false := by simp; omega
      have hyd : ys.map (·.d) = xs.map (·.d) := by rw [HYX.out, hkk, List.take_length]
      have hyl : ys.length = xs.length := by rw [HYL.out, hkk]
      have HYD := Lib.hid hyd
      have HYLN := Lib.hid hyl
      have hm8 : wr.heap[m]? = some (.cells (mineOf ys [] 8).toArray 22 (0, 0)) := by rw [HMINE.out, hkk, Nat.add_sub_cancel_left]
      have HM8 := Lib.hid hm8
      clear hkk hyd hyl hm8 HMINE HYX HYL
      have hcv := Lib.run_convert_bytes_const (P := Tryd.prog) wr 22 5 #[.int .u8 109, .int .u8 97, .int .u8 114, .int .u8 107] 4 4 Tryd.underlying22 Tryd.underlying5
      go_wp2_with fail
      obtain ⟨q, hq⟩ : ∃ q, q = wr.heap.size := ⟨_, rfl⟩
      obtain ⟨W2, hW2⟩ : ∃ W2, W2 = wr.alloc (.cells #[.int .u8 109, .int .u8 97, .int .u8 114, .int .u8 107] 5 (4, 5)) := ⟨_, rfl⟩
      have M2 : Mod [] wr W2 := by rw [hW2]; exact (Mod.refl _ _).alloc _
      have HMK := Lib.hid (show W2.heap[q]? = some (.cells (([109, 97, 114, 107] : List UInt8).map V8).toArray 5 (4, 5)) by rw [hW2]; exact hp_new _ _ _ hq)
      have HMINE2 := Lib.hid (M2.get0 HM8.out)
      have HHELD2 := Lib.hid (HHELD.out.mod0 M2)
      have HOWN2 := Lib.hid (HOWN.out.mod0 M2)
      have MW2 := hmod.trans0 M2
      have hqm : m < q := by rw [hq]; exact hmlt
      rw [← hW2, ← hq]
      clear hcv hW2 hq M2 HM8 HHELD HOWN hmod hmlt
      go_loopw [10] (fun jv wr => ∃ e : Nat, xs.length ≤ e ∧ e ≤ xs.length + 8 ∧ jv = .int .i64 e ∧ OwnE 22 SlR.v wr (m + 1) vo (ys.map wide) ∧ wr.heap[m]? = some (.cells (mineOf ys (List.replicate (e - xs.length) (markSl q)) (xs.length + 8 - e)).toArray 22 (0, 0)) ∧ Held wr (m + 1) ys ∧ wr.heap[q]? = some (.cells (([109, 97, 114, 107] : List UInt8).map V8).toArray 5 (4, 5)) ∧ Mod [] w wr) (fun jv _ => xs.length + 8 - (intOf jv).toNat)
      case atStart => exact ⟨xs.length, by omega, by omega, rfl, HOWN2.out, by rw [Nat.sub_self, Nat.add_sub_cancel_left]; exact HMINE2.out, HHELD2.out, HMK.out, MW2⟩
      case round =>
        clear HOWN2 HMINE2 HHELD2 HMK MW2
        obtain ⟨e, he1, he2, rfl, hown, hmine, hheld, hmk, hmod⟩ := hrel
        have HOWN := Lib.hid hown
        have HMINE := Lib.hid hmine
        have HHELD := Lib.hid hheld
        have HMK := Lib.hid hmk
        clear hown hmine hheld hmk
        by_cases hlt : e < xs.length + 8
        · have hcm : wr.cell? ⟨m, e, none⟩ = some (SlR.v nilSl) := by
            rw [cell_blk HMINE.out, List.getElem?_toArray]
            exact mine_cell3 (by rw [HYLN.out, List.length_replicate]; omega) (by rw [HYLN.out, List.length_replicate]; omega)
          have hfm : wr.frozen? ⟨m, e, none⟩ = false := frozen_blk HMINE.out e
          go_wp2
          go_roundw
          case rel =>
            have hset : Mod [m] wr (wr.setCell ⟨m, e, none⟩ (Value.slice (some ⟨q, 0, none⟩) 4 4)) := (Mod.refl [m] wr).setCell (.inl (by simp)) _
            refine ⟨e + 1, by omega, by omega, by go_num, HOWN.out.mod hset (fun r hr hb => by simp at hr; have := HOWN.out.row r hb; omega), ?_, HHELD.out.mod hset (fun y hy r hr => ?_), hset.get HMK.out (by simp; omega), hmod.setCell (.inr hmw) _⟩
            · have h := hp_sc (j := e) (v := Value.slice (some ⟨q, 0, none⟩) 4 4) HMINE.out
              have hr : xs.length + 8 - e = (xs.length + 8 - (e + 1)) + 1 := by omega
              have hm2 := mine_set2 (ys := ys) (mk := List.replicate (e - xs.length) (markSl q)) (r := xs.length + 8 - (e + 1)) (markSl q)
              rw [hr] at h
              rw [HYLN.out, List.length_replicate, show xs.length + (e - xs.length) = e by omega, ← List.replicate_succ', show e - xs.length + 1 = e + 1 - xs.length by omega] at hm2
              rw [List.setIfInBounds_toArray] at h
              exact h.trans (by rw [← hm2]; rfl)
            · obtain ⟨_, g', h1, h2, _⟩ := HHELD.out.at_ y hy
              rw [hr] at h1; injection h1 with h1; injection h1 with h1
              simp; omega
          case measure => simp [intOf]; omega
        · have hee : e = xs.length + 8 := by omega
          have hd2 : decide ((e : Int) < (xs.length : Int) + 8) = false := by simp; omega
          have hm9 : wr.heap[m]? = some (.cells (mineOf ys (List.replicate 8 (markSl q)) 0).toArray 22 (0, 0)) := by
            rw [HMINE.out, hee, Nat.add_sub_cancel_left, Nat.sub_self]
          have HM9 := Lib.hid hm9
          have HJ := Lib.hid (joined_of HYD.out)
          clear hee hm9 HMINE
          go_wp2_with fail
          refine (PX.go (some ⟨m, 0, none⟩) (xs.length + 8) xs.length ys wr HYLN.out.symm HJ.out (mine_rd HM9.out (by rw [HYLN.out]; omega)) HHELD.out.rd (by rw [HYLN.out]; omega) hmod).mono ?_
          rintro e w3 ⟨rfl, m3⟩
          obtain ⟨po, co, hvo, hown3, _⟩ := (HOWN.out.mod0 m3).rd
          rw [List.length_map, HYLN.out] at hvo
          subst hvo
          have hS := storeNewD w3 z HZL.out
          have hba : m < w3.heap.size := lt_of_block (m3.get0 HM9.out)
          have hst : PSt w (w3.alloc (.cells (z.map V8).toArray 26)) m q w3.heap.size po co xs.length z ys ys := by
            have MA := (Mod.refl [] w3).alloc (.cells (z.map V8).toArray 26)
            exact ⟨hown3.mod0 MA, MA.get0 (m3.get0 HM9.out), (HHELD.out.mod0 m3).mod0 MA, MA.get0 (m3.get0 HMK.out), hp_new _ _ _ rfl, (hmod.trans0 m3).trans0 MA⟩
          have HST := Lib.hid hst
          clear hst m3 hmod HOWN HM9 HHELD HMK hown3
          obtain ⟨ba, hbae⟩ : ∃ ba, ba = w3.heap.size := ⟨_, rfl⟩
          go_wp2_with fail
          clear hS
          rw [← hbae] at HST hba ⊢
          clear hbae
          go_loopw [12] (fun iv wr => ∃ k : Nat, k ≤ xs.length ∧ iv = .int .i64 k ∧ PSt w wr m q ba po co xs.length z ys ys) (fun iv _ => xs.length - (intOf iv).toNat)
          case atStart => exact ⟨0, by omega, rfl, HST.out⟩
          case round =>
            clear HST
            obtain ⟨k, hk, rfl, hst⟩ := hrel
            have HST := Lib.hid hst
            clear hst
            by_cases hlt : k < xs.length
            · obtain ⟨x, hxk⟩ : ∃ x, xs[k]? = some x := ⟨xs[k], List.getElem?_eq_getElem hlt⟩
              have hxl := total_mem xs x (List.mem_of_getElem? hxk)
              have hxd := HX.out x (List.mem_of_getElem? hxk)
              obtain ⟨b, o, rfl, hc⟩ := HR.out.cell k x hxk
              have hb : b < w.heap.size := block_lt_of_cell hc
              obtain ⟨y', hyk⟩ : ∃ y', ys[k]? = some y' := ⟨ys[k]'(by rw [HYLN.out]; exact hlt), List.getElem?_eq_getElem (by rw [HYLN.out]; exact hlt)⟩
              have hyx : y'.d = x.d := by
                have := congrArg (·[k]?) HYD.out
                simpa [hyk, hxk] using this
              obtain ⟨g, hye, hgm, hgb⟩ := of_held HST.out.held k y' hyk
              rw [hyx] at hye hgb
              subst hye
              have hcr : wr.cell? ⟨b, o + k, none⟩ = some (.slice x.p x.d.length x.cap) := by
                rw [World.cell?_of_block (w := w) (HST.out.mod.block b hb (by simp))]; exact hc
              obtain ⟨bo, oo, rfl, hco⟩ := HST.out.own.cell k _ (by rw [List.getElem?_map, hyk]; rfl)
              have hwv : SlR.v (wide ⟨some ⟨g, 0, none⟩, x.d.length + 80, x.d⟩) = .slice (some ⟨g, 0, none⟩) (x.d.length + 80) (x.d.length + 80) := by simp [SlR.v, wide, marks_length]
              rw [hwv] at hco
              have hcm : wr.cell? ⟨m, k, none⟩ = some (.slice (some ⟨g, 0, none⟩) x.d.length (x.d.length + 80)) := by
                rw [cell_blk HST.out.mine, List.getElem?_toArray]
                exact mine_cell k _ hyk
              have hxr := hxd.mod0 HST.out.mod
              have hkq := fun (t : Nat) => kept_q g (x.d.length + 80) x.d x.p x.cap x.d (x.d.length + 80) rfl rfl (wr.drewN t) (rd_whole (hp_drewN hgb) (by simp [marks_length])) (hxr.mod0 ((Mod.refl [] wr).drewN t)) (by omega)
              have hsq := fun (wq : World) (hq : Mod [] wr wq) (t : Nat) => same_q (some ⟨g, 0, none⟩) (x.d.length + 80) x.d x.p x.cap x.d x.d.length x.d.length rfl rfl (wq.drewN t) (rd_front (hp_drewN (hq.get0 hgb)) (by omega)) (hxr.mod0 (hq.drewN t))
              have hlt8 : k < xs.length + 8 := by omega
              simp only [beq_self_eq_true] at hkq hsq
              have HKQ := Lib.hid hkq
              have HSQ := Lib.hid hsq
              clear hxk hxd hc hyk hyx hgb hwv hxr hkq hsq
              go_wp2_with fail
              go_quiet ((go_at_call 14; exact Calls.quiet_of_same (HKQ.out _)))
              go_wp2_with fail
              obtain ⟨wq, hwq⟩ : ∃ wq, wq = wr.drewN nq := ⟨_, rfl⟩
              have HSTQ := Lib.hid (HST.out.drewN nq)
              have hmq := (Mod.refl [] wr).drewN nq
              have hcr2 : wq.cell? ⟨b, o + k, none⟩ = some (.slice x.p x.d.length x.cap) := by rw [hwq]; exact hcr
              have hcm2 : wq.cell? ⟨m, k, none⟩ = some (.slice (some ⟨g, 0, none⟩) x.d.length (x.d.length + 80)) := by rw [hwq]; exact hcm
              rw [← hwq] at HSTQ hmq ⊢
              have HSQ2 := Lib.hid (HSQ.out wq hmq)
              clear hwq hmq hcr hcm HSQ hco HST
              go_quiet ((go_at_call 19; exact Calls.quiet_of_same (HSQ2.out _)))
              go_wp2_with fail
              go_roundw
              case rel => exact ⟨k + 1, by omega, by go_num, HSTQ.out.drewN _⟩
              case measure => simp [intOf]; omega
            · have hd3 : decide ((k : Int) < (xs.length : Int)) = false := by simp; omega
              go_wp2_with fail
              go_loopw [14] (fun jv wr => ∃ e : Nat, xs.length ≤ e ∧ e ≤ xs.length + 8 ∧ jv = .int .i64 e ∧ PSt w wr m q ba po co xs.length z ys ys) (fun jv _ => xs.length + 8 - (intOf jv).toNat)
              case atStart => exact ⟨xs.length, by omega, by omega, rfl, HST.out⟩
              case round =>
                clear HST
                obtain ⟨e2, he1, he2, rfl, hst⟩ := hrel
                have HST := Lib.hid hst
                clear hst
                by_cases hlt : e2 < xs.length + 8
                · have hcm : wr.cell? ⟨m, e2, none⟩ = some (.slice (some ⟨q, 0, none⟩) 4 4) := by
                    rw [cell_blk HST.out.mine, List.getElem?_toArray]
                    obtain ⟨d2, hd2⟩ : ∃ d2, e2 = ys.length + d2 := ⟨e2 - ys.length, by rw [HYLN.out]; omega⟩
                    rw [hd2]
                    exact mine_cell2 d2 (markSl q) (by rw [List.getElem?_replicate, if_pos (by rw [HYLN.out] at hd2; omega)])
                  have hrm : Rd V8 wr (some ⟨q, 0, none⟩) 4 [109, 97, 114, 107] := rd_whole HST.out.mark (by simp)
                  have hsq := same_q (some ⟨q, 0, none⟩) 4 [109, 97, 114, 107] (some ⟨q, 0, none⟩) 4 [109, 97, 114, 107] 4 4 rfl rfl wr hrm hrm
                  simp only [beq_self_eq_true] at hsq
                  have HSQ := Lib.hid hsq
                  clear hrm hsq
                  go_wp2_with (go_at_call 19; refine HSQ.out.mono ?_; rintro e5 w5 ⟨rfl, rfl⟩)
                  go_roundw
                  case rel => exact ⟨e2 + 1, by omega, by omega, by go_num, HST.out⟩
                  case measure => simp [intOf]; omega
                · have hd4 : decide ((e2 : Int) < (xs.length : Int) + 8) = false := by simp; omega
                  go_wp2_with fail
                  go_loopw [15] (fun iv wr => ∃ k : Nat, k ≤ xs.length ∧ iv = .int .i64 k ∧ PSt w wr m q ba po co xs.length z ys ((ys.take k).map othSl ++ ys.drop k)) (fun iv _ => xs.length - (intOf iv).toNat)
                  case atStart => exact ⟨0, by omega, rfl, HST.out⟩
                  case round =>
                    clear HST
                    obtain ⟨k5, hk5, rfl, hst⟩ := hrel
                    have HST := Lib.hid hst
                    clear hst
                    by_cases hlt : k5 < xs.length
                    · obtain ⟨x, hxk⟩ : ∃ x, xs[k5]? = some x := ⟨xs[k5], List.getElem?_eq_getElem hlt⟩
                      have hxl := total_mem xs x (List.mem_of_getElem? hxk)
                      have hxd := HX.out x (List.mem_of_getElem? hxk)
                      obtain ⟨b, o, rfl, hc⟩ := HR.out.cell k5 x hxk
                      have hb : b < w.heap.size := block_lt_of_cell hc
                      obtain ⟨y', hyk⟩ : ∃ y', ys[k5]? = some y' := ⟨ys[k5]'(by rw [HYLN.out]; exact hlt), List.getElem?_eq_getElem (by rw [HYLN.out]; exact hlt)⟩
                      have hyx : y'.d = x.d := by
                        have := congrArg (·[k5]?) HYD.out
                        simpa [hyk, hxk] using this
                      have hzk : ((ys.take k5).map othSl ++ ys.drop k5)[k5]? = some y' := by rw [get_map_drop]; exact hyk
                      obtain ⟨g, hye, hgm, hgb⟩ := of_held HST.out.held k5 y' hzk
                      rw [hyx] at hye hgb
                      subst hye
                      have hcr : wr.cell? ⟨b, o + k5, none⟩ = some (.slice x.p x.d.length x.cap) := by
                        rw [World.cell?_of_block (w := w) (HST.out.mod.block b hb (by simp))]; exact hc
                      obtain ⟨bo, oo, rfl, hco⟩ := HST.out.own.cell k5 _ (by rw [List.getElem?_map, hyk]; rfl)
                      have hwv : SlR.v (wide ⟨some ⟨g, 0, none⟩, x.d.length + 80, x.d⟩) = .slice (some ⟨g, 0, none⟩) (x.d.length + 80) (x.d.length + 80) := by simp [SlR.v, wide, marks_length]
                      rw [hwv] at hco
                      have hbw : b < wr.heap.size := Nat.lt_of_lt_of_le hb HST.out.mod.size
                      have hbo : bo < wr.heap.size := block_lt_of_cell hco
                      have hxr := hxd.mod0 HST.out.mod
                      have HXR := Lib.hid (fun (W : World) (hW : Mod [] wr W) => hxr.mod0 hW)
                      have HC2 := Lib.hid (fun (W : World) (hW : Mod [] wr W) => (World.cell?_of_block (hW.block b hbw (by simp))).trans hcr)
                      have HC3 := Lib.hid (fun (W : World) (hW : Mod [] wr W) => (World.cell?_of_block (hW.block bo hbo (by simp))).trans hco)
                      have HGB := Lib.hid hgb
                      have HZK := Lib.hid hzk
                      have HYK := Lib.hid hyk
                      clear hxk hxd hc hyk hyx hgb hwv hxr hzk
                      obtain ⟨D', hD'⟩ : ∃ D', D' = otherOf x.d ++ marks 80 := ⟨_, rfl⟩
                      have e1 : (x.d ++ marks 80).take 0 ++ ((otherOf x.d).take (x.d.length + 80) ++ (x.d ++ marks 80).drop (0 + min (otherOf x.d).length (x.d.length + 80))) = D' := by
                        have hol := otherOf_length x.d
                        rw [hD', List.take_zero, List.nil_append, List.take_of_length_le (by omega), show 0 + min (otherOf x.d).length (x.d.length + 80) = x.d.length by omega, List.drop_left' rfl]
                      have HD' := Lib.hid e1
                      have HDE := Lib.hid hD'
                      clear e1 hD'
                      go_wp2_with fail
                      go_region_law (first
                          | (refine step_call rfl 15 (.tmp 132) _ rfl (.slice x.p x.d.length x.cap) rfl callOther (other_any x.p x.cap x.d _ (HXR.out _ ((Mod.refl [] wr).drew)) (by omega)) ?_
                             rintro w5 ⟨hO, hm5⟩
                             have k1 := HC2.out _ (((Mod.refl [] wr).drew).trans0 hm5)
                             have k2 := HC3.out _ (((Mod.refl [] wr).drew).trans0 hm5)
                             have HO := Lib.hid hO
                             have HM5 := Lib.hid hm5
                             clear hO hm5)
                          | (refine step_copy8 rfl (.tmp 128) (.tmp 133) rfl g 0 (x.d.length + 80) (x.d.length + 80) (some ⟨wr.heap.size, 0, none⟩) x.d.length x.d.length (otherOf x.d) (x.d ++ marks 80) rfl rfl (HM5.out.get0 HGB.out) (rd_whole HO.out (Nat.le_of_eq (otherOf_length _))) (otherOf_length _).symm (by simp [marks_length]) D' HD'.out ?_))
                      all_goals
                        obtain ⟨W, hW⟩ : ∃ W, W = w5.setRow g (D'.map V8).toArray := ⟨_, rfl⟩
                        rw [← hW]
                        have HSTN : Hid (PSt w W m q ba (some ⟨bo, oo, none⟩) co xs.length z ys ((ys.take (k5 + 1)).map othSl ++ ys.drop (k5 + 1))) := by
                          have ht := (HST.out.mod0 (((Mod.refl [] wr).drew).trans0 HM5.out)).turn hmw k5 _ HZK.out g rfl (otherOf x.d) (otherOf_length _)
                          rw [← HDE.out, ← hW] at ht
                          have hsd := set_map_drop othSl ys k5 _ HYK.out
                          exact Lib.hid (by rw [← hsd]; exact ht)
                        clear hW HO HM5 k1 k2
                        go_wp2
                        go_roundw
                        case rel => exact ⟨k5 + 1, by omega, by go_num, HSTN.out⟩
                        case measure => simp [intOf]; omega
                    · have hd5 : decide ((k5 : Int) < (xs.length : Int)) = false := by simp; omega
                      have hst5 : PSt w wr m q ba po co xs.length z ys (ys.map othSl) := by
                        have h := HST.out
                        rw [show k5 = ys.length by rw [HYLN.out]; omega, List.take_length, List.drop_length, List.append_nil] at h
                        exact h
                      have hdo : (ys.map othSl).map (·.d) = (xs.map othSl).map (·.d) := by
                        have := congrArg (List.map otherOf) HYD.out
                        simpa [List.map_map, Function.comp_def, othSl] using this
                      have hjo : joined (ys.map othSl) = otherOf (joined xs) := by rw [joined_of hdo, joined_oth]
                      have hvo : (ys.map othSl).map SlR.v = ys.map SlR.v := by
                        rw [List.map_map]
                        refine List.map_congr_left fun y _ => ?_
                        simp [SlR.v, othSl, otherOf_length]
                      have hro : Rd SlR.v wr (some ⟨m, 0, none⟩) (xs.length + 8) (ys.map othSl) := by
                        have h := mine_rd hst5.mine (cap := xs.length + 8) (by rw [HYLN.out]; omega)
                        refine ⟨by rw [List.length_map, HYLN.out]; omega, fun hne => ?_⟩
                        rw [hvo]
                        exact h.at_ (by rintro rfl; simp at hne)
                      have hll : xs.length = (ys.map othSl).length := by rw [List.length_map, HYLN.out]
                      have HGO := Lib.hid (PY.go (some ⟨m, 0, none⟩) (xs.length + 8) xs.length (ys.map othSl) wr hll hjo hro hst5.held.rd (by rw [← hll]; omega) hst5.mod)
                      have A0 := Lib.hid hst5.a
                      have M0 := hst5.mod
                      clear HST hst5 hdo hjo hvo hro hll
                      go_wp2_with fail
                      refine HGO.out.mono ?_
                      rintro e6 w6 ⟨rfl, m6⟩
                      have M1 := (M0.trans0 m6).alloc (.cells (y.map V8).toArray 26)
                      have A1_0 := Lib.hid (hp_old (o := (.cells (y.map V8).toArray 26)) (m6.get0 A0.out))
                      have A1_1 := Lib.hid (hp_new w6 (.cells (y.map V8).toArray 26) _ rfl)
                      have hS := storeNewD w6 y HYL0.out
                      clear m6 M0 A0
                      go_wp2_with fail
                      clear hS
                      refine (PU.go none 0 0 [] _ rfl rfl (Rd.nil _ _ _ _) (by simp) (by simp) M1).mono ?_
                      rintro e7 w7 ⟨rfl, m7⟩
                      have M2 := (M1.trans0 m7).alloc (.cells (u.map V8).toArray 26)
                      have A2_0 := Lib.hid (hp_old (o := (.cells (u.map V8).toArray 26)) (m7.get0 A1_0.out))
                      have A2_1 := Lib.hid (hp_old (o := (.cells (u.map V8).toArray 26)) (m7.get0 A1_1.out))
                      have A2_2 := Lib.hid (hp_new w7 (.cells (u.map V8).toArray 26) _ rfl)
                      have hS := storeNewD w7 u HUL.out
                      clear m7 M1 A1_0 A1_1
                      go_wp2_with fail
                      clear hS
                      refine (PX.ref pp cp xs.length xs _ rfl rfl (HR.out.mod0 M2) (fun x hx => (HX.out x hx).mod0 M2) (by omega) M2).mono ?_
                      rintro e8 w8 ⟨rfl, m8⟩
                      have M3 := (M2.trans0 m8).alloc (.cells (z.map V8).toArray 26)
                      have A3_0 := Lib.hid (hp_old (o := (.cells (z.map V8).toArray 26)) (m8.get0 A2_0.out))
                      have A3_1 := Lib.hid (hp_old (o := (.cells (z.map V8).toArray 26)) (m8.get0 A2_1.out))
                      have A3_2 := Lib.hid (hp_old (o := (.cells (z.map V8).toArray 26)) (m8.get0 A2_2.out))
                      have A3_3 := Lib.hid (hp_new w8 (.cells (z.map V8).toArray 26) _ rfl)
                      have hS := storeNewD w8 z HZL.out
                      clear m8 M2 A2_0 A2_1 A2_2
                      go_wp2_with fail
                      clear hS
                      refine (joined_any pp cp xs _ (HR.out.mod0 M3) (fun x hx => (HX.out x hx).mod0 M3) (by omega) (by omega)).mono ?_
                      rintro e9 w9 ⟨v9, rfl, hown9, m9⟩
                      obtain ⟨p9, c9, rfl, hr9, _⟩ := hown9.rd
                      have HR9 := Lib.hid hr9
                      clear hown9 hr9
                      have M4 := M3.trans0 m9
                      have A4_0 := Lib.hid (m9.get0 A3_0.out)
                      have A4_1 := Lib.hid (m9.get0 A3_1.out)
                      have A4_2 := Lib.hid (m9.get0 A3_2.out)
                      have A4_3 := Lib.hid (m9.get0 A3_3.out)
                      clear m9 M3 A3_0 A3_1 A3_2 A3_3
                      have hjl : (joined xs).length ≤ 1048576 := by rw [joined_length]; exact hl
                      go_wp2_with fail
                      refine (other_any p9 c9 (joined xs) _ HR9.out (by omega)).mono ?_
                      rintro e10 w10 ⟨rfl, hO10, m10⟩
                      have HO10 := Lib.hid hO10
                      have hol := otherOf_length (joined xs)
                      clear hO10
                      have M5 := M4.trans0 m10
                      have A5_0 := Lib.hid (m10.get0 A4_0.out)
                      have A5_1 := Lib.hid (m10.get0 A4_1.out)
                      have A5_2 := Lib.hid (m10.get0 A4_2.out)
                      have A5_3 := Lib.hid (m10.get0 A4_3.out)
                      clear m10 M4 A4_0 A4_1 A4_2 A4_3
                      go_wp2_with fail
                      refine (SY.ref _ _ _ _ hol.symm (rd_whole HO10.out (by omega)) M5).mono ?_
                      rintro e11 w11 ⟨rfl, m11⟩
                      have M6 := (M5.trans0 m11).alloc (.cells (y.map V8).toArray 26)
                      have A6_0 := Lib.hid (hp_old (o := (.cells (y.map V8).toArray 26)) (m11.get0 A5_0.out))
                      have A6_1 := Lib.hid (hp_old (o := (.cells (y.map V8).toArray 26)) (m11.get0 A5_1.out))
                      have A6_2 := Lib.hid (hp_old (o := (.cells (y.map V8).toArray 26)) (m11.get0 A5_2.out))
                      have A6_3 := Lib.hid (hp_old (o := (.cells (y.map V8).toArray 26)) (m11.get0 A5_3.out))
                      have A6_4 := Lib.hid (hp_new w11 (.cells (y.map V8).toArray 26) _ rfl)
                      have hS := storeNewD w11 y HYL0.out
                      clear m11 M5 A5_0 A5_1 A5_2 A5_3 HO10 HR9 hol
                      go_wp2_with fail
                      clear hS
                      refine (SU.ref none 0 0 _ rfl (Rd.nil _ _ _ _) M6).mono ?_
                      rintro e12 w12 ⟨rfl, m12⟩
                      have M7 := (M6.trans0 m12).alloc (.cells (u.map V8).toArray 26)
                      have hL0 := loadDv z HZL.out (hp_old (o := (.cells (u.map V8).toArray 26)) (m12.get0 A6_0.out))
                      have hL1 := loadDv y HYL0.out (hp_old (o := (.cells (u.map V8).toArray 26)) (m12.get0 A6_1.out))
                      have hL2 := loadDv u HUL.out (hp_old (o := (.cells (u.map V8).toArray 26)) (m12.get0 A6_2.out))
                      have hL3 := loadDv z HZL.out (hp_old (o := (.cells (u.map V8).toArray 26)) (m12.get0 A6_3.out))
                      have hL4 := loadDv y HYL0.out (hp_old (o := (.cells (u.map V8).toArray 26)) (m12.get0 A6_4.out))
                      have hL5 := loadDv u HUL.out (hp_new w12 (.cells (u.map V8).toArray 26) _ rfl)
                      have hS := storeNewD w12 u HUL.out
                      have hE := fun w => eqD w z z HZL.out HZL.out
                      have hE2 := fun w => eqD w y y HYL0.out HYL0.out
                      have hE3 := fun w => eqD w u u HUL.out HUL.out
                      have hG := eqGuardD
                      clear m12 M6 A6_0 A6_1 A6_2 A6_3 A6_4
                      go_wp2_with fail
                      go_ret
                      exact ⟨rfl, M7⟩
end Go.Proofs.YtmjdfglidfdkaaaDoor
